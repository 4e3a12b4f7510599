/- pappusref07.Same and pappusref11.SameBlock: what is the same is told so. -/
import Derived.ArgAppend
import Derived.Test.YtdkkjchclkjleaaGreatDoorSC9
import Derived.Test.YtdkkjchclkjleaaGreatDoorSC3
import Derived.Test.YtdkkjchclkjleaaGreatDoorSC4
import Derived.Test.YtdkkjchclkjleaaGreatDoorSC7
import Derived.Test.YtdkkjchclkjleaaGreatDoorSC8
import Derived.Test.YtdkkjchclkjleaaGreatDoorSC6
set_option linter.unusedVariables false
set_option linter.unusedSimpArgs false
set_option linter.unnecessarySimpa false
set_option linter.all false
set_option maxRecDepth 20000
set_option maxHeartbeats 16000000
namespace Go.Proofs.YtdkkjchclkjleaaGreatDoor
open Go Go.RowKit Go.Maps Go.MapKept
open Go.Proofs.Tryz(prog)
open List(mem_map getElem?_eq_getElem mem_of_getElem? mem_cons take_add_one take_length mem_filter getElem?_map nodup_cons filter_append getElem?_cons_succ getElem_of_mem)
open Nat(le_refl zero_le le_of_eq add_comm)
theorem Yz {a b:Option Addr} {n m c d:Nat} (h:Value.slice a n c=.slice b m d):a=b∧n=m∧c=d:=by
 injection h with h1 h2 h3
 exact⟨h1,h2,h3⟩
theorem zka (w:World) {t:TxD} {cs ds:List Value} (m:TxQ w t cs) (hy:TxQ w t ds) (hI:t.ins.length≤1000) (hO:t.outs.length≤1000):
  Calls prog 31 #[.agg cs.toArray,.agg ds.toArray] w λe w'=>e=.returned (.bool true)∧Fr No w w':=by
 obtain⟨q,r,s,y,rfl,-,xi,xo⟩:=m
 obtain⟨X,G,Y,H,rfl,-,yi,yo⟩:=hy
 obtain⟨dO,uO,rO⟩:=Z0
 have zI:=Zn
 have zO:=xm
 have f1:Fr No w (w.alloc (.cells #[.int .u32 t.ver,.slice q t.ins.length r,.slice s t.outs.length y] 34)):=(frN w).alloc _
 have P:Fr No (w.alloc (.cells #[.int .u32 t.ver,.slice q t.ins.length r,.slice s t.outs.length y] 34)) ((w.alloc (.cells #[.int .u32 t.ver,.slice q t.ins.length r,.slice s t.outs.length y] 34)).alloc (.cells #[.int .u32 t.ver,.slice X t.ins.length G,.slice Y t.outs.length H] 34)):=(frN _).alloc _
 obtain⟨a0,a1,a2,-⟩:=qN w t.ver (.slice q t.ins.length r) (.slice s t.outs.length y)
 obtain⟨b0,b1,b2,-⟩:=qN (w.alloc (.cells #[.int .u32 t.ver,.slice q t.ins.length r,.slice s t.outs.length y] 34)) t.ver (.slice X t.ins.length G) (.slice Y t.outs.length H)
 rw[show(w.alloc (.cells #[.int .u32 t.ver,.slice q t.ins.length r,.slice s t.outs.length y] 34)).heap.size=w.heap.size+1 by simp] at b0 b1 b2
 have c1:=P.cell a1 _root_.id
 have c2:=P.cell a2 _root_.id
 have C2:=J c2
 have B1:=J b1
 have B2:=J b2
 have I:=J (f1.trans0 P)
 have XI:=J (xi.keep0 I.o)
 have YI:=J (yi.keep0 I.o)
 have XO:=J (xo.keep I.o)
 have YO:=J (yo.keep I.o)
 clear f1 xi yi xo yo a1 a2
 have c0:=P.cell a0 _root_.id
 clear a0 P
 show Calls prog 31 #[.agg #[.int .u32 t.ver,.slice q t.ins.length r,.slice s t.outs.length y],.agg #[.int .u32 t.ver,.slice X t.ins.length G,.slice Y t.outs.length H]] w _
 go_enter Tryz.func31,Tryz.ntmps31
 go_wp2_with fail
 generalize ((w.alloc (.cells #[.int .u32 t.ver,.slice q t.ins.length r,.slice s t.outs.length y] 34)).alloc (.cells #[.int .u32 t.ver,.slice X t.ins.length G,.slice Y t.outs.length H] 34))=w2 at*
 clear c0 c1 c2 b0 b1 b2
 go_loopw [35] (λC wr=>∃n:Nat,C=.int .i64 n∧n≤t.ins.length∧Fr No w2 wr) (λC _=>t.ins.length-(intOf C).toNat)
 case atStart=>exact⟨0,rfl,zero_le _,Fr.refl _ _⟩
 case round=>
  obtain⟨n,rfl,hn,fr⟩:=hrel
  have F:=J fr
  clear fr
  by_cases d:n<t.ins.length
  ·have i1:(n:Int)<(t.ins.length:Int):=by omega
   obtain⟨x,m⟩:∃x,t.ins[n]? =some x:=⟨_,getElem?_eq_getElem d⟩
   obtain⟨bx,ox,cx,xs,j,g,D,E,rfl,b,Q⟩:=(XI.o.keep0 F.o).at_ m
   obtain⟨a,l,cy,ys,k,i,ma,mc,rfl,-,R⟩:=(YI.o.keep0 F.o).at_ m
   obtain⟨rfl,-,rfl⟩:=Yz j
   obtain⟨rfl,-,rfl⟩:=Yz k
   have O:=J b
   have PL:=J (zY b)
   have IL:=J (vo b (.slice D x.key.length E))
   have R1:=J g
   have U:=J (zcO i b)
   have KX:=J Q
   have KY:=J R
   have o:=J ((frN wr).alloc (.cells (inC x.from_ (.slice D x.key.length E)).toArray 108))
   have N:=J (YN wr (p:=x.from_) (kv:=.slice D x.key.length E) b)
   clear g i Q R j k m b
   have⟨Z,K1⟩:=tZ2
   go_wp2_with ((first|((with_reducible refine zt ?_);clear Z;refine zn0 rfl rfl rfl R1.o IL.o ?_)|((with_reducible refine zv ?_);clear K1;refine zn9 (w:=wr) (cs:=inC x.from_ (.slice D x.key.length E)) rfl rfl rfl rfl IL.o jQ ?_;generalize wr.alloc (.cells (inC x.from_ (.slice D x.key.length E)).toArray 108)=c at*));go_frame)
   have S:=J ((o.o.trans0 (frN c).drew))
   have V:=J (λ(W:World) (f:Fr No c W)=>(⟨za N.o.1 f _root_.id,f.cell N.o.2 _root_.id,((F.o.trans0 o.o).trans0 f).cell B1.o _root_.id,za U.o.1 (o.o.trans0 f) _root_.id,(o.o.trans0 f).cell U.o.2 _root_.id⟩:W.rangeAt wr.heap.size 0 (zn x.from_)∧W.cell? ⟨wr.heap.size,33,none⟩=some (.slice D x.key.length E)∧W.cell? ⟨w.heap.size+1,1,none⟩=some (.slice (some ⟨a,l,none⟩) t.ins.length G)∧W.rangeAt a (l+n*34) (zn x.from_)∧W.cell? ⟨a,l+n*34+33,none⟩=some (.slice ma x.key.length mc)))
   have M:=@J (Fr No c c.drew) ((frN c).drew)
   refine wrLx [ff,ff,ff,ff,ff,ff,ff,ff,ff,ff,ff,ff,ff,ff,ff,ff,ff,ff,tt,ff,ff] (λW=>W.rangeAt wr.heap.size 0 (zn x.from_)∧W.cell? ⟨wr.heap.size,33,none⟩=some (.slice D x.key.length E)∧W.cell? ⟨w.heap.size+1,1,none⟩=some (.slice (some ⟨a,l,none⟩) t.ins.length G)∧W.rangeAt a (l+n*34) (zn x.from_)∧W.cell? ⟨a,l+n*34+33,none⟩=some (.slice ma x.key.length mc)) ?_ (λK hK=>?_)
   ·exact V.o _ M.o
   generalize c.drew=z at*
   repeat((first|(refine zj rfl ?_;constructor;constructor;(focus(first|exact zn6 rfl (λw h=>h.1) PL.o|exact zn6 rfl (λw h=>h.2.2.2.1) PL.o|exact λw' h=>Jf.exec_neq (u:=(zn x.from_).toArray) (v:=(zn x.from_).toArray) rfl rfl rfl (xP O.o) (xP O.o) true ⟨λ_=>rfl,λ_=>rfl⟩ w'|(rintro w' ⟨s1,s2,s3,s4,s5⟩;go_simp;(try with_reducible rfl);done))))|(refine zl rfl ?_));try simp only[Act.put,pA,pB,pC])
   (refine zE rfl (λK' hK'=>?_))
   go_simp
   refine(zij z _ _ x.key x.key (KX.o.2.keep (o.o.trans0 M.o)) (KY.o.2.keep (o.o.trans0 M.o)) KX.o.2.len).mono ?_
   rintro e w5 ⟨rfl,f5⟩
   have F5:=J f5
   clear f5
   have DT:=@J (decide (x.key=x.key)=true) (by simp)
   rw[DT.o]
   refine nXt hK' ?_ λhS=>?_
   ·exact V.o _ (M.o.trans0 F5.o)
   try simp only[Act.put,pA,pB,pC]
   repeat((first|(refine zj rfl ?_;constructor;constructor;(focus(first|(rintro w' ⟨s1,s2,s3,s4,s5⟩;go_simp;(try with_reducible rfl);done))))|(refine zl rfl ?_));try simp only[Act.put,pA,pB,pC])
   refine zL (hK.out _ _ ?_)
   go_wp2_with fail
   go_roundw
   case rel=>exact⟨n+1,by go_num,by omega,(F.o.trans0 o.o).trans0 (M.o.trans0 F5.o)⟩
   case measure=>simp[intOf];omega
  ·have B:n=t.ins.length:=by omega
   subst B
   clear d hn
   have i1:¬(t.ins.length:Int)<(t.ins.length:Int):=by omega
   have c2:=F.o.cell C2.o _root_.id
   go_wp2_with fail
   (try simp only[Exit.inBlock,Exit.then])
   clear c2
   go_loopw [65] (λC A=>∃n:Nat,C=.int .i64 n∧n≤t.outs.length∧Fr No w2 A) (λC _=>t.outs.length-(intOf C).toNat)
   case atStart=>exact⟨0,rfl,zero_le _,F.o⟩
   case round=>
    obtain⟨n,rfl,hn,fr⟩:=hrel
    have L:=J fr
    clear fr
    by_cases d:n<t.outs.length
    ·have i1:(n:Int)<(t.outs.length:Int):=by omega
     obtain⟨x,m⟩:∃x,t.outs[n]? =some x:=⟨_,getElem?_eq_getElem d⟩
     obtain⟨bx,ox,cx,j,g,-⟩:=(XO.o.keep L.o).at_ m
     obtain⟨a,l,cy,k,i,-⟩:=(YO.o.keep L.o).at_ m
     obtain⟨rfl,-,rfl⟩:=Yz j
     obtain⟨rfl,-,rfl⟩:=Yz k
     have OK:=J (XO.o.1 x (mem_of_getElem? m))
     have T:=J (yr OK.o)
     have R1:=J g
     have U:=J i
     rename World=>A
     have o:=J ((frN A).alloc (.cells (zJ x).toArray 103))
     have RA:=J (zy A (zJ x) 103)
     clear g i j k m
     have⟨Z,K1⟩:=tZ2
     go_wp2_with ((first|((with_reducible refine zt ?_);clear Z;refine zn2 rfl rfl rfl R1.o T.o ?_)|((with_reducible refine zv ?_);clear K1;refine zoa (w:=A) (cs:=zJ x) rfl rfl rfl rfl T.o yc ?_;generalize A.alloc (.cells (zJ x).toArray 103)=c at*));go_frame)
     have S:=J (o.o.trans0 (frN c).drew)
     have V:=@J (c.drew.rangeAt A.heap.size 0 (zJ x)∧c.drew.cell? ⟨w.heap.size+1,2,none⟩=some (.slice (some ⟨a,l,none⟩) t.outs.length H)∧c.drew.rangeAt a (l+n*33) (zJ x)) (⟨za RA.o (frN c).drew _root_.id,(L.o.trans0 S.o).cell B2.o _root_.id,za U.o S.o _root_.id⟩)
     refine wrLx [ff,ff,ff,ff,ff,ff,ff] (λW=>W.rangeAt A.heap.size 0 (zJ x)∧W.cell? ⟨w.heap.size+1,2,none⟩=some (.slice (some ⟨a,l,none⟩) t.outs.length H)∧W.rangeAt a (l+n*33) (zJ x)) ?_ (λK hK=>?_)
     ·exact V.o
     generalize c.drew=z at*
     repeat((first|(refine zj rfl ?_;constructor;constructor;(focus(first|exact yK (ty:=103) rfl (λw h=>h.1) uO rO (by rw[T.o];exact yz)|exact yK (ty:=103) rfl (λw h=>h.2.2) uO rO (by rw[T.o];exact yz)|exact λw' h=>znz.exec_neq (u:=(zJ x).toArray) (v:=(zJ x).toArray) rfl rfl rfl (zeL OK.o) (zeL OK.o) true ⟨λ_=>rfl,λ_=>rfl⟩ w'|(rintro w' ⟨s1,s2,s3⟩;go_simp;(try with_reducible rfl);done))))|(refine zl rfl ?_));try simp only[Act.put,pA,pB,pC])
     refine zL (hK.out _ _ ?_)
     go_wp2_with fail
     go_roundw
     case rel=>exact⟨n+1,by go_num,by omega,L.o.trans0 S.o⟩
     case measure=>simp[intOf];omega
    ·have B:n=t.outs.length:=by omega
     subst B
     clear d hn
     have i1:¬(t.outs.length:Int)<(t.outs.length:Int):=by omega
     go_wp2
     go_ret
     exact⟨rfl,I.o.trans0 L.o⟩
structure StE where
 id:zd
 tx:TxD
def yV (l:List StE):List zd:=l.map (·.id)
def J9 (l:List StE) (q:zF):Bool:=l.any λe=>decide (q∈zW e.tx)
theorem YT {l:List StE} {q:zF}:J9 l q=true↔∃e∈l,q∈zW e.tx:=by simp[J9]
def Qm (l:List StE) (x:zd):Option StE:=l.find? λe=>decide (e.id=x)
theorem zgl {l:List StE} {x:zd} {e:StE} (h:Qm l x=some e):e∈l∧e.id=x:=by
 unfold Qm at h
 exact⟨List.mem_of_find?_eq_some h,by simpa using List.find?_some h⟩
theorem zgk {l:List StE} {x:zd}:Qm l x=none↔x∉yV l:=by
 unfold Qm yV
 rw[List.find?_eq_none]
 simp only[decide_eq_true_eq,mem_map,not_exists,not_and]
theorem zc7:∀ {l:List StE},(yV l).Nodup→∀ {e:StE},e∈l→Qm l e.id=some e
 |[],_,_,h=>by cases h
 |x::r,hn,e,h=>by
  obtain⟨a,b⟩:=nodup_cons.1 hn
  unfold Qm
  rcases mem_cons.1 h with rfl|h
  ·simp
  ·have:x.id≠e.id:=λc=>a (by show x.id∈_;rw[c];exact mem_map.2 ⟨e,h,rfl⟩)
   rw[List.find?_cons_of_neg (by simpa using this)]
   exact zc7 b h
def zc8 (l:List StE) (q:zF):Option yE:=(Qm l q.tx).bind λe=>e.tx.outs[q.n.toNat]?
def ZV (S:List zr) (L:List yb) (l:List StE) (q:zF):Option yE:=match qQ S L q with
 |some x=>some x
 |none=>zc8 l q
def jw (S:List zr) (L:List yb) (l:List StE) (t:TxD):List yE:=(zW t).map λq=>(ZV S L l q).getD y6
def Y9 (S:List zr) (L:List yb) (l:List StE) (t:TxD):Int:=
 if(zW t).any (λq=>J9 l q||qf L q)=true then 14 else if(zW t).all (λq=>(ZV S L l q).isSome)=true then
  (if vz t (jw S L l t)≠0 then vz t (jw S L l t) else if j7 t (jw S L l t)<jF (qR t) then 17 else 0) else 15
def jX (I:List zd) (L:List yb) (l:List StE) (x:zd):Int:=
 if x∈yV l∨x∈xq L then 10 else if x∈I then 19 else if 4≤l.length then 18 else 0
noncomputable def jY (S:List zr) (I:List zd) (L:List yb) (l:List StE) (t:TxD):Int:=
 if yF t≠0 then yF t else if jX I L l (idH t)≠0 then jX I L l (idH t) else Y9 S L l t
noncomputable def Qg (S:List zr) (I:List zd) (L:List yb) (l:List StE) (t:TxD):List StE:=if jY S I L l t=0 then l++[⟨idH t,t⟩] else l
abbrev StQ:=Nat→List StE
def vu (Q:StQ) (i:Nat) (l:List StE):StQ:=λj=>if j=i then l else Q j
theorem xB (Q:StQ) (i:Nat) (l:List StE):vu Q i l i=l:=if_pos rfl
theorem qD (Q:StQ) {i j:Nat} (l:List StE) (h:j≠i):vu Q i l j=Q j:=if_neg h
theorem zd3 (Q:StQ) (i:Nat):vu Q i (Q i)=Q:=by
 funext j
 unfold vu
 split
 ·rename_i h;rw[h]
 ·rfl
def Vc (l:List StE) (x:zd):List StE:=l.filter λe=>decide (e.id≠x)
def Yg:List StE→List zd→List zd
 |[],_=>[]
 |e::r,want=>if e.id∈want then e.id::Yg r ((zW e.tx).map (·.tx)++want) else Yg r want
def qB (l:List StE) (x:zd):List zd:=Yg l.reverse [x]
def jK (l:List StE) (x:zd):List StE:=l.filter λe=>decide (e.id∈qB l x)
def Ql (l:List StE) (x:zd):List StE:=l.filter λe=>decide (e.id∉qB l x)
def ZO (Q:StQ):List Nat:=(List.range 65).filter λi=>decide (Q i≠[])
structure SVal (l:List StE):Prop where
 nd:(yV l).Nodup
 apart:l.Pairwise λa b=>∀q∈zW a.tx,q∉zW b.tx
 ent:∀e∈l,yF e.tx=0∧e.id=idH e.tx
 len:l.length≤4
theorem SVal.nil:SVal []:=⟨by simp[yV],List.Pairwise.nil,by simp,by simp⟩
theorem SVal.filter {l:List StE} (h:SVal l) (p:StE→Bool):SVal (l.filter p):=
 ⟨h.nd.sublist (List.filter_sublist.map _),h.apart.sublist List.filter_sublist,λe a=>h.ent e (mem_filter.1 a).1,Nat.le_trans (List.length_filter_le _ _) h.len⟩
theorem keep0 {S:List zr} {I:List zd} {L:List yb} {l:List StE} {t:TxD} (h:jY S I L l t=0):
  yF t=0∧idH t∉yV l∧idH t∉xq L∧idH t∉I∧l.length<4∧(∀q∈zW t,J9 l q=false∧qf L q=false)∧(∀q∈zW t,(ZV S L l q).isSome=true)∧vz t (jw S L l t)=0∧jF (qR t)≤j7 t (jw S L l t):=by
 unfold jY at h
 split at h
 ·rename_i h1;exact absurd h h1
 rename_i h1
 split at h
 ·rename_i h2;exact absurd h h2
 rename_i h2
 have a:jX I L l (idH t)=0:=by omega
 unfold jX at a
 split at a; · cases a
 rename_i h4
 split at a; · cases a
 rename_i h5
 split at a; · cases a
 rename_i h6
 unfold Y9 at h
 split at h; · cases h
 rename_i h7
 split at h
 ·rename_i h8
  split at h
  ·rename_i h9;exact absurd h h9
  rename_i h9
  split at h; · cases h
  rename_i h10
  simp only[List.any_eq_true,Bool.or_eq_true,not_exists,not_and,not_or,Bool.not_eq_true] at h7
  simp only[List.all_eq_true] at h8
  exact⟨by omega,λe=>h4 (.inl e),λe=>h4 (.inr e),h5,by omega,h7,h8,by omega,by omega⟩
 ·cases h
theorem SVal.keep {S:List zr} {I:List zd} {L:List yb} {l:List StE} (h:SVal l) (t:TxD):SVal (Qg S I L l t):=by
 unfold Qg
 split
 ·rename_i h0
  obtain⟨j,k,n,o,p,m,r,s,u⟩:=keep0 h0
  refine⟨?_,?_,?_,?_⟩
  ·unfold yV at*
   rw[List.map_append,List.nodup_append]
   exact⟨h.nd,by simp,λa f b d=>by simp at d;subst d;rintro rfl;exact k f⟩
  ·refine List.pairwise_append.2 ⟨h.apart,by simp,λa f b d q i g=>?_⟩
   obtain rfl:=List.mem_singleton.1 d
   have:=(m q g).1
   rw[YT.2 ⟨a,f,i⟩] at this
   cases this
  ·intro e c
   rcases List.mem_append.1 c with c|c
   ·exact h.ent e c
   ·obtain rfl:=List.mem_singleton.1 c
    exact⟨j,rfl⟩
  ·rw[List.length_append,List.length_singleton];omega
 ·exact h
theorem zjd (l:List StE) (x:zd):yV (Vc l x)=(yV l).filter λy=>decide (y≠x):=by
 unfold yV Vc
 rw[List.filter_map]
 rfl
theorem J2 (l:List StE):(yV l).length=l.length:=List.length_map _
def skC (k:Int×zd):List Value:=.int .i64 k.1::zf k.2
def skV (k:Int×zd):Value:=.agg (skC k).toArray
def spC (k:Int×zF):List Value:=.int .i64 k.1::zn k.2
def spV (k:Int×zF):Value:=.agg (spC k).toArray
def Y3 (x:Int):Prop:= -9223372036854775808≤x∧x≤9223372036854775807
theorem zhg {x:Int} (h:Y3 x):(Lit.int .i64 x).wf=true:=by
 unfold Y3 at h
 simp[Lit.wf,IntKind.min,IntKind.max,IntKind.signed,IntKind.bits]
 omega
theorem JS {k:Int×zd} (h:zX k.2):(skC k).length=33:=by simp[skC,zx h]
theorem zbe {k:Int×zF} (h:k.2.ok):(spC k).length=34:=by simp[spC,zY h]
theorem zdT {k:Int×zd}:∀v∈skC k,v.oneCell'=true:=by
 intro v a
 rcases mem_cons.1 a with rfl|a
 ·rfl
 ·exact zS v a
theorem zdU {a b:Int×zd} (h:skV a=skV b):a=b:=by
 obtain⟨x,l⟩:=a
 obtain⟨y,m⟩:=b
 unfold skV at h
 injection h with h
 have c:skC (x,l)=skC (y,m):=by simpa using congrArg Array.toList h
 simp only[skC,List.cons.injEq,Value.int.injEq,true_and] at c
 rw[c.1,yY (show xp l=xp m by unfold xp;rw[c.2])]
theorem zbf {a b:Int×zF} (h:spV a=spV b):a=b:=by
 obtain⟨x,l⟩:=a
 obtain⟨y,m⟩:=b
 unfold spV at h
 injection h with h
 have c:spC (x,l)=spC (y,m):=by simpa using congrArg Array.toList h
 simp only[spC,List.cons.injEq,Value.int.injEq,true_and] at c
 rw[c.1,zbZ c.2]
theorem zdE {k:Int×zd} (hi:Y3 k.1) (h:zX k.2):∃l,keyOf prog 110 (skV k)=some l:=by
 have shape:xS prog 110=[(3,0,true),(41,1,true)]:=by kernel_rfl
 have b:prog.types.size=prog.types.size-2+2:=by kernel_rfl
 refine JA shape (by simp) (by decide) (by kernel_rfl) (cs:=skC k) (by rw[JS h];kernel_rfl) ?_
 intro x a
 rw[b]
 simp only[mem_cons,List.not_mem_nil,or_false] at a
 rcases a with rfl|rfl
 ·have e:((skC k).drop 0).take (prog.cellsOf 3)=[.int .i64 k.1]:=by
   rw[show prog.cellsOf 3=1 by kernel_rfl];rfl
  exact⟨_,by rw[e];exact JO (by kernel_rfl) _ (zhg hi)⟩
 ·have e:((skC k).drop 1).take (prog.cellsOf 41)=zf k.2:=by
   rw[show prog.cellsOf 41=32 by kernel_rfl]
   show(zf k.2).take 32=zf k.2
   rw[List.take_of_length_le (by rw[zx h];exact le_refl _)]
  simp only[e]
  exact Vo h _
theorem za6 {k:Int×zF} (hi:Y3 k.1) (h:k.2.ok):∃l,keyOf prog 118 (spV k)=some l:=by
 have shape:xS prog 118=[(3,0,true),(95,1,true)]:=by kernel_rfl
 have b:prog.types.size=prog.types.size-3+3:=by kernel_rfl
 refine JA shape (by simp) (by decide) (by kernel_rfl) (cs:=spC k) (by rw[zbe h];kernel_rfl) ?_
 intro x a
 rw[b]
 simp only[mem_cons,List.not_mem_nil,or_false] at a
 rcases a with rfl|rfl
 ·have e:((spC k).drop 0).take (prog.cellsOf 3)=[.int .i64 k.1]:=by
   rw[show prog.cellsOf 3=1 by kernel_rfl];rfl
  exact⟨_,by rw[e];exact JO (by kernel_rfl) _ (zhg hi)⟩
 ·have e:((spC k).drop 1).take (prog.cellsOf 95)=zn k.2:=by
   rw[show prog.cellsOf 95=33 by kernel_rfl]
   show(zn k.2).take 33=zn k.2
   rw[List.take_of_length_le (by rw[zY h];exact le_refl _)]
  simp only[e]
  exact zco (hsh:=rfl) (by rw[ZM];simp) (by rw[ZM];decide) (by rw[zY h];kernel_rfl) _ (zb0 h _)
theorem zmz:EqN prog 110:=⟨Keyed.of_law (deep_law_laid Yq (m:=3) (by decide) (of_decide_eq_true (by kernel_rfl)) (by kernel_rfl) (by kernel_rfl)),⟨3,by decide,by kernel_rfl⟩,by kernel_rfl,by kernel_rfl⟩
theorem zkT:EqN prog 118:=⟨Keyed.of_law (deep_law_laid Yq (m:=4) (by decide) (of_decide_eq_true (by kernel_rfl)) (by kernel_rfl) (by kernel_rfl)),⟨4,by decide,by kernel_rfl⟩,by kernel_rfl,by kernel_rfl⟩
theorem zan:(prog.info? 110).map (·.size)=some 33:=by kernel_rfl
theorem zmp:∃d,prog.underlying 110=some d∧d.isRow=true:=vK (by kernel_rfl)
theorem zcf:prog.underlying 113=some (.map 110 34):=by kernel_rfl
theorem VR:prog.underlying 114=some (.map 118 41):=by kernel_rfl
def zft:List Value:=[.int .u32 0,.slice none 0 0,.slice none 0 0]
theorem jA (w:World):(zeroValue 34).run prog w=.ok (Qu zft) w:=by kernel_rfl
abbrev vB (w:World) (m:Nat) (M:List ((Int×zd)×List Value)):Prop:=yD prog 110 skV Qu w m M
abbrev Ym (w:World) (m:Nat) (M:List ((Int×zF)×zd)):Prop:=yD prog 118 spV xp w m M
def stC (ma ms:Nat) (R:Nat→Value):List Value:=.map (some ma)::((List.range 65).map R++[.map (some ms)])
theorem zlB (ma ms:Nat) (R:Nat→Value):(stC ma ms R).length=67:=by simp[stC]
theorem VH {ma ms:Nat} {R:Nat→Value} {i:Nat} (h:i<65):(stC ma ms R)[i+1]? =some (R i):=by
 unfold stC
 rw[getElem?_cons_succ,List.getElem?_append_left (by simpa using h),getElem?_map,List.getElem?_range h]
 rfl
theorem zdW {ma ms:Nat} {R:Nat→Value}:(stC ma ms R)[66]? =some (.map (some ms)):=by
 unfold stC
 rw[getElem?_cons_succ,List.getElem?_append_right (by simp)]
 simp
theorem zg8 {ma ms:Nat} {R:Nat→Value} {i:Nat} (h:i<65) (v:Value):(stC ma ms R).set (i+1) v=stC ma ms (λj=>if j=i then v else R j):=by
 refine List.ext_getElem? λk=>?_
 by_cases hk:k=i+1
 ·subst hk
  rw[List.getElem?_set_self (by rw[zlB];omega),VH h,if_pos rfl]
 ·rw[List.getElem?_set_ne (λe=>hk e.symm)]
  unfold stC
  cases k with
  |zero=>rfl
  |succ k=>
   rw[getElem?_cons_succ,getElem?_cons_succ]
   by_cases h65:k<65
   ·rw[List.getElem?_append_left (by simpa using h65),List.getElem?_append_left (by simpa using h65),getElem?_map,getElem?_map,List.getElem?_range h65]
    simp only[Option.map_some]
    rw[if_neg (by omega)]
   ·rw[List.getElem?_append_right (by simp;omega),List.getElem?_append_right (by simp;omega)]
    simp
def stV (p ma ms:Nat) (R:Nat→Value):Nat→Prop:=λj=>j=p∨j=ma∨j=ms∨∃i,i<65∧(R i).ownBlock=some j
structure yM (w0 w:World) (p ma ms:Nat) (R:Nat→Value) (X:Nat→Prop) (C:Nat→zd→List Value) (Q:StQ):Prop where
 obj:w.heap[p]? =some (.cells (stC ma ms R).toArray 116 (0,0))
 row:∀i,i<65→w.ownsRow w0.heap.size 41 32 (R i) (yV (Q i)).length ((yV (Q i)).flatMap zf)
 am:∃M,vB w ma M∧∀k cs,(k,cs)∈M↔∃i:Nat,i<65∧k.1=(i:Int)∧∃e∈Q i,e.id=k.2∧cs=C i k.2
 sm:∃M,Ym w ms M∧∀k x,(k,x)∈M↔∃i:Nat,i<65∧k.1=(i:Int)∧∃e∈Q i,k.2∈zW e.tx∧e.id=x
 data:∀i,i<65→∀e∈Q i,Kept X w (λw=>TxQ w e.tx (C i e.id))
 val:∀i,SVal (Q i)
 apart:p≠ma∧p≠ms∧ma≠ms
 rnot:∀i,i<65→∀j,(R i).ownBlock=some j→j≠p∧j≠ma∧j≠ms
 rapart:∀i k,i<65→k<65→i≠k→∀j,(R i).ownBlock=some j→(R k).ownBlock≠some j
 lo3:w0.heap.size≤p∧w0.heap.size≤ma∧w0.heap.size≤ms
 fr:Fr No w0 w
 sub:∀j,stV p ma ms R j→X j
section
variable {w0 w w':World} {p ma ms:Nat} {R:Nat→Value} {X:Nat→Prop} {C:Nat→zd→List Value} {Q:StQ}
theorem yM.lo (h:yM w0 w p ma ms R X C Q):∀j,stV p ma ms R j→w0.heap.size≤j:=by
 obtain⟨b,c,d⟩:=h.lo3
 rintro j (rfl|rfl|rfl|⟨i,hi,a⟩)
 ·exact b
 ·exact c
 ·exact d
 ·exact((h.row i hi).lt j a).1
theorem yM.hi (h:yM w0 w p ma ms R X C Q):∀j,stV p ma ms R j→j<w.heap.size:=by
 obtain⟨M,b,-⟩:=h.am
 obtain⟨M',a,-⟩:=h.sm
 rintro j (rfl|rfl|rfl|⟨i,hi,c⟩)
 ·exact yG h.obj
 ·exact b.lt
 ·exact a.lt
 ·exact((h.row i hi).lt j c).2
theorem yM.frV (h:yM w0 w p ma ms R X C Q) {U X':Nat→Prop} (f:Fr U w w') (a:∀j,stV p ma ms R j→¬U j) (g:∀j,U j→w0.heap.size≤j) (c:∀j,U j→X j) (l:∀j,j<w.heap.size→X' j→X j) (q:∀j,stV p ma ms R j→X' j):yM w0 w' p ma ms R X' C Q:=by
 obtain⟨M,k,o⟩:=h.am
 obtain⟨M',b,d⟩:=h.sm
 exact {h with
  obj:=f.obj h.obj (a _ (.inl rfl))
  row:=λi hi=>zb (h.row i hi) f (λj n=>a j (.inr (.inr (.inr ⟨i,hi,n⟩))))
  am:=⟨M,k.keep f (a _ (.inr (.inl rfl))),o⟩
  sm:=⟨M',b.keep f (a _ (.inr (.inr (.inl rfl)))),d⟩
  data:=λi hi e m=>(h.data i hi e m).step (f.mono c) l
  fr:=h.fr.trans f (λi hi e=>by have:=g i e;omega)
  sub:=q}
theorem yM.fr0 (h:yM w0 w p ma ms R X C Q) (f:Fr No w w'):yM w0 w' p ma ms R X C Q:=
 h.frV f (λ_ _=>id) (λ_ h=>h.elim) (λ_ h=>h.elim) (λ_ _ h=>h) h.sub
theorem yM.idok (h:yM w0 w p ma ms R X C Q) (i:Nat):∀x∈yV (Q i),zX x:=λx b=>by
 obtain⟨e,a,rfl⟩:=mem_map.1 b
 rw[((h.val i).ent e a).2]
 exact vG _
theorem yM.cells (h:yM w0 w p ma ms R X C Q):w.cell? ⟨p,0,none⟩=some (.map (some ma))∧w.cell? ⟨p,66,none⟩=some (.map (some ms))∧∀i,i<65→w.cell? ⟨p,i+1,none⟩=some (R i):=by
 have:=zq h.obj
 refine⟨by simpa using this 0 _ rfl,by simpa using this 66 _ zdW,λi hi=>?_⟩
 have:=this (i+1) _ (VH hi)
 simpa using this
def qt (Q:StQ) (i:Int) (x:zd):Bool:=decide (0≤i∧i<65∧x∈yV (Q i.toNat))
def Yn (C:Nat→zd→List Value) (Q:StQ) (i:Int) (x:zd):List Value:=if qt Q i x=true then C i.toNat x else zft
theorem Yb {i:Int} (hi:Y3 i) {x:zd} (t:zX x) {M:List ((Int×zd)×List Value)} (o:vB w ma M) (s:∀k cs,(k,cs)∈M↔∃i:Nat,i<65∧k.1=(i:Int)∧∃e∈Q i,e.id=k.2∧cs=C i k.2) (c:Bool):
  (Instr.lookup 113 (.map (some ma)) (.agg (skC (i,x)).toArray) c).run prog w=.ok (if c then .tuple #[.agg (Yn C Q i x).toArray,.bool (qt Q i x)] else .agg (Yn C Q i x).toArray) w:=by
 have h:=o.look zmz.keyed zcf (λ_ _=>zdU) jA (zdE (k:=(i,x)) hi t) c (r:=if qt Q i x=true then some (C i.toNat x) else none) (λv=>by
  rw[s]
  by_cases h:qt Q i x=true
  ·rw[if_pos h]
   unfold qt at h
   simp only[decide_eq_true_eq] at h
   obtain⟨u,y,m⟩:=h
   obtain⟨e,q,d⟩:=mem_map.1 m
   constructor
   ·intro b
    exact⟨i.toNat,by omega,by show i=_;omega,e,q,d,(Option.some.inj b).symm⟩
   ·rintro⟨k,n,a,f,g,j,l⟩
    have:i.toNat=k:=by have a:i=(k:Int):=a;omega
    rw[l,this]
  ·rw[if_neg h]
   refine⟨λb=>(by cases b),?_⟩
   rintro⟨k,n,a,f,g,j,l⟩
   have a:i=(k:Int):=a
   refine absurd ?_ h
   unfold qt
   simp only[decide_eq_true_eq]
   refine⟨by omega,by omega,?_⟩
   rw[show i.toNat=k by omega]
   exact mem_map.2 ⟨f,g,j⟩)
 unfold skV at h
 rw[h]
 unfold Yn
 by_cases hh:qt Q i x=true<;>simp[hh,Qu]
end
theorem jg:xI prog 110=some (33,[(0,1),(1,32)]):=by kernel_rfl
theorem zbX:xI prog 118=some (34,[(0,1),(1,33)]):=by kernel_rfl
theorem Jg (i:Int) {x:zd} (h:zX x):Jw (([(0,1),(1,32)]:List (Nat×Nat)).toArray[·]?) 0 [(0,.int .i64 i),(1,.agg (zf x).toArray)]:=by
 have h:(Value.agg (zf x).toArray).cells.size=32:=by show(zf x).toArray.size=32;simpa using zx h
 exact⟨rfl,by rw[h];rfl,trivial⟩
theorem zdA (i:Int) {q:zF} (h:q.ok):Jw (([(0,1),(1,33)]:List (Nat×Nat)).toArray[·]?) 0 [(0,.int .i64 i),(1,.agg (zn q).toArray)]:=by
 have h:(Value.agg (zn q).toArray).cells.size=33:=by show(zn q).toArray.size=33;simpa using zY h
 exact⟨rfl,by rw[h];rfl,trivial⟩
theorem jf (i:Int) (x:zd):xG [(0,.int .i64 i),(1,.agg (zf x).toArray)]=skC (i,x):=by simp[xG,Value.cells,skC]
theorem zbT (i:Int) (q:zF):xG [(0,.int .i64 i),(1,.agg (zn q).toArray)]=spC (i,q):=by simp[xG,Value.cells,spC]
theorem zak {n:Nat} (h:n<65):Y3 (n:Int):=by unfold Y3;omega
theorem zih (w:World):(Instr.makeMap 113 none).run prog w=.ok (.map (some w.heap.size)) (w.alloc (.map #[] 0)):=by kernel_rfl
theorem zii (w:World):(Instr.makeMap 114 none).run prog w=.ok (.map (some w.heap.size)) (w.alloc (.map #[] 0)):=by kernel_rfl
def RZ0:Nat→Value:=λ_=>.slice none 0 0
theorem ziW (a b:Nat) (w:World):(Instr.build 116 #[(0,.map (some a)),(2,.map (some b))]).run prog w=.ok (.agg (stC a b RZ0).toArray) w:=by kernel_rfl
theorem zl2 (w0 w:World) (f:Fr No w0 w):
  Calls prog 38 #[] w λe w'=>∃p ma ms,e=.returned (.pointer (some ⟨p,0,none⟩))∧Fr No w w'∧(∀j,stV p ma ms RZ0 j→w.heap.size≤j)∧∀X:Nat→Prop,(∀j,stV p ma ms RZ0 j→X j)→∀C,yM w0 w' p ma ms RZ0 X C (λ_=>[]):=by
 have u:=zih
 have v:=zii
 have c:=@J (vB (w.alloc (.map #[] 0)) w.heap.size []) (yD.made w)
 have d:=@J (Ym ((w.alloc (.map #[] 0)).alloc (.map #[] 0)) (w.heap.size+1) []) (by have:=yD.made (P:=prog) (kt:=118) (kV:=spV) (vV:=xp) (w.alloc (.map #[] 0));rw[show(w.alloc (.map #[] 0)).heap.size=w.heap.size+1 by simp] at this;exact this)
 go_enter Tryz.func38,Tryz.ntmps38
 have l:=tru
 go_wp2_with ((with_reducible refine zt ?_);clear l;with_reducible refine yt 3 ?_;refine zg rfl (yf (t:=116) rfl rfl (ziW _ _ _)) ?_;go_frame)
 go_ret
 have g:Fr No (w.alloc (.map #[] 0)) (((w.alloc (.map #[] 0)).alloc (.map #[] 0)).alloc (.cells (stC w.heap.size (w.heap.size+1) RZ0).toArray 116)):=((frN _).alloc _).alloc _
 have h:Fr No ((w.alloc (.map #[] 0)).alloc (.map #[] 0)) (((w.alloc (.map #[] 0)).alloc (.map #[] 0)).alloc (.cells (stC w.heap.size (w.heap.size+1) RZ0).toArray 116)):=(frN _).alloc _
 have b:Fr No w (((w.alloc (.map #[] 0)).alloc (.map #[] 0)).alloc (.cells (stC w.heap.size (w.heap.size+1) RZ0).toArray 116)):=(((frN w).alloc _).alloc _).alloc _
 refine⟨w.heap.size+1+1,w.heap.size,w.heap.size+1,by simp,b,λj a=>?_,λX m C=>?_⟩
 ·rcases a with e|e|e|⟨i,hi,e⟩
  ·omega
  ·omega
  ·omega
  ·cases e
 ·have s:=f.size
  exact
   {obj:=by have:=yL ((w.alloc (.map #[] 0)).alloc (.map #[] 0)) (.cells (stC w.heap.size (w.heap.size+1) RZ0).toArray 116) (n:=w.heap.size+1+1) (by simp);exact this
    row:=λi hi=>World.ownsRow_nil _ _ _ _
    am:=⟨[],c.o.keep g id,λk cs=>by simp⟩
    sm:=⟨[],d.o.keep h id,λk x=>by simp⟩
    data:=λi hi e o=>(by cases o)
    val:=λi=>SVal.nil
    apart:=⟨by omega,by omega,by omega⟩
    rnot:=λi hi j a=>(by cases a)
    rapart:=λi k hi r q j a=>(by cases a)
    lo3:=⟨by omega,by omega,by omega⟩
    fr:=f.trans0 b
    sub:=m}
section
variable {w0 w:World} {p ma ms:Nat} {R:Nat→Value} {X:Nat→Prop} {C:Nat→zd→List Value} {Q:StQ}
theorem yM.row_form (h:yM w0 w p ma ms R X C Q) {n:Nat} (c:n<65):∃a b,R n=.slice a (Q n).length b:=by
 obtain⟨a,b,e⟩:=(h.row n c).slice.arg.form
 rw[J2] at e
 exact⟨a,b,e⟩
theorem znp (h:yM w0 w p ma ms R X C Q) {n:Nat} (c:n<65):
  Calls prog 13 #[.pointer (some ⟨p,0,none⟩),.int .i64 n] w λe w'=>∃a,e=.returned a∧RowK w w' a (yV (Q n)):=by
 have c2:=h.cells.2.2 n c
 have b:=YJ w (y3.own (h.row n c) (h.idok n)) (by rw[J2];have:=(h.val n).len;omega)
 obtain⟨l,m,k⟩:=h.row_form c
 rw[k] at c2 b
 have g:=J b
 have q:¬(n:Int)<0:=by omega
 have r:¬(64:Int)<(n:Int):=by omega
 have s:(n:Int)<65:=by omega
 have t:(0:Int)≤(n:Int):=by omega
 have o:w.cell? ⟨p,1+n,none⟩=some (.slice l (Q n).length m):=by rw[add_comm];exact c2
 clear h b
 go_enter Tryz.func13,Tryz.ntmps13
 have i:=tru
 go_wp2_with (clear i;go_at_call 42;refine g.o.mono ?_;rintro e u ⟨a,rfl,f,d⟩;have j:=J (And.intro f d);clear f d;go_frame)
 go_ret
 exact⟨a,rfl,j.o⟩
end
theorem znI (f s:Int) (w:World):(Instr.field 127 (.agg #[.int .u64 f,.int .i64 s]) 0).run prog w=.ok (.int .u64 f) w:=by kernel_rfl
section
variable {w0 w:World} {p ma ms g N:Nat} {VG X:Nat→Prop} {C:zd→List Value} {L:List yb}
theorem znF (h:yn w0 w p ma ms g VG X C L N) {x:zd} (s:zX x):Calls prog 73 #[.pointer (some ⟨p,0,none⟩),.agg (zf x).toArray] w λe w'=>∃f,e=.returned (.tuple #[.int .u64 f,.bool (decide (x∈xq L))])∧Fr No w w':=by
 obtain⟨T,F,E⟩:=Zx
 have r:=J (zx s)
 have k:=J ((frN w).alloc (.cells (zf x).toArray 41))
 have q:=J (zy w (zf x) 41)
 have d:=J (λw' (f:Fr No w w')=>zeD (h.fr0 f) s)
 have G:=J h
 by_cases hin:x∈xq L
 ·have c:=@J (decide (x∈xq L)=true) (decide_eq_true hin)
  obtain⟨e,v,j⟩:=mem_map.1 hin
  obtain⟨M,u,y⟩:=h.am
  obtain⟨z,A,B,D,i⟩:=(h.data e v).now.form
  have a:YH C L x=[.int .u32 e.tx.ver,.slice z e.tx.ins.length A,.slice B e.tx.outs.length D,.int .u64 e.fee,.int .i64 e.size,.int .u64 e.added]:=by
   unfold YH
   rw[if_pos hin,←j,i]
  have I:=J (λw' (h':qK w' ma M)=>Ys (w:=w') s h' y a)
  have H:=J u
  clear h hin u y a i j v
  rw[c.o]
  go_enter Tryz.func73,Tryz.ntmps73
  have⟨n,o⟩:=tZ2
  go_wp2_with ((first|((with_reducible refine zt ?_);clear n;refine qz rfl (zZ (ty:=41) rfl rfl q.o F E (by rw[r.o];exact yp)) ?_)|(clear o;go_at_call 99;refine(d.o _ k.o).mono ?_;rintro P S ⟨rfl,b⟩;rw[c.o];have l:=J (k.o.trans0 b);have O:=J (za q.o b id);clear b));go_frame)
  have m:=J l.o.drew
  generalize Q:w.heap.size=R at*
  refine wrLx [ff,ff,ff,ff,ff,ff,ff,ff,ff,ff] (λw'=>w'.cell? ⟨p,0,none⟩=some (.map (some ma))∧w'.rangeAt R 0 (zf x)∧qK w' ma M) ?_ (λK hK=>?_)
  ·exact⟨(G.o.fr0 m.o).cells.1,za O.o (frN _).drew id,H.o.keep m.o id⟩
  repeat((first|(refine zj rfl ?_;constructor;constructor;(focus(first|exact zn7 rfl (λw h=>h.2.1) r.o|exact λw' h=>zQ (t:=133) rfl rfl rfl (I.o w' h.2.2)|exact λw' _=>vT (t:=129) (f:=1) rfl rfl (zlY e.tx.ver z B e.tx.ins.length A e.tx.outs.length D e.fee e.size e.added w')|exact λw' _=>vT (t:=127) (f:=0) rfl rfl (znI e.fee e.size w')|(rintro w' ⟨U,V,W⟩;go_simp;(try with_reducible rfl);done))))|(refine zl rfl ?_));try simp only[Act.put,pA,pB,pC])
  refine zL (hK.out _ _ ?_)
  go_wp2_with fail
  go_ret2
  exact⟨_,rfl,m.o⟩
 ·have c:=@J (decide (x∈xq L)=false) (decide_eq_false hin)
  clear h hin
  rw[c.o]
  go_enter Tryz.func73,Tryz.ntmps73
  have⟨n,o⟩:=tZ2
  go_wp2_with ((first|((with_reducible refine zt ?_);clear n;refine qz rfl (zZ (ty:=41) rfl rfl q.o F E (by rw[r.o];exact yp)) ?_)|(clear o;go_at_call 99;refine(d.o _ k.o).mono ?_;rintro P S ⟨rfl,b⟩;rw[c.o];have l:=J (k.o.trans0 b);clear b));go_frame)
  go_ret2
  exact⟨_,rfl,l.o⟩
end
theorem zmD (v:Int) (d a:Option Addr) (f e c b:Nat) (w:World):(Instr.field 34 (.agg #[.int .u32 v,.slice d f e,.slice a c b]) 2).run prog w=.ok (.slice a c b) w:=by kernel_rfl
def Xp (l:List StE) (x:zd):List yE:=((Qm l x).map (·.tx.outs)).getD []
theorem zgn (l:List StE) (q:zF):zc8 l q=(Xp l q.tx)[q.n.toNat]? :=by
 unfold zc8 Xp
 cases Qm l q.tx with
 |none=>rfl
 |some e=>rfl
section
variable {w0 w w0p w0c:World} {ps ma ms pp mp mq g N pc:Nat} {R:Nat→Value} {X Y VG VC:Nat→Prop} {C:Nat→zd→List Value} {CP:zd→List Value} {Q:StQ} {L:List yb} {S:List zr} {bs:List yx} {I:List zd}
theorem zcv (h:yM w0 w ps ma ms R X C Q) {n:Nat} (l:n<65) (x:zd):∃v d m f a b,Yn C Q n x=[.int .u32 v,.slice d m f,.slice a (Xp (Q n) x).length b]∧xy w (.slice a (Xp (Q n) x).length b) (Xp (Q n) x):=by
 unfold Yn qt
 by_cases hx:x∈yV (Q n)
 ·rw[if_pos (by simp only[decide_eq_true_eq];exact⟨by omega,by omega,by rw[Int.toNat_natCast];exact hx⟩),Int.toNat_natCast]
  obtain⟨e,i,rfl⟩:=mem_map.1 hx
  have c:Xp (Q n) e.id=e.tx.outs:=by unfold Xp;rw[zc7 (h.val n).nd i];rfl
  obtain⟨d,f,a,b,j,-,-,k⟩:=(h.data n l e i).now
  rw[c,j]
  exact⟨e.tx.ver,d,_,f,a,b,rfl,k⟩
 ·rw[if_neg (by simp only[decide_eq_true_eq];rw[Int.toNat_natCast];exact λh=>hx h.2.2)]
  have c:Xp (Q n) x=[]:=by unfold Xp;rw[zgk.2 hx];rfl
  rw[c]
  exact⟨0,none,0,0,none,0,rfl,zbQ w⟩
theorem zfj (h:yM w0 w ps ma ms R X C Q) {n:Nat} (a:n<65) (q:zF):((zc8 (Q n) q).getD y6).ok:=by
 unfold zc8
 cases hs:Qm (Q n) q.tx with
 |none=>exact Zm
 |some e=>
  simp only[Option.bind_some]
  cases ho:e.tx.outs[q.n.toNat]? with
  |none=>exact Zm
  |some o=>
   exact(h.data n a e (zgl hs).1).now.oks.2 o (mem_of_getElem? ho)
theorem zla (h:yM w0 w ps ma ms R X C Q) (b:yn w0p w pp mp mq g VG Y CP L N) (hS:∀c∈S,c.ok) {n:Nat} (a:n<65) (q:zF):((ZV S L (Q n) q).getD y6).ok:=by
 unfold ZV qQ
 by_cases hc:xK S q=true
 ·rw[if_pos hc]
  exact vH hS q
 ·rw[if_neg hc]
  have:=Yp b.outs_ok q
  cases hf:xw L q with
  |some o=>rw[hf] at this;exact this
  |none=>exact zfj h a q
def zlT (w:World) (S:List zr) (L:List yb) (l:List StE) (q:zF) (e:Ending) (w':World):Prop:=
 e=.returned (.tuple #[.agg (zJ ((ZV S L l q).getD y6)).toArray,.bool (ZV S L l q).isSome])∧Fr No w w'
theorem znO (h:yM w0 w ps ma ms R X C Q) (hp:yn w0p w pp mp mq g VG Y CP L N) (hc:Cn w0c w pc VC S bs I) (hS:∀c∈S,c.ok) {n:Nat} (hn:n<65) {q:zF} (hq:q.ok):
  Calls prog 76 #[.pointer (some ⟨ps,0,none⟩),.pointer (some ⟨pc,0,none⟩),.pointer (some ⟨pp,0,none⟩),.int .i64 n,.agg (zn q).toArray] w (zlT w S L (Q n) q):=by
 obtain⟨dO,uO,rO⟩:=Z0
 have zo:=xm
 have aA:(n:Int)<65:=by omega
 have i0:(0:Int)≤(n:Int):=by omega
 have HN:=J hn
 have f1:Fr No w ((w.alloc (.cells (zn q).toArray 95)).alloc (.cells (zJ y6).toArray 103)):=((frN w).alloc _).alloc _
 have RB:=J (za (zy w (zn q) 95) ((frN _).alloc (.cells (zJ y6).toArray 103)) id)
 have E:=J (yL (w.alloc (.cells (zn q).toArray 95)) (.cells (zJ y6).toArray 103) (n:=w.heap.size+1) (by simp))
 have ad:=@J (((w.alloc (.cells (zn q).toArray 95)).alloc (.cells (zJ y6).toArray 103)).heap.size=w.heap.size+2) (by simp)
 have PL:=J (zY hq)
 have QL:=J (zx hq.1)
 have p:=J hq
 have F1:=J f1
 have ab:=J (λw' (f:Fr No w w')=>zcJ (hc.fr0 f) hq)
 have ag:=J (λw' (f:Fr No w w')=>zjr (hp.fr0 f) hq)
 have HH:=J h
 have j:=J (yr (vH hS q))
 have a:=J (yr (Yp hp.outs_ok q))
 have ar:=J (λw' (f:Fr No w w')=>zcv (h.fr0 f) hn q.tx)
 clear h hp hc hS hn hq f1
 by_cases hhas:xK S q=true
 ·have D:=J hhas
  have r:=@J (ZV S L (Q n) q=some (yg S q)) (by unfold ZV qQ;rw[if_pos hhas])
  clear hhas
  go_enter Tryz.func76,Tryz.ntmps76
  have⟨F,G,K2,K3,K4⟩:=tZ5
  go_wp2_with ((first|((with_reducible refine zt ?_);first|(clear F;refine zn4 rfl rfl rfl RB.o PL.o ?_;generalize an:w.heap.size=A at*;generalize (w.alloc (.cells (zn q).toArray 95)).alloc (.cells (zJ y6).toArray 103)=wz at*)|(clear K3;refine zn2 rfl rfl rfl RO.o j.o ?_))|(clear G;go_at_call 126;refine(ab.o wz F1.o).mono ?_;rintro e d ⟨rfl,l⟩;rw[D.o];have F3:=J (F1.o.trans0 l);have R3:=J (za RB.o l id);have x:=J (l.obj E.o id);have RO:=J (zy d (zJ (yg S q)) 103);have u:=J ((frN d).alloc (.cells (zJ (yg S q)).toArray 103));have Z3:=@J (A+2≤d.heap.size) (by have:=l.size;have:=ad.o;omega);clear l)|((with_reducible refine zv ?_);first|(clear K2;refine zoa (w:=d) (cs:=zJ (yg S q)) rfl rfl rfl rfl j.o yc ?_;generalize ao:d.heap.size=n3 at*;generalize d.alloc (.cells (zJ (yg S q)).toArray 103)=w4 at*;have F4:=J (F3.o.trans0 u.o);have R4:=J (za R3.o u.o id);have s:=J (u.o.obj x.o id))|(clear K4;refine zi rfl (zK (ty:=103) (b:=A+1) (off:=0) (cs:=zJ (yg S q)) rfl rfl rfl (by rw[j.o];exact zV s.o (le_of_eq yu.symm)) (by rw[j.o];exact yz) yc) ?_)));go_frame)
  refine bodyPost_ret (yk (P:=prog) (fn:=Tryz.f76) rfl _ rfl (yv s.o (by rw[j.o];exact yu)) uO rO (by rw[j.o];exact yz) rfl) rfl ⟨by rw[r.o];rfl,?_⟩
  exact F4.o.trans (zu _ _ _ _) (λi hi e=>by omega)
 ·have z:xK S q=false:=by simpa using hhas
  have D:=J z
  have ah:=J hhas
  clear hhas z
  cases hf:xw L q with
  |some o=>
   have aa:=J hf
   have r:=@J (ZV S L (Q n) q=some o) (by unfold ZV qQ;rw[if_neg ah.o,hf])
   have aq:(zJ o).length=33:=by have:=a.o;rw[hf] at this;exact this
   have a:=J aq
   clear aq
   clear hf
   go_enter Tryz.func76,Tryz.ntmps76
   have⟨F,G,K2,K3,K4,K5,K6,K7⟩:=tZ8
   go_wp2_with ((first|((with_reducible refine zt ?_);first|(clear F;refine zn4 rfl rfl rfl RB.o PL.o ?_;generalize an:w.heap.size=A at*;generalize (w.alloc (.cells (zn q).toArray 95)).alloc (.cells (zJ y6).toArray 103)=wz at*)|(clear K3;refine zn4 rfl rfl rfl R4.o PL.o ?_)|(clear K6;refine zn2 rfl rfl rfl aj.o a.o ?_))|(clear G;go_at_call 126;refine(ab.o wz F1.o).mono ?_;rintro e d ⟨rfl,l⟩;rw[D.o];have F3:=J (F1.o.trans0 l);have R3:=J (za RB.o l id);have x:=J (l.obj E.o id);have RO:=J (zy d (zJ (yg S q)) 103);have u:=J ((frN d).alloc (.cells (zJ (yg S q)).toArray 103));have Z3:=@J (A+2≤d.heap.size) (by have:=l.size;have:=ad.o;omega);clear l)|(clear K4;go_at_call 127;refine(ag.o w4 F4.o).mono ?_;rintro e B ⟨rfl,U⟩;rw[aa.o];have F5:=J (F4.o.trans0 U);have R5:=J (za R4.o U id);have ae:=J (U.obj s.o id);have aj:=J (zy B (zJ o) 103);have m:=J ((frN B).alloc (.cells (zJ o).toArray 103));clear U)|((with_reducible refine zv ?_);first|(clear K2;refine zoa (w:=d) (cs:=zJ (yg S q)) rfl rfl rfl rfl j.o yc ?_;generalize ao:d.heap.size=n3 at*;generalize d.alloc (.cells (zJ (yg S q)).toArray 103)=w4 at*;have F4:=J (F3.o.trans0 u.o);have R4:=J (za R3.o u.o id);have s:=J (u.o.obj x.o id))|(clear K5;refine zoa (w:=B) (cs:=zJ o) rfl rfl rfl rfl a.o yc ?_;generalize ay:B.heap.size=n5 at*;generalize B.alloc (.cells (zJ o).toArray 103)=w6 at*;have F6:=J (F5.o.trans0 m.o);have R6:=J (za R5.o m.o id);have H:=J (m.o.obj ae.o id))|(clear K7;refine zi rfl (zK (ty:=103) (b:=A+1) (off:=0) (cs:=zJ o) rfl rfl rfl (by rw[a.o];exact zV H.o (le_of_eq yu.symm)) (by rw[a.o];exact yz) yc) ?_)));go_frame)
   refine bodyPost_ret (yk (P:=prog) (fn:=Tryz.f76) rfl _ rfl (yv H.o (by rw[a.o];exact yu)) uO rO (by rw[a.o];exact yz) rfl) rfl ⟨by rw[r.o];rfl,?_⟩
   exact F6.o.trans (zu _ _ _ _) (λi hi e=>by omega)
  |none=>
   have aa:=J hf
   have r:=@J (ZV S L (Q n) q=zc8 (Q n) q) (by unfold ZV qQ;rw[if_neg ah.o,hf])
   have a:=J (yr Zm)
   obtain⟨o,ho⟩:∃o,o=y6:=⟨_,rfl⟩
   clear hf
   go_enter Tryz.func76,Tryz.ntmps76
   have⟨F,G,K2,K3,K4,K5⟩:=tZ6
   go_wp2_with ((first|((with_reducible refine zt ?_);first|(clear F;refine zn4 rfl rfl rfl RB.o PL.o ?_;generalize an:w.heap.size=A at*;generalize (w.alloc (.cells (zn q).toArray 95)).alloc (.cells (zJ y6).toArray 103)=wz at*)|(clear K3;refine zn4 rfl rfl rfl R4.o PL.o ?_))|(clear G;go_at_call 126;refine(ab.o wz F1.o).mono ?_;rintro e d ⟨rfl,l⟩;rw[D.o];have F3:=J (F1.o.trans0 l);have R3:=J (za RB.o l id);have x:=J (l.obj E.o id);have RO:=J (zy d (zJ (yg S q)) 103);have u:=J ((frN d).alloc (.cells (zJ (yg S q)).toArray 103));have Z3:=@J (A+2≤d.heap.size) (by have:=l.size;have:=ad.o;omega);clear l)|(clear K4;go_at_call 127;refine(ag.o w4 F4.o).mono ?_;rintro e B ⟨rfl,U⟩;rw[aa.o];have F5:=J (F4.o.trans0 U);have R5:=J (za R4.o U id);have ae:=J (U.obj s.o id);have aj:=J (zy B (zJ y6) 103);have m:=J ((frN B).alloc (.cells (zJ y6).toArray 103));clear U)|((with_reducible refine zv ?_);first|(clear K2;refine zoa (w:=d) (cs:=zJ (yg S q)) rfl rfl rfl rfl j.o yc ?_;generalize ao:d.heap.size=n3 at*;generalize d.alloc (.cells (zJ (yg S q)).toArray 103)=w4 at*;have F4:=J (F3.o.trans0 u.o);have R4:=J (za R3.o u.o id);have s:=J (u.o.obj x.o id))|(clear K5;refine zoa (w:=B) (cs:=zJ y6) rfl rfl rfl rfl a.o yc ?_;generalize ay:B.heap.size=n5 at*;generalize B.alloc (.cells (zJ y6).toArray 103)=w6 at*;have F6:=J (F5.o.trans0 m.o);have R6:=J (za R5.o m.o id);have H:=J (m.o.obj ae.o id))));go_frame)
   have FD:=J F6.o.drew
   have HD:=J (HH.o.fr0 FD.o)
   have RD:=J (za R6.o (frN w6).drew id)
   have T:=J ((frN w6).drew.obj H.o id)
   obtain⟨M,hM,hm⟩:=HD.o.am
   obtain⟨v,ia,il,ic,oa,oc,W,af⟩:=ar.o w6.drew FD.o
   have LK:=@J (∀w',vB w' ma M→(Instr.lookup 113 (.map (some ma)) (.agg (skC (n,q.tx)).toArray) false).run prog w'=.ok (.agg #[.int .u32 v,.slice ia il ic,.slice oa (Xp (Q n) q.tx).length oc]) w') (λw' h'=>by
    have:=Yb (w:=w') (zak HN.o) p.o.1 h' hm false
    rw[W] at this
    simpa using this)
   have HM:=J hM
   have HO:=J af
   have av:=J (JS (k:=((n:Int),q.tx)) p.o.1)
   have au:=J (zaQ RD.o p.o).1
   have ai:=J QL.o
   have Z:=af.2.len
   have ak:=p.o.2.1
   have ax:=p.o.2.2
   rw[zgn] at r
   unfold zf at ai
   clear hM hm W af
   generalize Xp (Q n) q.tx=O at*
   refine wrLx [ff,ff,ff,ff,ff,ff,ff,ff,ff,ff,ff] (λw'=>w'.cell? ⟨ps,0,none⟩=some (.map (some ma))∧w'.rangeAt A 0 (q.tx.map zM)∧vB w' ma M) ?_ (λK hK=>?_)
   ·exact⟨HD.o.cells.1,au.o,HM.o⟩
   repeat((first|(refine zj rfl ?_;constructor;constructor;(focus(first|exact zn7 rfl (λw h=>h.2.1) ai.o|exact λw' _=>yP (t:=110) rfl rfl jg (Jg _ p.o.1) (jf _ _) av.o|exact λw' h=>zQ (t:=113) rfl rfl rfl (LK.o w' h.2.2)|exact λw' _=>vT (t:=34) (f:=2) rfl rfl (zmD v ia oa il ic O.length oc w')|(rintro w' ⟨s1,s2,s3⟩;go_simp;(try with_reducible rfl);done))))|(refine zl rfl ?_));try simp only[Act.put,pA,pB,pC])
   refine zL (hK.out _ _ ?_)
   have aw:w6.drew.cell? ⟨A,32,none⟩=some (.int .u32 q.n):=by
    have:=(zaQ RD.o p.o).2
    simpa using this
   clear RB HM LK E
   by_cases hb:q.n.toNat<O.length
   ·obtain⟨oo,V⟩:∃o,O[q.n.toNat]? =some o:=⟨_,getElem?_eq_getElem hb⟩
    obtain⟨b,off,az,e,hr,-⟩:=HO.o.at_ V
    injection e with e1 e2 e3
    subst e1
    subst e3
    have OK:=J (HO.o.1 oo (mem_of_getElem? V))
    have OL:=J (yr OK.o)
    obtain⟨k,hk⟩:∃k:Nat,q.n=(k:Int):=Int.eq_ofNat_of_zero_le ak
    have y:=J (r.o.trans V)
    rw[hk] at hb hr aw ax
    simp only[Int.toNat_natCast] at hb hr
    have i2:(k:Int)<IntKind.u64.wrap (O.length:Int):=by rw[QR Z];omega
    have i1:(k:Int)<(O.length:Int):=by omega
    have R1:=J hr
    clear hr V ak hk
    have⟨F,G⟩:=tZ2
    go_wp2_with ((first|((with_reducible refine zt ?_);clear F;with_reducible refine yt 54 ?_;refine zn2 rfl rfl rfl R1.o OL.o ?_)|((with_reducible refine zv ?_);clear G;refine zi rfl (zK (ty:=103) (b:=A+1) (off:=0) (cs:=zJ oo) rfl rfl rfl (by rw[OL.o];exact zV T.o (le_of_eq yu.symm)) (by rw[OL.o];exact yz) yc) ?_));go_frame)
    refine bodyPost_ret (yk (P:=prog) (fn:=Tryz.f76) rfl _ rfl (yv T.o (by rw[OL.o];exact yu)) uO rO (by rw[OL.o];exact yz) rfl) rfl ⟨by rw[y.o];rfl,?_⟩
    exact FD.o.trans (zu _ _ _ _) (λi hi e=>by omega)
   ·have al:O[q.n.toNat]? =none:=List.getElem?_eq_none (by omega)
    have y:=J (r.o.trans al)
    have i1:¬q.n<IntKind.u64.wrap (O.length:Int):=by rw[QR Z];omega
    have i2:¬q.n<(O.length:Int):=by omega
    clear al hb
    have⟨F,G⟩:=tZ2
    go_wp2_with ((first|((with_reducible refine zt ?_);clear F;with_reducible refine yt 55 ?_;refine zg rfl (yf (t:=103) rfl rfl (zgJ _)) ?_)|((with_reducible refine zv ?_);clear G;refine zi rfl (zK (ty:=103) (b:=A+1) (off:=0) (cs:=zJ y6) rfl rfl rfl (by rw[a.o];exact zV T.o (le_of_eq yu.symm)) (by rw[a.o];exact yz) yc) ?_));go_frame)
    refine bodyPost_ret (yk (P:=prog) (fn:=Tryz.f76) rfl _ rfl (yv T.o (by rw[a.o];exact yu)) uO rO (by rw[a.o];exact yz) rfl) rfl ⟨by rw[y.o];rfl,?_⟩
    exact FD.o.trans (zu _ _ _ _) (λi hi e=>by omega)
end
theorem zaI {α:Type}:∀(l:List α) (p:Nat),l.take p++l.drop (p+1)=l.eraseIdx p
 |[],p=>by simp
 |x::l,0=>by simp
 |x::l,p+1=>by simp[zaI l p]
theorem Qn:∀(cs xs:List Value) (o:Nat),o+cs.length≤xs.length→(setM xs o cs).take (o+cs.length)=xs.take o++cs
 |[],xs,o,_=>by simp[setM]
 |v::r,xs,o,h=>by
  simp only[List.length_cons] at h
  simp only[setM]
  have:=Qn r (xs.set o v) (o+1) (by rw[List.length_set];omega)
  rw[show o+(v::r).length=o+1+r.length by simp;omega,this,take_add_one,List.getElem?_set_self (by omega),List.take_set_of_le (le_refl _)]
  simp
theorem zaJ {l:List zd} (ok:∀x∈l,zX x) (p:Nat) (e:p≤l.length):(l.flatMap zf).take (p*32)=(l.take p).flatMap zf∧(l.flatMap zf).drop (p*32)=(l.drop p).flatMap zf:=by
 have b:((l.take p).flatMap zf).length=p*32:=by
  rw[xJ zf 32 _ (λa d=>zx (ok a (List.mem_of_mem_take d))),List.length_take,Nat.min_eq_left e]
 have c:l.flatMap zf=(l.take p).flatMap zf++(l.drop p).flatMap zf:=by rw[←List.flatMap_append,List.take_append_drop]
 rw[c]
 exact⟨List.take_left' b,List.drop_left' b⟩
theorem zdv {w:World} {B:Nat} {v:Value} {l:List zd} (y:w.ownsRow B 41 32 v l.length (l.flatMap zf)) (ok:∀x∈l,zX x) (U:l.length≤100000) {p:Nat} (R:p<l.length):
  Calls prog 84 #[v,.int .i64 p,.int .i64 (p+1)] w λe w'=>∃W,e=.returned W∧w'.ownsRow B 41 32 W (l.eraseIdx p).length ((l.eraseIdx p).flatMap zf)∧Fr (λj=>v.ownBlock=some j) w w'∧∀j,W.ownBlock=some j→v.ownBlock=some j:=by
 obtain⟨n,N⟩:∃n,n=l.length:=⟨_,rfl⟩
 have X:=@J ((l.eraseIdx p).length=n-1) (by rw[List.length_eraseIdx,if_pos R,N])
 obtain⟨g,f,rfl⟩:∃g f,v=.slice (some ⟨g,0,none⟩) n f:=by
  rcases y.2 with⟨_,e⟩|⟨g,c,ab,e,_⟩
  ·omega
  ·exact⟨g,c,by rw[e,N]⟩
 have Y:=J (zaJ ok p (by omega)).1
 have T:=J (zaJ ok (p+1) (by omega)).2
 rw[←N] at y R U
 have aa:n≤f:=y7.cap y.slice.arg
 obtain⟨i,hi,hz,S,hb⟩:=info_parts qI
 have o:(l.flatMap zf).length=n*32:=y.1
 have d:∀u∈(l.drop (p+1)).flatMap zf,u.oneCell'=true:=Zk
 rw[←T.o] at d
 have L:=@J ((l.take p).flatMap zf++(l.drop (p+1)).flatMap zf=(l.eraseIdx p).flatMap zf) (by rw[←zaI,List.flatMap_append])
 rw[←Y.o,←T.o] at L
 obtain⟨xs,O⟩:∃xs,xs=l.flatMap zf:=⟨_,rfl⟩
 rw[←O] at y o d L
 clear Y T O
 obtain⟨news,a⟩:∃news,news=xs.drop ((p+1)*32):=⟨_,rfl⟩
 have z:news.length=(n-(p+1))*32:=by rw[a,List.length_drop,o];omega
 have F:∀j u,news[j]? =some u→w.drew.cell? ⟨g,(p+1)*32+j,none⟩=some u:=λj u s=>by
  rw[a,List.getElem?_drop] at s
  have ae:=(List.getElem?_eq_some_iff.1 s).1
  show w.cell? _=_
  rw[y.cellAt _ (by omega),s]
 rw[←a] at d L
 have Q:=zb y (frN w).drew (λ_ _=>id)
 have q:=J (qY Q (p*32) (cs:=news) (by omega))
 have E:=J ((Fr.refl (λj=>(Value.slice (some ⟨g,0,none⟩) n f).ownBlock=some j) w).drew.trans (zu g news (p*32) w.drew) (λk _ V=>by rw[V];rfl))
 have b:∀(A:Addr) (c:Nat),(∀j u,news[j]? =some u→w.drew.cell? (A.add j)=some u)→∀ty,(Builtin.append_ #[38,38] ty #[.slice (some ⟨g,0,none⟩) p f,.slice (some A) (n-(p+1)) c]).run prog w.drew=.ok (.slice (some ⟨g,0,none⟩) (n-1) f) (w.drew.setCells g (p*32) news):=λA c hA ty=>by
  have:=run_append_room_cells (P:=prog) (w:=w.drew) 38 ty 41 i qi hi g 0 p f A (n-(p+1)) c news (by rw[S];exact z) hA d (by omega) (λj s=>by
   rw[S,z] at*
   rw[show(0+p*32+j)=p*32+j by omega,Q.cellAt _ (by omega),getElem?_eq_getElem (by omega)]
   rfl) (λj _=>Q.frozenAt _)
  rw[S,show p+(n-(p+1))=n-1 by omega,show 0+p*32=p*32 by omega] at this
  exact this
 obtain⟨I,H⟩:∃I,I=w.drew.setCells g (p*32) news:=⟨_,rfl⟩
 rw[←H] at q E
 simp only[←H] at b
 obtain⟨cs,G,C⟩:=ZK (P:=prog) I 38 41 0 (zf yO) qi yR zS (by rw[zx xO];decide) g ((n-1)*32) (n-(n-1)) (f-(n-1)) (by omega) (λj s=>by
  rw[zx xO] at s
  have ad:=q.o.1
  refine⟨?_,q.o.frozenAt _⟩
  rw[q.o.cellAt _ (by omega),getElem?_eq_getElem (by omega)]
  rfl)
 rw[zx xO] at G
 have M:=J (Zs (qY q.o ((n-1)*32) (cs:=cs) (by rw[G];omega)) (m:=n-1) (by omega))
 have HF:=@J ((setM (setM xs (p*32) news) ((n-1)*32) cs).take ((n-1)*32)=(l.eraseIdx p).flatMap zf) (by
  rw[YS _ _ _ _ (le_refl _)]
  have:=Qn news xs (p*32) (by omega)
  rw[show p*32+news.length=(n-1)*32 by omega] at this
  rw[this,L.o])
 have Z:=J (E.o.trans (zu g cs ((n-1)*32) I) (λk _ V=>by rw[V];rfl))
 have D:=J C
 have r:=@J ((I.setCells g ((n-1)*32) cs).ownsRow B 41 32 (.slice (some ⟨g,0,none⟩) (n-1) f) (l.eraseIdx p).length ((l.eraseIdx p).flatMap zf)∧Fr (λj=>(Value.slice (some ⟨g,0,none⟩) n f).ownBlock=some j) w (I.setCells g ((n-1)*32) cs)∧∀j,(Value.slice (some ⟨g,0,none⟩) (n-1) f).ownBlock=some j→(Value.slice (some ⟨g,0,none⟩) n f).ownBlock=some j) (⟨by rw[X.o,←HF.o];exact M.o,Z.o,λ_ h=>h⟩)
 have h1:p≤f:=by omega
 have h2:p+1≤n:=by omega
 have i1:(0:Int)≤(p:Int)+1:=by omega
 have i2:(p:Int)+1≤(n:Int):=by omega
 have h3:¬f=n-1:=by omega
 have i3:(0:Int)≤((n-1:Nat):Int):=by omega
 have i4:((n-1:Nat):Int)≤(n:Int):=by omega
 have i5:(n:Int)≤(f:Int):=by omega
 have n1:n-1≤n:=by omega
 clear q E G M HF Z C L X Q d H hz hb S hi
 by_cases hce:f=p+1
 ·obtain rfl:n=p+1:=by omega
  subst hce
  have t:=J (b ⟨g,0,none⟩ 0 (λj u s=>by
   rw[List.length_eq_zero_iff.1 (show news.length=0 by omega)] at s
   simp at s))
  clear b F z a o y N ok U R
  simp only[Nat.add_sub_cancel,Nat.sub_self,Nat.add_sub_cancel_left] at t D r
  have h5:¬(p+1=p):=by omega
  have i6:(0:Int)≤(p:Int):=by omega
  have i7:(p:Int)≤(p:Int)+1:=by omega
  have h6:p+1-p=1:=by omega
  go_enter Tryz.func84,Tryz.ntmps84
  go_wp2
  refine wrLx [ff,ff,ff,ff,ff,ff,tt,ff] (λw'=>True) ?_ (λK hK=>?_)
  ·trivial
  repeat((first|(refine zj rfl ?_;constructor;constructor;(focus(rintro w' _;go_simp;(try with_reducible rfl);done)))|(refine zl rfl ?_));try simp only[Act.put,pA,pB,pC])
  (refine zE rfl (λK' hK'=>?_))
  refine yw rfl rfl rfl (t.o _) ?_
  refine nXt hK' ?_ λhS=>?_
  ·trivial
  try simp only[Act.put,pA,pB,pC]
  repeat((first|(refine zj rfl ?_;constructor;constructor;(focus(rintro w' _;go_simp;(try with_reducible rfl);done)))|(refine zl rfl ?_));try simp only[Act.put,pA,pB,pC])
  refine zL (hK.out _ _ ?_)
  go_wp2_with (refine jT rfl rfl rfl D.o ?_)
  go_ret
  exact⟨_,rfl,r.o⟩
 ·have t:=J (b ⟨g,(p+1)*32,none⟩ (f-(p+1)) (λj u s=>by rw[Zw];exact F j u s))
  clear b F z a o y N ok U R
  go_enter Tryz.func84,Tryz.ntmps84
  go_wp2
  refine wrLx [ff,ff,ff,ff,ff,ff,tt,ff] (λw'=>True) ?_ (λK hK=>?_)
  ·trivial
  repeat((first|(refine zj rfl ?_;constructor;constructor;(focus(rintro w' _;go_simp;(try with_reducible rfl);done)))|(refine zl rfl ?_));try simp only[Act.put,pA,pB,pC])
  (refine zE rfl (λK' hK'=>?_))
  refine yw rfl rfl rfl (t.o _) ?_
  refine nXt hK' ?_ λhS=>?_
  ·trivial
  try simp only[Act.put,pA,pB,pC]
  repeat((first|(refine zj rfl ?_;constructor;constructor;(focus(rintro w' _;go_simp;(try with_reducible rfl);done)))|(refine zl rfl ?_));try simp only[Act.put,pA,pB,pC])
  refine zL (hK.out _ _ ?_)
  go_wp2_with (refine jT rfl rfl rfl D.o ?_)
  go_ret
  exact⟨_,rfl,r.o⟩
theorem erase_filter:∀ {l:List zd} {i:Nat} {x:zd},l.Nodup→l[i]? =some x→l.eraseIdx i=l.filter λy=>decide (y≠x)
 |[],i,x,_,h=>by simp at h
 |a::l,0,x,hn,h=>by
  obtain⟨b,c⟩:=nodup_cons.1 hn
  simp at h
  subst h
  rw[List.eraseIdx_cons_zero,List.filter_cons_of_neg (by simp),List.filter_eq_self.2]
  intro y d
  simp
  rintro rfl
  exact b d
 |a::l,i+1,x,hn,h=>by
  obtain⟨b,c⟩:=nodup_cons.1 hn
  simp only[getElem?_cons_succ] at h
  rw[List.eraseIdx_cons_succ,List.filter_cons_of_pos (by simp;rintro rfl;exact b (mem_of_getElem? h)),erase_filter c h]
theorem za4 {α:Type} {l:List α} {n:Nat} {e:α} (h:l[n]? =some e):l.drop n=e::l.drop (n+1):=by
 obtain⟨a,rfl⟩:=List.getElem?_eq_some_iff.1 h
 exact List.drop_eq_getElem_cons a
theorem zke {α:Type} {l:List α} {n:Nat} {e:α} (h:l[n]? =some e):l=l.take n++e::l.drop (n+1):=by rw[←za4 h,List.take_append_drop]
def J4 (l:List StE) (K:List zd) (n:Nat):List StE:=(l.take n).filter (λe=>decide (e.id∉K))++l.drop n
def jG (l:List StE) (K:List zd) (n:Nat):List StE:=(l.take n).filter λe=>decide (e.id∈K)
section
variable {l:List StE} {K:List zd} {n:Nat} {e:StE}
theorem zgq:J4 l K 0=l:=by simp[J4]
theorem ziz:J4 l K l.length=l.filter λe=>decide (e.id∉K):=by simp[J4]
theorem zf3:jG l K 0=[]:=by simp[jG]
theorem zhJ:jG l K l.length=l.filter λe=>decide (e.id∈K):=by simp[jG]
theorem zhK:(jG l K n).length≤n:=by
 unfold jG
 have a:=List.length_filter_le (λe:StE=>decide (e.id∈K)) (l.take n)
 have b:(l.take n).length≤n:=by rw[List.length_take];omega
 omega
theorem zgp (h:l[n]? =some e) (a:e.id∉K):J4 l K (n+1)=J4 l K n∧jG l K (n+1)=jG l K n:=by
 unfold J4 jG
 rw[take_add_one,h,za4 h]
 simp[filter_append,a]
theorem zhM (h:l[n]? =some e):yV l=yV (l.take n)++e.id::yV (l.drop (n+1)):=by
 conv=>lhs;rw[zke h]
 simp[yV]
theorem ziA (f:(yV l).Nodup) (h:l[n]? =some e) (d:e.id∈K):J4 l K (n+1)=Vc (J4 l K n) e.id∧jG l K (n+1)=jG l K n++[e]:=by
 rw[zhM h] at f
 obtain⟨p,k,m⟩:=List.nodup_append.1 f
 obtain⟨o,q⟩:=nodup_cons.1 k
 constructor
 ·unfold J4 Vc
  have g:[e].filter (λa=>decide (a.id∉K))=[]:=by simp[d]
  have i:(e::l.drop (n+1)).filter (λa=>decide (a.id≠e.id))=l.drop (n+1):=by
   rw[List.filter_cons_of_neg (by simp),List.filter_eq_self]
   intro a c
   simp only[decide_eq_true_eq]
   exact λb=>o (by rw[←b];exact mem_map.2 ⟨a,c,rfl⟩)
  have j:((l.take n).filter (λa=>decide (a.id∉K))).filter (λa=>decide (a.id≠e.id))=(l.take n).filter (λa=>decide (a.id∉K)):=by
   rw[List.filter_eq_self]
   intro a c
   simp only[decide_eq_true_eq]
   exact λb=>m a.id (mem_map.2 ⟨a,(mem_filter.1 c).1,rfl⟩) e.id (.head _) b
  rw[take_add_one,h,za4 h,filter_append,filter_append,i,j]
  simp only[Option.toList_some]
  rw[g,List.append_nil]
 ·unfold jG
  rw[take_add_one,h]
  simp[filter_append,d]
theorem ziB (h:l[n]? =some e):e∈J4 l K n:=by
 unfold J4
 rw[za4 h]
 simp
theorem zje {x:zd}:∀e∈Vc l x,e∈l:=λ_ h=>(mem_filter.1 h).1
end
def jq (R:Nat→Value) (n:Nat) (v:Value):Nat→Value:=λj=>if j=n then v else R j
def Vd (p ma ms:Nat) (v:Value):Nat→Prop:=λj=>j=p∨j=ma∨j=ms∨v.ownBlock=some j
theorem Qo {w:World} {q:Nat} {i:Int} {x:zd} (h:w.rangeAt q 0 (skC (i,x))):w.cell? ⟨q,0,none⟩=some (.int .i64 i)∧w.rangeAt q 1 (zf x):=by
 refine⟨by simpa using h 0 _ rfl,λj v a=>?_⟩
 have:=h (j+1) v (by unfold skC;rw[getElem?_cons_succ];exact a)
 rw[Nat.zero_add] at this
 rw[add_comm]
 exact this
section
variable {w0 w w':World} {p ma ms:Nat} {R:Nat→Value} {X:Nat→Prop} {C:Nat→zd→List Value} {Q:StQ}
theorem Je {n:Nat} (a:n<65):∀j,Vd p ma ms (R n) j→stV p ma ms R j:=by
 rintro j (e|e|e|e)
 ·exact .inl e
 ·exact .inr (.inl e)
 ·exact .inr (.inr (.inl e))
 ·exact .inr (.inr (.inr ⟨n,a,e⟩))
theorem yM.upd (h:yM w0 w p ma ms R X C Q) {n:Nat} (s:n<65) {m:Value} {d:List StE} {o:Nat→zd→List Value} {X':Nat→Prop} (f:Fr (Vd p ma ms (R n)) w w')
  (obj:w'.heap[p]? =some (.cells (stC ma ms (jq R n m)).toArray 116 (0,0)))
  (row:w'.ownsRow w0.heap.size 41 32 m (yV d).length ((yV d).flatMap zf))
  (am:∃M,vB w' ma M∧∀k cs,(k,cs)∈M↔∃i:Nat,i<65∧k.1=(i:Int)∧∃e∈vu Q n d i,e.id=k.2∧cs=o i k.2)
  (sm:∃M,Ym w' ms M∧∀k x,(k,x)∈M↔∃i:Nat,i<65∧k.1=(i:Int)∧∃e∈vu Q n d i,k.2∈zW e.tx∧e.id=x)
  (data:∀e∈d,Kept X' w' (λw=>TxQ w e.tx (o n e.id))) (v:∀i,i≠n→o i=C i) (val:SVal d) (u:∀j,m.ownBlock=some j→(R n).ownBlock=some j∨w.heap.size≤j)
  (y:∀j,j<w.heap.size→X' j→X j) (z:∀j,stV p ma ms (jq R n m) j→X' j):yM w0 w' p ma ms (jq R n m) X' o (vu Q n d):=by
 have l:∀j,Vd p ma ms (R n) j→stV p ma ms R j:=Je s
 refine {obj:=obj,row:=λi hi=>?_,am:=am,sm:=sm,data:=λi hi e r=>?_,val:=λi=>?_,apart:=h.apart,rnot:=λi hi j a=>?_,rapart:=λi k hi t g j a b=>?_,lo3:=h.lo3,fr:=h.fr.trans f (λj a e=>by have:=h.lo j (l j e);omega),sub:=z}
 ·by_cases e:i=n
  ·subst e
   unfold jq
   rw[if_pos rfl,xB]
   exact row
  ·unfold jq
   rw[if_neg e,qD Q d e]
   refine zb (h.row i hi) f (λj a c=>?_)
   have q:=h.rnot i hi j a
   rcases c with c|c|c|c
   ·exact q.1 c
   ·exact q.2.1 c
   ·exact q.2.2 c
   ·exact h.rapart i n hi s e j a c
 ·by_cases en:i=n
  ·subst en
   rw[xB] at r
   exact data e r
  ·rw[qD Q d en] at r
   rw[v i en]
   exact(h.data i hi e r).step (f.mono (λj c=>h.sub j (l j c))) y
 ·by_cases e:i=n
  ·subst e;rw[xB];exact val
  ·rw[qD Q d e];exact h.val i
 ·by_cases e:i=n
  ·subst e
   unfold jq at a
   rw[if_pos rfl] at a
   rcases u j a with c|c
   ·exact h.rnot i hi j c
   ·have A:=h.hi p (.inl rfl)
    have B:=h.hi ma (.inr (.inl rfl))
    have q:=h.hi ms (.inr (.inr (.inl rfl)))
    omega
  ·unfold jq at a
   rw[if_neg e] at a
   exact h.rnot i hi j a
 ·unfold jq at a b
  by_cases ei:i=n
  ·rw[if_pos ei] at a
   rw[if_neg (λe=>g (ei.trans e.symm))] at b
   rcases u j a with c|c
   ·exact h.rapart n k s t (λe=>g (ei.trans e)) j c b
   ·have:=((h.row k t).lt j b).2
    omega
  ·rw[if_neg ei] at a
   by_cases ek:k=n
   ·rw[if_pos ek] at b
    rcases u j b with c|c
    ·exact h.rapart n i s hi (λe=>ei e.symm) j c a
    ·have:=((h.row i hi).lt j a).2
     omega
   ·rw[if_neg ek] at b
    exact h.rapart i k hi t g j a b
structure zaC (w:World) (p ma ms:Nat) (R:Nat→Value) (C:Nat→zd→List Value) (Q:StQ) (n:Nat) (e:StE) (m:Nat):Prop where
 obj:w.heap[p]? =some (.cells (stC ma ms R).toArray 116 (0,0))
 am:∃M,vB w ma M∧∀k cs,(k,cs)∈M↔∃i:Nat,i<65∧k.1=(i:Int)∧∃e∈Q i,e.id=k.2∧cs=C i k.2
 sm:∃M,Ym w ms M∧∀k x,(k,x)∈M↔¬(k.1=(n:Int)∧k.2∈(zW e.tx).take m)∧∃i:Nat,i<65∧k.1=(i:Int)∧∃e∈Q i,k.2∈zW e.tx∧e.id=x
theorem zaC.cells {n m:Nat} {e:StE} (h:zaC w p ma ms R C Q n e m):w.cell? ⟨p,0,none⟩=some (.map (some ma))∧w.cell? ⟨p,66,none⟩=some (.map (some ms))∧∀i,i<65→w.cell? ⟨p,i+1,none⟩=some (R i):=by
 have:=zq h.obj
 refine⟨by simpa using this 0 _ rfl,by simpa using this 66 _ zdW,λi hi=>?_⟩
 have:=this (i+1) _ (VH hi)
 simpa using this
theorem zaC.fr0 {n m:Nat} {e:StE} (h:zaC w p ma ms R C Q n e m) (f:Fr No w w'):zaC w' p ma ms R C Q n e m:=by
 obtain⟨M,c,d⟩:=h.am
 obtain⟨M',a,b⟩:=h.sm
 exact⟨f.obj h.obj id,⟨M,c.keep f id,d⟩,⟨M',a.keep f id,b⟩⟩
theorem zjw {l:List StE} (n:(yV l).Nodup) {a e:StE} (g:a∈l) (j:e∈l) (h:a.id=e.id):a=e:=by
 obtain⟨i,hi,b⟩:=getElem_of_mem g
 obtain⟨k,m,c⟩:=getElem_of_mem j
 have d:(yV l)[i]? =some e.id:=by unfold yV;rw[getElem?_map,getElem?_eq_getElem hi,b];exact congrArg some h
 have f:(yV l)[k]? =some e.id:=by unfold yV;rw[getElem?_map,getElem?_eq_getElem m,c];rfl
 have:=(List.getElem?_inj (List.getElem?_eq_some_iff.1 d).1 n).1 (d.trans f.symm)
 subst this
 exact b.symm.trans c
theorem SVal.apart2 {l:List StE} (h:SVal l) {a e:StE} (m:a∈l) (n:e∈l) (d:a≠e):∀q∈zW e.tx,q∉zW a.tx:=λq j c=>by
 have f:=(List.pairwise_iff_getElem.1 h.apart)
 obtain⟨i,hi,rfl⟩:=getElem_of_mem m
 obtain⟨k,g,b⟩:=getElem_of_mem n
 rcases Nat.lt_trichotomy i k with hik|hik|hik
 ·exact f i k hi g hik q c (by rw[b];exact j)
 ·subst hik;exact d b
 ·exact f k i g hi hik q (by rw[b];exact j) c
theorem SVal.ins8 {l:List StE} (h:SVal l):∀e∈l,e.tx.ins.length≤8:=λe a=>(y5.1 (JM (h.ent e a).1).1).2.1
theorem zix {l:List StE} (h:SVal l) {e:StE} (j:e∈l) (q:zF) (x:zd):(q∉zW e.tx∧∃a∈l,q∈zW a.tx∧a.id=x)↔∃a∈Vc l e.id,q∈zW a.tx∧a.id=x:=by
 constructor
 ·rintro⟨f,a,c,b,rfl⟩
  refine⟨a,mem_filter.2 ⟨c,?_⟩,b,rfl⟩
  simp only[decide_eq_true_eq]
  intro d
  rw[zjw h.nd c j d] at b
  exact f b
 ·rintro⟨a,c,b,rfl⟩
  obtain⟨g,i⟩:=mem_filter.1 c
  simp only[decide_eq_true_eq] at i
  exact⟨λf=>h.apart2 g j (λk=>i (by rw[k])) q f b,a,g,b,rfl⟩
theorem zaz (w:World) (i:Int) (x:zd):(w.alloc (.cells (skC (i,x)).toArray 110)).rangeAt w.heap.size 0 (skC (i,x)):=zy w _ _
theorem zlX (h:yM w0 w p ma ms R X C Q) {n:Nat} (hn:n<65) {e:StE} (he:e∈Q n):
  Calls prog 44 #[.pointer (some ⟨p,0,none⟩),.agg (skC (n,e.id)).toArray] w λe' w'=>e'=.returned (.tuple #[])∧Fr (Vd p ma ms (R n)) w w'∧∃v',(∀j,v'.ownBlock=some j→(R n).ownBlock=some j)∧yM w0 w' p ma ms (jq R n v') X C (vu Q n (Vc (Q n) e.id)):=by
 have zp:=vO
 have zh:=yR
 have F:=J h
 have HE:=J he
 have HV:=J (h.val n)
 have u:=J (h.idok n e.id (mem_map.2 ⟨e,he,rfl⟩))
 have XL:=J (zx u.o)
 have SL:=J (JS (k:=((n:Int),e.id)) u.o)
 have aq:=@J (e.tx.ins.length≤1000) (by have:=HV.o.ins8 e he;omega)
 have bn:=aq.o
 have bh:(n:Int)<65:=by omega
 have i0:(0:Int)≤(n:Int):=by omega
 have s:=J hn
 have AA:=J h.apart
 obtain⟨x,hx⟩:∃x,e.id=x:=⟨_,rfl⟩
 have EX:=J hx
 rw[hx] at u XL SL
 rw[hx]
 obtain⟨ra,rc,hR⟩:=h.row_form hn
 have g:=J hR
 have ae:=J (h.row n hn)
 have ab:=J (h.idok n)
 have F1:=J ((frN w).alloc (.cells (skC (n,x)).toArray 110))
 have RK:=J (zaz w n x)
 have ag:=@J (p<w.heap.size∧ma<w.heap.size∧ms<w.heap.size) (⟨h.hi p (.inl rfl),h.hi ma (.inr (.inl rfl)),h.hi ms (.inr (.inr (.inl rfl)))⟩)
 clear h he hx hR
 go_enter Tryz.func44,Tryz.ntmps44
 go_wp2_with fail
 generalize bl:w.heap.size=q0 at*
 generalize bf:w.alloc (.cells (skC (n,x)).toArray 110)=wa at*
 clear bf
 have FD:=J F1.o.drew
 have HD:=J (F.o.fr0 FD.o)
 have RD:=J (za RK.o (frN wa).drew id)
 obtain⟨M,hM,hm⟩:=HD.o.am
 obtain⟨ia,ic,oa,oc,ak⟩:=(HD.o.data n s.o e HE.o).now.form
 have af:Yn C Q n x=[.int .u32 e.tx.ver,.slice ia e.tx.ins.length ic,.slice oa e.tx.outs.length oc]:=by
  unfold Yn
  rw[if_pos (show qt Q n x=true from by unfold qt;simp only[decide_eq_true_eq];exact⟨i0,bh,by rw[Int.toNat_natCast,←EX.o];exact mem_map.2 ⟨e,HE.o,rfl⟩⟩),Int.toNat_natCast,←EX.o,ak]
 have LK:=@J (∀w',vB w' ma M→(Instr.lookup 113 (.map (some ma)) (.agg (skC (n,x)).toArray) false).run prog w'=.ok (.agg #[.int .u32 e.tx.ver,.slice ia e.tx.ins.length ic,.slice oa e.tx.outs.length oc]) w') (λw' h'=>by
  have:=Yb (w:=w') (zak s.o) u.o h' hm false
  rw[af] at this
  simpa using this)
 have HM:=J hM
 have TQ:=@J (TxQ wa.drew e.tx [.int .u32 e.tx.ver,.slice ia e.tx.ins.length ic,.slice oa e.tx.outs.length oc]) (by rw[←ak];exact(HD.o.data n s.o e HE.o).now)
 clear hM hm ak af
 refine wrLx [ff,ff,ff,ff,ff,ff,tt,ff,ff] (λw'=>w'.cell? ⟨p,0,none⟩=some (.map (some ma))∧w'.rangeAt q0 0 (skC (n,x))∧vB w' ma M) ?_ (λK hK=>?_)
 ·exact⟨HD.o.cells.1,RD.o,HM.o⟩
 generalize wa.drew=wd at*
 repeat((first|(refine zj rfl ?_;constructor;constructor;(focus(first|exact zn8 rfl (λw h=>h.2.1) SL.o|exact λw' h=>zQ (t:=113) rfl rfl rfl (LK.o w' h.2.2)|(rintro w' ⟨s1,s2,s3⟩;go_simp;(try with_reducible rfl);done))))|(refine zl rfl ?_));try simp only[Act.put,pA,pB,pC])
 (refine zE rfl (λK' hK'=>?_))
 go_simp
 refine(vY wd TQ.o aq.o).mono ?_
 rintro e' w3 ⟨pv,rfl,al,f3⟩
 obtain⟨pa,pc,bc⟩:=al.slice.arg.form
 subst bc
 have F3:=J f3
 have PO:=J al
 clear f3 al
 refine nXt hK' ?_ λhS=>?_
 ·exact⟨(HD.o.fr0 F3.o).cells.1,za RD.o F3.o id,HM.o.keep F3.o id⟩
 try simp only[Act.put,pA,pB,pC]
 repeat((first|(refine zj rfl ?_;constructor;constructor;(focus(first|(rintro w' ⟨s1,s2,s3⟩;go_simp;(try with_reducible rfl);done))))|(refine zl rfl ?_));try simp only[Act.put,pA,pB,pC])
 refine zL (hK.out _ _ ?_)
 have H3:=J (HD.o.fr0 F3.o)
 have aR:=J (FD.o.trans0 F3.o)
 have aB:=@J (∀q∈zW e.tx,q.ok) (λq hq=>by obtain⟨y,hy,rfl⟩:=mem_map.1 hq;exact TQ.o.oks.1 y hy)
 have aj:=J (vJ e.tx)
 have R3:=J (za RD.o F3.o id)
 have aP:=@J (zaC w3 p ma ms R C Q n e 0) (⟨H3.o.obj,H3.o.am,by
  obtain⟨M',v,G⟩:=H3.o.sm
  exact⟨M',v,λq y=>by rw[G];simp⟩⟩)
 have aZ:=@J (∀j,(Value.slice pa e.tx.ins.length pc).ownBlock=some j→wd.heap.size≤j) (λj S=>(PO.o.lt j S).1)
 have ZD:=@J (ms<wd.heap.size) (HD.o.hi ms (.inr (.inr (.inl rfl))))
 go_wp2_with fail
 go_loopw [15] (λiv W=>∃m:Nat,iv=.int .i64 m∧m≤e.tx.ins.length∧zaC W p ma ms R C Q n e m∧Fr (λj=>j=ms) w3 W) (λiv _=>e.tx.ins.length-(intOf iv).toNat)
 case atStart=>exact⟨0,rfl,zero_le _,aP.o,Fr.refl _ _⟩
 case round=>
  obtain⟨m,rfl,hm,aG,aH⟩:=hrel
  rename World=>W
  have DI:=J aG
  have FI:=J aH
  have RI:=J (za R3.o FI.o (λe=>by have:=ag.o.2.2;omega))
  clear aG aH
  by_cases hmt:m<e.tx.ins.length
  ·have i2:(m:Int)<(e.tx.ins.length:Int):=by omega
   obtain⟨q,hq⟩:∃q,(zW e.tx)[m]? =some q:=⟨_,getElem?_eq_getElem (by rw[aj.o];exact hmt)⟩
   have Z:=J (aB.o q (mem_of_getElem? hq))
   have a1:=J (zb PO.o FI.o (λj S e=>by have:=aZ.o j S;have:=ZD.o;omega))
   have aK:xN W (.slice pa e.tx.ins.length pc) (zW e.tx):=⟨aB.o,by rw[aj.o];exact a1.o.slice.arg⟩
   obtain⟨b2,bk,bj,e2,aL,-⟩:=aK.at_ hq
   injection e2 with e3 e4 e5
   subst e3
   have R2:=J aL
   have PL:=J (zY Z.o)
   have RQ:=J (zy W (zn q) 95)
   have FQ:=J ((frN W).alloc (.cells (zn q).toArray 95))
   have TK:=@J (∀y,y∉(zW e.tx).take (m+1)↔y≠q∧y∉(zW e.tx).take m) (λy=>by
    rw[take_add_one,hq]
    simp[and_comm])
   clear aL hq e4 e5 aK
   have⟨K0,K1⟩:=tZ2
   go_wp2_with ((first|((with_reducible refine zt ?_);clear K0;refine zn4 rfl rfl rfl R2.o PL.o ?_)|((with_reducible refine zv ?_);clear K1;refine zoc (w:=W) (cs:=zn q) rfl rfl rfl rfl PL.o yI ?_));go_frame)
   generalize bm:W.heap.size=qq at*
   generalize bg:W.alloc (.cells (zn q).toArray 95)=wb at*
   have ai:=J FQ.o.drew
   have l:=J (DI.o.fr0 ai.o)
   have aE:=J (za RQ.o (frN wb).drew id)
   have aC:=J (Qo (za RI.o ai.o id)).1
   clear bg
   refine wrLx [ff,ff,ff,ff,ff,ff,ff,ff,tt] (λw'=>w'.cell? ⟨p,66,none⟩=some (.map (some ms))∧w'.rangeAt qq 0 (zn q)∧w'.cell? ⟨q0,0,none⟩=some (.int .i64 n)) ?_ (λK hK=>?_)
   ·exact⟨l.o.cells.2.1,aE.o,aC.o⟩
   generalize wb.drew=z1 at*
   obtain⟨M2,N,T⟩:=l.o.sm
   obtain⟨H,M5,r,U,L,O,-⟩:=N.del zkT.keyed VR (λ_ _=>zbf) (za6 (k:=((n:Int),q)) (zak s.o) Z.o) 0 118
   have I:=J r
   have Y:=J O.fr
   have ax:=@J (p≠ms∧ma≠ms) (⟨AA.o.2.1,AA.o.2.2⟩)
   have ao:=@J (zaC H p ma ms R C Q n e (m+1)) (⟨Y.o.obj l.o.obj ax.o.1,by
    obtain⟨Ma,v,G⟩:=l.o.am
    exact⟨Ma,v.keep Y.o ax.o.2,G⟩,⟨M5,U,λy z=>by
    rw[L y z,T]
    have t:=TK.o y.2
    constructor
    ·rintro⟨a,b,c⟩
     refine⟨λ⟨d1,d2⟩=>?_,c⟩
     refine Classical.byContradiction λ_=>?_
     have:y.2∉(zW e.tx).take (m+1):=t.2 ⟨λd3=>a (Prod.ext d1 d3),λd4=>b ⟨d1,d4⟩⟩
     exact this d2
    ·rintro⟨a,c⟩
     refine⟨λd=>a ⟨by rw[d],?_⟩,λ⟨d1,d2⟩=>a ⟨d1,?_⟩,c⟩
     ·exact Classical.byContradiction λd3=>(t.1 d3).1 (by rw[d])
     ·exact Classical.byContradiction λd3=>(t.1 d3).2 d2⟩⟩)
   have F5:=@J (Fr (λj=>j=ms) w3 H) ((FI.o.trans0 ai.o).trans Y.o (λj _ e=>e))
   have R5:=J (za aE.o Y.o (λe=>by have:=ZD.o;have:=F3.o.size;have:=FI.o.size;omega))
   have K5:=J (Y.o.cell aC.o (λe=>by have:=ag.o.2.2;have e:q0=ms:=e;omega))
   have a8:=J (zbe (k:=((n:Int),q)) Z.o)
   clear r U L O N T
   unfold spV at I
   repeat((first|(refine zj rfl ?_;constructor;constructor;(focus(first|exact zn6 rfl (λw h=>h.2.1) PL.o|exact λw' _=>yP (t:=118) rfl rfl zbX (zdA _ Z.o) (zbT _ _) a8.o|(rintro w' ⟨s1,s2,s3⟩;go_simp;(try with_reducible rfl);done))))|(refine zl rfl ?_));try simp only[Act.put,pA,pB,pC])
   (refine zE rfl (λK' hK'=>?_))
   refine yj (jE rfl rfl rfl I.o) ?_
   refine nXt hK' ?_ λhS=>?_
   ·exact⟨ao.o.cells.2.1,R5.o,K5.o⟩
   try simp only[Act.put]
   refine zL (hK.out _ _ ?_)
   go_wp2_with fail
   go_roundw
   case rel=>exact⟨m+1,by go_num,by omega,ao.o,F5.o⟩
   case measure=>simp[intOf];omega
  ·have aI:m=e.tx.ins.length:=by omega
   have i2:¬(m:Int)<(e.tx.ins.length:Int):=by omega
   have ba:=@J ((zW e.tx).take m=zW e.tx) (by rw[aI,←aj.o,take_length])
   clear aI
   go_wp2_with fail
   have ah:=J ((frN W).drew)
   have l:=J (DI.o.fr0 ah.o)
   have aF:=J (za RI.o ah.o id)
   refine wrLx [ff,ff,ff,ff,ff,tt] (λw'=>w'.cell? ⟨p,0,none⟩=some (.map (some ma))∧w'.rangeAt q0 0 (skC (n,x))) ?_ (λK hK=>?_)
   ·exact⟨l.o.cells.1,aF.o⟩
   generalize W.drew=z1 at*
   obtain⟨M2,N,T⟩:=l.o.am
   obtain⟨H,M5,r,U,L,O,-⟩:=N.del zmz.keyed zcf (λ_ _=>zdU) (zdE (k:=((n:Int),x)) (zak s.o) u.o) 0 110
   have I:=J r
   have Y:=J O.fr
   have aw:=@J (p≠ma∧ms≠ma) (⟨AA.o.1,λe=>AA.o.2.2 e.symm⟩)
   have aN:=@J (∃M,vB H ma M∧∀k cs,(k,cs)∈M↔∃i:Nat,i<65∧k.1=(i:Int)∧∃a∈vu Q n (Vc (Q n) x) i,a.id=k.2∧cs=C i k.2) (⟨M5,U,λk cs=>by
    rw[L k cs,T]
    constructor
    ·rintro⟨v,i,hi,f,a,o,A,aa⟩
     refine⟨i,hi,f,a,?_,A,aa⟩
     by_cases c:i=n
     ·subst c
      rw[xB]
      refine mem_filter.2 ⟨o,?_⟩
      simp only[decide_eq_true_eq]
      exact λbb=>v (Prod.ext f (by rw[←A,bb]))
     ·rw[qD Q _ c]
      exact o
    ·rintro⟨i,hi,f,a,o,A,aa⟩
     by_cases c:i=n
     ·subst c
      rw[xB] at o
      obtain⟨v,G⟩:=mem_filter.1 o
      simp only[decide_eq_true_eq] at G
      exact⟨λd=>G (by rw[A,d]),i,hi,f,a,v,A,aa⟩
     ·rw[qD Q _ c] at o
      exact⟨λd=>c (by have h:k.1=(n:Int):=(congrArg Prod.fst d);omega),i,hi,f,a,o,A,aa⟩⟩)
   have a7:=@J (∃M,Ym H ms M∧∀k y,(k,y)∈M↔∃i:Nat,i<65∧k.1=(i:Int)∧∃a∈vu Q n (Vc (Q n) x) i,k.2∈zW a.tx∧a.id=y) (by
    obtain⟨M6,v,G⟩:=l.o.sm
    refine⟨M6,v.keep Y.o aw.o.2,λk y=>?_⟩
    rw[G,ba.o]
    have sc:=zix HV.o HE.o k.2 y
    rw[EX.o] at sc
    constructor
    ·rintro⟨hq,i,hi,f,a,o,V,P⟩
     refine⟨i,hi,f,?_⟩
     by_cases c:i=n
     ·subst c
      rw[xB]
      exact sc.1 ⟨λd=>hq ⟨f,d⟩,a,o,V,P⟩
     ·rw[qD Q _ c]
      exact⟨a,o,V,P⟩
    ·rintro⟨i,hi,f,a,o,V,P⟩
     by_cases c:i=n
     ·subst c
      rw[xB] at o
      obtain⟨s1,a',s2,s3,s4⟩:=sc.2 ⟨a,o,V,P⟩
      exact⟨λd=>s1 d.2,i,hi,f,a',s2,s3,s4⟩
     ·rw[qD Q _ c] at o
      exact⟨λd=>c (by have:=d.1;omega),i,hi,f,a,o,V,P⟩)
   have aU:=@J (Fr (λj=>j=ma∨j=ms) w H) (((aR.o.of0.trans FI.o (λj _ e=>.inr e)).trans0 ah.o).trans Y.o (λj _ e=>.inl e))
   have ay:=J (Y.o.obj l.o.obj aw.o.1)
   have R5:=J (za aF.o Y.o (λe=>by have:=ag.o.2.1;omega))
   have aO:=@J (H.cell? ⟨p,0,none⟩=some (.map (some ma))) (by have:=zq ay.o 0 _ rfl;simpa using this)
   clear r U L O N T
   unfold skV at I
   repeat((first|(refine zj rfl ?_;constructor;constructor;(focus(first|exact zn8 rfl (λw h=>h.2) SL.o|(rintro w' ⟨s1,s2⟩;go_simp;(try with_reducible rfl);done))))|(refine zl rfl ?_));try simp only[Act.put,pA,pB,pC])
   (refine zE rfl (λK' hK'=>?_))
   refine yj (jE rfl rfl rfl I.o) ?_
   refine nXt hK' ?_ λhS=>?_
   ·exact⟨aO.o,R5.o⟩
   try simp only[Act.put]
   refine zL (hK.out _ _ ?_)
   go_wp2_with fail
   have F6:=J ((frN H).drew)
   have au:=J (aU.o.trans0 F6.o)
   have az:=J (F6.o.obj ay.o id)
   have R6:=J (Qo (za R5.o F6.o id))
   have ad:=J (zb ae.o au.o (λj S e=>by have:=F.o.rnot n s.o j S;rcases e with e|e;exact this.2.1 e;exact this.2.2 e))
   have C6:=@J (H.drew.cell? ⟨p,1+n,none⟩=some (.slice ra (Q n).length rc)) (by have:=zq az.o (1+n) _ (by rw[add_comm];exact VH s.o);rw[g.o] at this;simpa using this)
   obtain⟨B,hix⟩:∃B,(yV (Q n))[B]? =some x:=List.mem_iff_getElem?.1 (by rw[←EX.o];exact mem_map.2 ⟨e,HE.o,rfl⟩)
   have av:=@J (B<(yV (Q n)).length) ((List.getElem?_eq_some_iff.1 hix).1)
   have aW:=J (Vk hix (zcd HV.o.nd hix))
   have aQ:=@J ((yV (Q n)).eraseIdx B=yV (Vc (Q n) x)) (by rw[erase_filter HV.o.nd hix,zjd])
   have L4:=@J ((yV (Q n)).length≤100000) (by rw[J2];have:=HV.o.len;omega)
   clear hix
   refine wrLx [ff,ff,ff,ff,ff,ff,ff,ff,ff,tt,ff] (λw'=>w'.cell? ⟨p,1+n,none⟩=some (.slice ra (Q n).length rc)∧w'.cell? ⟨q0,0,none⟩=some (.int .i64 n)∧w'.rangeAt q0 1 (zf x)) ?_ (λK hK=>?_)
   ·exact⟨C6.o,R6.o.1,R6.o.2⟩
   generalize H.drew=w6 at*
   have aV:=@J (Calls prog 83 #[.slice ra (Q n).length rc,.agg (zf x).toArray] w6 λe w'=>e=.returned (.int .i64 B)∧Fr No w6 w') (by
    have:=zcP w6 (y3.own ad.o ab.o) L4.o x u.o
    rw[g.o,aW.o] at this
    exact this)
   repeat((first|(refine zj rfl ?_;constructor;constructor;(focus(first|exact zn7 rfl (λw h=>h.2.2) XL.o|(rintro w' ⟨s1,s2,s3⟩;go_simp;(try with_reducible rfl);done))))|(refine zl rfl ?_));try simp only[Act.put,pA,pB,pC])
   (refine zE rfl (λK' hK'=>?_))
   go_simp
   refine aV.o.mono ?_
   rintro e' w7 ⟨rfl,f7⟩
   have F7:=J f7
   clear f7
   refine nXt hK' ?_ λhS=>?_
   ·exact⟨F7.o.cell C6.o id,F7.o.cell R6.o.1 id,za R6.o.2 F7.o id⟩
   try simp only[Act.put,pA,pB,pC]
   repeat((first|(refine zj rfl ?_;constructor;constructor;(focus(first|(rintro w' ⟨s1,s2,s3⟩;go_simp;(try with_reducible rfl);done))))|(refine zl rfl ?_));try simp only[Act.put,pA,pB,pC])
   refine zL (hK.out _ _ ?_)
   go_wp2_with fail
   have F8:=J (F7.o.drew)
   have aY:=J (F8.o.obj az.o id)
   have C8:=J (F8.o.cell C6.o id)
   have K8:=J (F8.o.cell R6.o.1 id)
   have aD:=J (zb ad.o F8.o (λ_ _=>id))
   have aT:=J (au.o.trans0 F8.o)
   have i9:IntKind.i64.wrap ((B:Int)+1)=(B:Int)+1:=IntWalk.i64_in _ (by have:=av.o;have:=L4.o;omega)
   refine ym [ff,ff,ff,ff,ff,ff,ff,ff,ff,ff,ff,ff,ff,tt,ff,ff,ff,tt] (λw'=>w'.cell? ⟨p,1+n,none⟩=some (.slice ra (Q n).length rc)∧w'.cell? ⟨q0,0,none⟩=some (.int .i64 n)) (by kernel_rfl) (by kernel_rfl) 17 (by kernel_rfl) (by kernel_rfl) ?_ (λK hK=>?_)
   ·exact⟨C8.o,K8.o⟩
   generalize w7.drew=w8 at*
   have an:=J (zdv aD.o ab.o L4.o av.o)
   rw[g.o] at an
   repeat((first|(refine z7 rfl ?_;constructor;constructor;(focus(first|(rintro w' ⟨s1,s2⟩;go_simp;(try with_reducible rfl);done))))|(refine ya rfl ?_));try simp only[Act.put,pA,pB,pC])
   (refine z6 rfl (λK' hK'=>?_))
   go_simp
   refine an.o.mono ?_
   rintro e' w9 ⟨v9,rfl,aJ,f9,aM⟩
   have O9:=J aJ
   have F9:=J f9
   have V9:=J aM
   have N9:=@J (¬(Value.slice ra (Q n).length rc).ownBlock=some p) (λe=>(F.o.rnot n s.o p (by rw[g.o];exact e)).1 rfl)
   have aX:=@J (¬(Value.slice ra (Q n).length rc).ownBlock=some q0) (λe=>by have:=(ae.o.lt q0 (by rw[g.o];exact e)).2;omega)
   clear aJ f9 aM
   obtain⟨D,E,bd⟩:=O9.o.slice.arg.form
   subst bd
   refine hK'.out _ _ (λ_=>?_) (λhS=>?_)
   ·exact⟨F9.o.cell C8.o N9.o,F9.o.cell K8.o aX.o⟩
   try simp only[Act.put,pA,pB,pC]
   repeat((first|(refine z7 rfl ?_;constructor;constructor;(focus(first|(rintro w' ⟨s1,s2⟩;go_simp;(try with_reducible rfl);done))))|(refine ya rfl ?_));try simp only[Act.put,pA,pB,pC])
   have aA:=J (F9.o.obj aY.o N9.o)
   have fz:w9.frozen? ⟨p,1+n,none⟩=false:=yl aA.o
   have cz:=F9.o.cell C8.o N9.o
   (refine z6 rfl (λK' hK'=>?_))
   go_simp
   refine hK'.out _ _ (λh=>absurd rfl h) (λhS=>?_)
   refine xD (hK.out _ _ ?_)
   go_wp2_with fail
   refine bodyPost_end (results_none rfl _ _ _) rfl ?_
   have a6:=heap_setCell_same w9 p (1+n) _ _ (.slice D ((yV (Q n)).eraseIdx B).length E) aA.o
   have FS:Fr (λj=>j=p) w9 (w9.setCell ⟨p,1+n,none⟩ (.slice D ((yV (Q n)).eraseIdx B).length E)):=(Fr.refl (λj=>j=p) w9).setCell ⟨p,1+n,none⟩ (.inr rfl) _
   have FT:Fr (Vd p ma ms (R n)) w (w9.setCell ⟨p,1+n,none⟩ (.slice D ((yV (Q n)).eraseIdx B).length E)):=((aT.o.mono (λj e=>by rcases e with e|e;exact .inr (.inl e);exact .inr (.inr (.inl e)))).trans F9.o (λj _ e=>.inr (.inr (.inr (by rw[g.o];exact e))))).trans FS (λj _ e=>.inl e)
   have aS:=@J (Fr No H w8) (F6.o.trans0 F8.o)
   have NM:=F.o.rnot n s.o
   have ar:Fr (λj=>j=p∨(R n).ownBlock=some j) H (w9.setCell ⟨p,1+n,none⟩ (.slice D ((yV (Q n)).eraseIdx B).length E)):=((aS.o.of0.trans F9.o (λj _ e=>.inr (by rw[g.o];exact e))).trans FS (λj _ e=>.inl e))
   refine⟨rfl,FT,.slice D ((yV (Q n)).eraseIdx B).length E,λj S=>by rw[g.o];exact V9.o j S,F.o.upd s.o FT ?_ ?_ ?_ ?_ (λa o=>(F.o.data n s.o a (zje a o)).step (FT.mono (λj c=>F.o.sub j (Je s.o j c))) (λ_ _ h=>h)) (λ_ _=>rfl) (HV.o.filter _) (λj S=>.inl (by rw[g.o];exact V9.o j S)) (λ_ _ h=>h) ?_⟩
   ·have:=zg8 (ma:=ma) (ms:=ms) (R:=R) s.o (.slice D ((yV (Q n)).eraseIdx B).length E)
    rw[a6,add_comm 1 n]
    unfold jq
    rw[←this]
    simp
   ·rw[←aQ.o]
    exact zb O9.o FS (λj S e=>N9.o (by rw[←e];exact V9.o j S))
   ·obtain⟨M6,v,G⟩:=aN.o
    exact⟨M6,v.keep ar (λe=>e.elim (λe=>AA.o.1 e.symm) (λe=>(NM ma e).2.1 rfl)),G⟩
   ·obtain⟨M6,v,G⟩:=a7.o
    exact⟨M6,v.keep ar (λe=>e.elim (λe=>AA.o.2.1 e.symm) (λe=>(NM ms e).2.2 rfl)),G⟩
   ·rintro j (e|e|e|⟨i,hi,e⟩)
    ·exact F.o.sub j (.inl e)
    ·exact F.o.sub j (.inr (.inl e))
    ·exact F.o.sub j (.inr (.inr (.inl e)))
    ·unfold jq at e
     by_cases c:i=n
     ·rw[if_pos c] at e
      exact F.o.sub j (.inr (.inr (.inr ⟨n,s.o,by rw[g.o];exact V9.o j e⟩)))
     ·rw[if_neg c] at e
      exact F.o.sub j (.inr (.inr (.inr ⟨i,hi,e⟩)))
end
theorem zew {P:Program} {o:Oper} {b:Operand→Value} {t:TypeId} {m k x:Operand} {c a d:Value} {w w':World} (g:o.op=.insert t m k x) (f:b m=c) (e:b k=a) (i:b x=d) (h:(Instr.mapUpdate t c a d).run P w=.ok () w'):(execOp b o).run P w=.ok .skip w':=by
 simp only[execOp,g,f,e,i,Sem.run_bind,h,Result.andThen_ok,Sem.run_pure]
structure zd8 (w wr:World) (b1 b2:Nat) (l:List StE) (x:zd) (c:Nat) (MI MW:List (zd×Int)) (I W:List zd):Prop where
 mi:JT wr b1 MI
 mw:JT wr b2 MW
 ci:∀y d,(y,d)∈MI↔d=1∧y∈I
 cw:∀y d,(y,d)∈MW↔d=1∧y∈W
 spl:∀y,y∈qB l x↔y∈I∨y∈Yg (l.take c).reverse W
 li:MI.length+c≤l.length
 lw:MW.length+8*c≤1+8*l.length
 fr:Fr No w wr
theorem zfp {l:List StE} {m:Nat} {e:StE} (h:l[m]? =some e):(l.take (m+1)).reverse=e::(l.take m).reverse:=by
 rw[take_add_one,h]
 simp
theorem zd8.skip {w wr wr':World} {c d:Nat} {l:List StE} {x:zd} {m:Nat} {a b:List (zd×Int)} {I W:List zd} {e:StE} (h:zd8 w wr c d l x (m+1) a b I W) (g:l[m]? =some e) (i:e.id∉W) (f:Fr No wr wr'):zd8 w wr' c d l x m a b I W:=by
 refine⟨h.mi.keep f id,h.mw.keep f id,h.ci,h.cw,λy=>?_,by have:=h.li;omega,by have:=h.lw;omega,h.fr.trans0 f⟩
 rw[h.spl,zfp g,show Yg (e::(l.take m).reverse) W=if e.id∈W then e.id::Yg (l.take m).reverse ((zW e.tx).map (·.tx)++W) else Yg (l.take m).reverse W by rw[Yg],if_neg i]
theorem zd8.step {w wr wr':World} {g i:Nat} {l:List StE} {x:zd} {m:Nat} {j k b c:List (zd×Int)} {I W:List zd} {e:StE} (h:zd8 w wr g i l x (m+1) j k I W) (s:l[m]? =some e) (t:e.id∈W) (f:Fr No w wr') (n:JT wr' g b) (o:JT wr' i c) (q:∀y d,(y,d)∈b↔d=1∧y∈e.id::I) (r:∀y d,(y,d)∈c↔d=1∧y∈(zW e.tx).map (·.tx)++W) (u:b.length≤j.length+1) (v:c.length≤k.length+8):zd8 w wr' g i l x m b c (e.id::I) ((zW e.tx).map (·.tx)++W):=by
 refine⟨n,o,q,r,λy=>?_,by have:=h.li;omega,by have:=h.lw;omega,f⟩
 rw[h.spl,zfp s]
 conv=>lhs;rw[Yg]
 rw[if_pos t]
 simp only[mem_cons]
 constructor
 ·rintro(a|a|a)
  ·exact .inl (.inr a)
  ·exact .inl (.inl a)
  ·exact .inr a
 ·rintro((a|a)|a)
  ·exact .inr (.inl a)
  ·exact .inl a
  ·exact .inr (.inr a)
theorem zd4 {M M':List (zd×Int)} {x:zd} {V V':List zd} (f:Upd M x 1 M') (g:∀y d,(y,d)∈M↔d=1∧y∈V) (b:∀y,y∈V'↔y=x∨y∈V):∀y d,(y,d)∈M'↔d=1∧y∈V':=λy d=>by
 rw[f,g,b]
 constructor
 ·rintro(⟨rfl,rfl⟩|⟨_,a,c⟩)
  ·exact⟨rfl,.inl rfl⟩
  ·exact⟨a,.inr c⟩
 ·rintro⟨rfl,a⟩
  by_cases e:y=x
  ·exact .inl ⟨e,rfl⟩
  ·exact .inr ⟨e,rfl,a.resolve_left e⟩
section
variable {w0 w w':World} {p ma ms:Nat} {R:Nat→Value} {X:Nat→Prop} {C:Nat→zd→List Value} {Q:StQ}
theorem zkA (h:yM w0 w p ma ms R X C Q) {n:Nat} (hn:n<65) {x:zd} (Y:zX x):
  Calls prog 43 #[.pointer (some ⟨p,0,none⟩),.agg (skC (n,x)).toArray] w λe' w'=>∃b M,e'=.returned (.map (some b))∧JT w' b M∧(∀k c,(k,c)∈M↔c=1∧k∈qB (Q n) x)∧w.heap.size≤b∧Fr No w w':=by
 have zp:=vO
 have zh:=yR
 have m1:=zaw
 have HH:=J h
 have HV:=J (h.val n)
 have HN:=J hn
 have bz:=J Y
 have XL:=J (zx Y)
 have bC:(n:Int)<65:=by omega
 have i0:(0:Int)≤(n:Int):=by omega
 obtain⟨ra,rc,hR⟩:=h.row_form hn
 have T:=@J (w.ownsRow w0.heap.size 41 32 (.slice ra (Q n).length rc) (yV (Q n)).length ((yV (Q n)).flatMap zf)) (by rw[←hR];exact h.row n hn)
 have a7:=@J (w.cell? ⟨p,1+n,none⟩=some (.slice ra (Q n).length rc)) (by rw[←hR,add_comm];exact h.cells.2.2 n hn)
 have S:=J (h.idok n)
 have QL:=J (h.val n).len
 have ql:=(h.val n).len
 have bw:=J (J2 (Q n))
 generalize aQ:w.heap.size=l at*
 have bs:=J (by have:=zaz w n x;rw[aQ] at this;exact this)
 have F1:=J ((frN w).alloc (.cells (skC (n,x)).toArray 110))
 have af:=@J ((w.alloc (.cells (skC (n,x)).toArray 110)).heap.size=l+1) (by simp[aQ])
 clear h hn Y hR
 generalize bJ:w.alloc (.cells (skC (n,x)).toArray 110)=wa at*
 have bh:=@J (JT (wa.alloc (.map #[] 0)) (l+1) []) (by have:=yD.made (P:=prog) (kt:=41) (kV:=xp) (vV:=zaU) wa;rw[af.o] at this;exact this)
 have aH:=@J ((wa.alloc (.map #[] 0)).heap.size=l+2) (by simp[af.o])
 have F2:=J (F1.o.alloc (.map #[] 0))
 have bf:=@J (Fr No wa (wa.alloc (.map #[] 0))) ((frN wa).alloc (.map #[] 0))
 generalize bK:wa.alloc (.map #[] 0)=wb at*
 have bj:=@J (JT (wb.alloc (.map #[] 0)) (l+2) []) (by have:=yD.made (P:=prog) (kt:=41) (kV:=xp) (vV:=zaU) wb;rw[aH.o] at this;exact this)
 have F:=J (F2.o.alloc (.map #[] 0))
 have al:=@J (Fr No wb (wb.alloc (.map #[] 0))) ((frN wb).alloc (.map #[] 0))
 generalize bL:wb.alloc (.map #[] 0)=wc at*
 have RK:=J (za (za bs.o bf.o id) al.o id)
 have RX:=J (Qo RK.o).2
 have ao:=J (bh.o.keep al.o id)
 obtain⟨wd,az,s,E,f,r,o⟩:=bj.o.upd xT.keyed jo (λ_ _=>yY) (yq bz.o) (show([]:List (zd×Int)).length<maxLen by decide) 1
 have ay:=J s
 have FU:=J r.fr
 have bl:=J E
 have a8:=J (zd4 (V:=[]) (V':=[x]) f (by simp) (by simp))
 have bp:=@J (az.length≤1) (o)
 have bk:=J (ao.o.keep FU.o (by omega))
 have FD:=@J (Fr No w wd) (F.o.trans FU.o (λi hi e=>by rw[e] at hi;omega))
 have bt:=J (za RK.o FU.o (by omega))
 have aZ:=J (Qo bt.o).1
 clear s E f r o
 unfold xp zaU at ay
 have bH:=af.o
 have bI:=aH.o
 go_enter Tryz.func43,Tryz.ntmps43
 have⟨K0,K1⟩:=tZ2
 go_wp2_with (((with_reducible refine zt ?_);first|(clear K0;refine zn3 rfl rfl rfl RX.o XL.o ?_)|(clear K1;refine zi rfl (zew rfl rfl rfl rfl ay.o) ?_));go_frame)
 have FE:=J (frN wd).drew
 have a6:=@J (wd.drew.cell? ⟨p,1+n,none⟩=some (.slice ra (Q n).length rc)) ((FD.o.trans0 FE.o).cell a7.o id)
 have aj:=J (FE.o.cell aZ.o id)
 refine wrLx [ff,ff,ff,ff,ff,ff,ff,ff] (λw'=>w'.cell? ⟨p,1+n,none⟩=some (.slice ra (Q n).length rc)∧w'.cell? ⟨l,0,none⟩=some (.int .i64 n)) ?_ (λK hK=>?_)
 ·exact⟨a6.o,aj.o⟩
 repeat((first|(refine zj rfl ?_;constructor;constructor;(focus(first|(rintro w' ⟨s1,s2⟩;go_simp;(try with_reducible rfl);done))))|(refine zl rfl ?_));try simp only[Act.put,pA,pB,pC])
 refine zL (hK.out _ _ ?_)
 have aV:=@J (zd8 w wd.drew (l+1) (l+2) (Q n) x (Q n).length [] az [] [x]) (⟨bk.o.keep FE.o id,bl.o.keep FE.o id,by simp,a8.o,λy=>by rw[take_length];unfold qB;simp,by simp,by have:=bp.o;omega,FD.o.trans0 FE.o⟩)
 generalize wd.drew=ws at*
 go_wp2_with fail
 go_loopw [8] (λiv wr=>∃(c:Nat) (MI MW:List (zd×Int)) (I W:List zd),iv=.int .i64 ((c:Int)-1)∧c≤(Q n).length∧zd8 w wr (l+1) (l+2) (Q n) x c MI MW I W∧wr.cell? ⟨l,0,none⟩=some (.int .i64 n)) (λiv _=>(intOf iv+1).toNat)
 case atStart=>exact⟨(Q n).length,_,_,_,_,by go_num,le_refl _,aV.o,aj.o⟩
 case round=>
  obtain⟨c,MI,MW,I,W,rfl,hc,ag,aI⟩:=hrel
  have u:=J ag
  have CK:=J aI
  have FW:=J ag.fr
  clear ag aI
  cases c with
  |zero=>
   have DN:=@J (∀y,y∈qB (Q n) x↔y∈I) (λy=>by rw[u.o.spl];simp[Yg])
   go_wp2_with fail
   go_ret
   exact⟨l+1,MI,rfl,u.o.mi,λk d=>by rw[u.o.ci,DN.o],by omega,FW.o⟩
  |succ m=>
   rw[show(((m+1:Nat):Int)-1)=(m:Int) by omega]
   have i1:(0:Int)≤(m:Int):=by omega
   have i2:(m:Int)<((Q n).length:Int):=by omega
   obtain⟨e,Y⟩:∃e,(Q n)[m]? =some e:=⟨_,getElem?_eq_getElem (by omega)⟩
   have L:=mem_of_getElem? Y
   have HX:=J Y
   have EM:=J L
   have v:=J (S.o e.id (mem_map.2 ⟨e,L,rfl⟩))
   have EL:=J (zx v.o)
   have aU:(yV (Q n))[m]? =some e.id:=by unfold yV;rw[getElem?_map,Y];rfl
   obtain⟨g,off,bG,aT,aR,-⟩:=(y3.own (zb T.o FW.o (λ_ _=>id)) S.o).at_ aU
   rw[bw.o] at aT
   cases aT
   have R1:=J aR
   have LW:=J (za8 u.o.mw u.o.cw v.o)
   have ab:=@J (e.tx.ins.length≤8) (HV.o.ins8 e L)
   have bD:e.tx.ins.length≤1000:=by have:=ab.o;omega
   unfold xp at LW
   clear Y L aU aR
   by_cases hw:e.id∈W
   ·rw[if_pos hw] at LW
    have HW:=J hw
    clear hw
    obtain⟨G,bo,s,aN,f,r,o⟩:=u.o.mi.upd xT.keyed jo (λ_ _=>yY) (yq v.o) (show MI.length<maxLen by unfold maxLen;have:=u.o.li;have:=QL.o;omega) 1
    have N:=J s
    have B:=J r.fr
    have aq:=J aN
    have aW:=J (zd4 (V':=e.id::I) f u.o.ci (by simp))
    have bm:=@J (bo.length≤MI.length+1) (o)
    have av:=J (u.o.mw.keep B.o (by omega))
    have bb:=@J (Fr No w G) (FW.o.trans B.o (λi hi e=>by rw[e] at hi;omega))
    have R2:=@J (G.rangeAt g (off+m*32) (zf e.id)) (za R1.o B.o (λe=>by have:=(T.o.lt g rfl).2;have e:g=l+1:=e;omega))
    have aX:=J (B.o.cell CK.o (show ¬l=l+1 by omega))
    clear s aN f r o
    unfold xp zaU at N
    have⟨K0,K1,K2,K3⟩:=tZ4
    go_wp2_with (((with_reducible refine zt ?_);first|(clear K0;refine zn3 rfl rfl rfl R1.o EL.o ?_)|(clear K1;refine zg rfl (zQ (t:=120) rfl rfl rfl LW.o) ?_)|(clear K2;refine zn3 rfl rfl rfl R1.o EL.o ?_)|(clear K3;refine zi rfl (y4 rfl rfl rfl rfl N.o) ?_));go_frame)
    have an:=J (bb.o.drew)
    have D:=J (HH.o.fr0 an.o)
    have aF:=J (za R2.o (frN G).drew id)
    have A:=J ((frN G).drew.cell aX.o id)
    have au:=J (aq.o.keep (frN G).drew id)
    have ax:=J (av.o.keep (frN G).drew id)
    have bA:=@J (l+3≤G.drew.heap.size) (by have:=B.o.size;have h2:l+2<wr.heap.size:=u.o.mw.lt;show l+3≤G.heap.size;omega)
    obtain⟨M,hM,hm⟩:=D.o.am
    obtain⟨ia,ic,oa,oc,ah⟩:=(D.o.data n HN.o e EM.o).now.form
    have U:Yn C Q n e.id=[.int .u32 e.tx.ver,.slice ia e.tx.ins.length ic,.slice oa e.tx.outs.length oc]:=by
     unfold Yn
     rw[if_pos (show qt Q n e.id=true from by unfold qt;simp only[decide_eq_true_eq];exact⟨i0,bC,by rw[Int.toNat_natCast];exact mem_map.2 ⟨e,EM.o,rfl⟩⟩),Int.toNat_natCast,ah]
    have LK:=@J (∀w',vB w' ma M→(Instr.lookup 113 (.map (some ma)) (.agg (skC (n,e.id)).toArray) false).run prog w'=.ok (.agg #[.int .u32 e.tx.ver,.slice ia e.tx.ins.length ic,.slice oa e.tx.outs.length oc]) w') (λw' h'=>by
     have:=Yb (w:=w') (zak HN.o) v.o h' hm false
     rw[U] at this
     simpa using this)
    have HM:=J hM
    have TQ:=@J (TxQ G.drew e.tx [.int .u32 e.tx.ver,.slice ia e.tx.ins.length ic,.slice oa e.tx.outs.length oc]) (by rw[←ah];exact(D.o.data n HN.o e EM.o).now)
    have bu:=J (JS (k:=((n:Int),e.id)) v.o)
    clear hM hm ah U
    refine wrLx [ff,ff,ff,ff,ff,ff,ff,ff,ff,ff,ff,ff,tt,ff,ff] (λw'=>w'.cell? ⟨p,0,none⟩=some (.map (some ma))∧w'.cell? ⟨l,0,none⟩=some (.int .i64 n)∧w'.rangeAt g (off+m*32) (zf e.id)∧vB w' ma M) ?_ (λK hK=>?_)
    ·exact⟨D.o.cells.1,A.o,aF.o,HM.o⟩
    generalize G.drew=wz at*
    repeat((first|(refine zj rfl ?_;constructor;constructor;(focus(first|exact zn7 rfl (λw h=>h.2.2.1) EL.o|exact λw' _=>yP (t:=110) rfl rfl jg (Jg _ v.o) (jf _ _) bu.o|exact λw' h=>zQ (t:=113) rfl rfl rfl (LK.o w' h.2.2.2)|(rintro w' ⟨s1,s2,s3,s4⟩;go_simp;(try with_reducible rfl);done))))|(refine zl rfl ?_));try simp only[Act.put,pA,pB,pC])
    (refine zE rfl (λK' hK'=>?_))
    go_simp
    refine(vY wz TQ.o bD).mono ?_
    rintro e' w3 ⟨pv,rfl,ai,f3⟩
    obtain⟨pa,pc,bB⟩:=ai.slice.arg.form
    subst bB
    have F:=J f3
    have PO:=J ai
    clear f3 ai
    refine nXt hK' ?_ λhS=>?_
    ·exact⟨(D.o.fr0 F.o).cells.1,F.o.cell A.o id,za aF.o F.o id,HM.o.keep F.o id⟩
    try simp only[Act.put,pA,pB,pC]
    repeat((first|(refine zj rfl ?_;constructor;constructor;(focus(first|(rintro w' ⟨s1,s2,s3,s4⟩;go_simp;(try with_reducible rfl);done))))|(refine zl rfl ?_));try simp only[Act.put,pA,pB,pC])
    refine zL (hK.out _ _ ?_)
    have aD:=@J (∀q∈zW e.tx,q.ok) (λq hq=>by obtain⟨y,hy,rfl⟩:=mem_map.1 hq;exact TQ.o.oks.1 y hy)
    have ae:=J (vJ e.tx)
    have bq:=@J (∀j,(Value.slice pa e.tx.ins.length pc).ownBlock=some j→l+3≤j) (λj hj=>by have:=(PO.o.lt j hj).1;have:=bA.o;omega)
    have ar:=J (au.o.keep F.o id)
    have aw:=J (ax.o.keep F.o id)
    have aY:=J (F.o.cell A.o id)
    have bc:=J (an.o.trans0 F.o)
    go_wp2_with fail
    go_loopw [56] (λiv Z=>∃(j:Nat) (z:List (zd×Int)),iv=.int .i64 j∧j≤e.tx.ins.length∧JT Z (l+2) z∧(∀y d,(y,d)∈z↔d=1∧y∈((zW e.tx).take j).map (·.tx)++W)∧z.length≤MW.length+j∧Fr (λb=>b=l+2) w3 Z) (λiv _=>e.tx.ins.length-(intOf iv).toNat)
    case atStart=>exact⟨0,MW,rfl,zero_le _,aw.o,by simpa using u.o.cw,le_refl _,Fr.refl _ _⟩
    case round=>
     obtain⟨j,z,rfl,hj,E,aJ,aM,aK⟩:=hrel
     rename World=>Z
     have aC:=J E
     have ak:=J aJ
     have ad:=J aM
     have FI:=J aK
     clear E aJ aM aK
     by_cases hjt:j<e.tx.ins.length
     ·have i3:(j:Int)<(e.tx.ins.length:Int):=by omega
      obtain⟨q,hq⟩:∃q,(zW e.tx)[j]? =some q:=⟨_,getElem?_eq_getElem (by rw[ae.o];exact hjt)⟩
      have H:=J (aD.o q (mem_of_getElem? hq))
      have br:=J (zb PO.o FI.o (λj hj e=>by have:=bq.o j hj;omega))
      have aP:xN Z (.slice pa e.tx.ins.length pc) (zW e.tx):=⟨aD.o,by rw[ae.o];exact br.o.slice.arg⟩
      obtain⟨b2,bF,bE,e2,aS,-⟩:=aP.at_ hq
      injection e2 with e3 e4 e5
      subst e3
      have R3:=J aS
      have PL:=J (zY H.o)
      have aE:=J (zx H.o.1)
      have RQ:=J (zy Z (zn q) 95)
      have FQ:=J ((frN Z).alloc (.cells (zn q).toArray 95))
      have aG:=J (zaQ RQ.o H.o).1
      obtain⟨w5,aA,s,aO,f,r,o⟩:=(aC.o.keep FQ.o id).upd xT.keyed jo (λ_ _=>yY) (yq H.o.1) (show z.length<maxLen by unfold maxLen;have:=ad.o;have:=u.o.lw;have:=QL.o;have:=ab.o;omega) 1
      have O:=J s
      have bg:=@J (Fr (λb=>b=l+2) w3 w5) ((FI.o.trans0 FQ.o).trans r.fr (λ_ _ e=>e))
      have aB:=J aO
      have ba:=J (zd4 (V':=((zW e.tx).take (j+1)).map (·.tx)++W) f ak.o (λy=>by
       rw[take_add_one,hq]
       simp only[Option.toList_some,List.map_append,List.map_cons,List.map_nil,List.mem_append,List.mem_singleton]
       constructor
       ·rintro((a|a)|a)
        ·exact .inr (.inl a)
        ·exact .inl a
        ·exact .inr (.inr a)
       ·rintro(a|a|a)
        ·exact .inl (.inr a)
        ·exact .inl (.inl a)
        ·exact .inr a))
      have bn:=@J (aA.length≤z.length+1) (o)
      clear s aO f r o aS hq e4 e5 aP
      unfold xp zaU at O
      unfold zf at aG aE
      have⟨K0,K1,K2,K3⟩:=tZ4
      go_wp2_with ((first|((with_reducible refine zt ?_);first|(clear K0;refine zn4 rfl rfl rfl R3.o PL.o ?_)|(clear K2;refine zn3 rfl rfl rfl aG.o aE.o ?_)|(clear K3;refine zi rfl (y4 rfl rfl rfl rfl O.o) ?_))|((with_reducible refine zv ?_);clear K1;refine zoc (w:=Z) (cs:=zn q) rfl rfl rfl rfl PL.o yI ?_));go_frame)
      go_roundw
      case rel=>exact⟨j+1,aA,by go_num,by omega,aB.o,ba.o,by have:=bn.o;have:=ad.o;omega,bg.o⟩
      case measure=>simp[intOf];omega
     ·have aL:j=e.tx.ins.length:=by omega
      have i3:¬(j:Int)<(e.tx.ins.length:Int):=by omega
      have bx:=@J ((zW e.tx).take j=zW e.tx) (by rw[aL,←ae.o,take_length])
      have bd:=@J (Fr No w Z) (bc.o.trans FI.o (λi hi e=>by omega))
      have aa:=J (u.o.step HX.o HW.o bd.o (ar.o.keep FI.o (by omega)) aC.o aW.o (by have:=ak.o;rw[bx.o] at this;exact this) bm.o (by have:=ad.o;have:=ab.o;omega))
      have a1:=J (FI.o.cell aY.o (show ¬l=l+2 by omega))
      clear aL
      go_wp2_with fail
      go_roundw
      case rel=>exact⟨m,_,_,_,_,by go_num,by omega,aa.o,a1.o⟩
      case measure=>simp[intOf]
   ·rw[if_neg hw] at LW
    have aa:=J (u.o.skip HX.o hw (frN wr))
    clear hw
    have⟨K0,K1⟩:=tZ2
    go_wp2_with (((with_reducible refine zt ?_);first|(clear K0;refine zn3 rfl rfl rfl R1.o EL.o ?_)|(clear K1;refine zg rfl (zQ (t:=120) rfl rfl rfl LW.o) ?_));go_frame)
    go_roundw
    case rel=>exact⟨m,_,_,_,_,by go_num,by omega,aa.o,CK.o⟩
    case measure=>simp[intOf]
end
theorem zks (Q:StQ) (n:Nat) (a b:List StE):vu (vu Q n a) n b=vu Q n b:=by
 funext j
 unfold vu
 by_cases h:j=n<;>simp[h]
def zbz (C:Nat→zd→List Value) (n:Nat) (l:List StE):List Value:=l.flatMap λe=>C n e.id
theorem zf2 (C:Nat→zd→List Value) (n:Nat) (l:List StE) (e:StE):zbz C n (l++[e])=zbz C n l++C n e.id:=by simp[zbz]
def ziO (w:World) (e:Ending) (w':World):Prop:=e=.returned (.tuple #[.slice none 0 0,.int .i64 9])∧Fr No w w'
section
variable {w0 w w':World} {p ma ms:Nat} {R:Nat→Value} {X:Nat→Prop} {C:Nat→zd→List Value} {Q:StQ}
def zed (w0 w:World) (p ma ms:Nat) (R:Nat→Value) (X:Nat→Prop) (C:Nat→zd→List Value) (Q:StQ) (n:Nat) (K:List zd) (bi:Nat) (MI:List (zd×Int)) (k:Nat) (tv:Value) (wr:World):Prop:=
 ∃v',yM w0 wr p ma ms (jq R n v') X C (vu Q n (J4 (Q n) K k))∧(∀j,v'.ownBlock=some j→(R n).ownBlock=some j)∧wr.ownsRow w.heap.size 34 3 tv (jG (Q n) K k).length (zbz C n (jG (Q n) K k))∧Fr (Vd p ma ms (R n)) w wr∧JT wr bi MI
theorem Qa (R:Nat→Value) (n:Nat) (v:Value):jq R n v n=v:=if_pos rfl
theorem zkt (R:Nat→Value) (n:Nat) (a b:Value):jq (jq R n a) n b=jq R n b:=by
 funext j
 unfold jq
 by_cases h:j=n<;>simp[h]
theorem zhf (R:Nat→Value) (n:Nat):jq R n (R n)=R:=by
 funext j
 unfold jq
 by_cases h:j=n<;>simp[h]
theorem zed.fr0 {n:Nat} {K:List zd} {i k:Nat} {g:List (zd×Int)} {tv:Value} {wr wr':World} (h:zed w0 w p ma ms R X C Q n K i g k tv wr) (f:Fr No wr wr'):zed w0 w p ma ms R X C Q n K i g k tv wr':=by
 obtain⟨j,a,b,c,d,e⟩:=h
 exact⟨j,a.fr0 f,b,zb c f (λ_ _=>id),d.trans0 f,e.keep f id⟩
theorem YV {w:World} {t:TxD} {cs:List Value} (h:TxQ w t cs):cs.length=3∧∀v∈cs,v.oneCell'=true:=by
 obtain⟨a,b,c,d,rfl⟩:=h.form
 exact⟨rfl,qM rfl rfl rfl⟩
theorem zlE:∀v∈zft,v.oneCell'=true:=qM rfl rfl rfl
theorem zlC (h:yM w0 w p ma ms R X C Q) {i:Int} (hi:Y3 i) {x:zd} (f:zX x) (b:qt Q i x=false):
  Calls prog 14 #[.pointer (some ⟨p,0,none⟩),.int .i64 i,.agg (zf x).toArray] w (ziO w):=by
 have s:=J f
 have F:=J (zx f)
 have B:=J h
 have P:=jA
 have r:=J (JS (k:=(i,x)) f)
 have j:=J ((frN w).alloc (.cells (zf x).toArray 41))
 have E:=J (zy w (zf x) 41)
 obtain⟨cs,a⟩:∃cs,Yn C Q i x=cs:=⟨_,rfl⟩
 have d:=@J (cs=zft) (by rw[←a];unfold Yn;rw[if_neg (by simp[b])])
 have e:=@J (cs.length=3) (by rw[d.o];rfl)
 have g:=@J (∀v∈cs,v.oneCell'=true) (by rw[d.o];exact zlE)
 obtain⟨M,y,z⟩:=(h.fr0 (j.o.drew)).am
 have D:=@J (∀w',vB w' ma M→(Instr.lookup 113 (.map (some ma)) (.agg (skC (i,x)).toArray) true).run prog w'=.ok (.tuple #[.agg cs.toArray,.bool false]) w') (λw' G=>by
  have:=Yb (w:=w') hi f G z true
  rw[a,b] at this
  simpa using this)
 have o:=J y
 clear h f b y z a
 go_enter Tryz.func14,Tryz.ntmps14
 go_wp2_with fail
 generalize H:w.heap.size=I at*
 generalize u:w.alloc (.cells (zf x).toArray 41)=A at*
 clear u
 have m:=J (B.o.fr0 j.o.drew)
 have q:=J (za E.o (frN A).drew id)
 have l:=J j.o.drew
 have n:=J o.o
 refine wrLx [ff,ff,ff,ff,ff,ff,ff,ff,ff,ff,ff,tt,tt,ff] (λw'=>w'.cell? ⟨p,0,none⟩=some (.map (some ma))∧w'.rangeAt I 0 (zf x)∧vB w' ma M) ?_ (λK hK=>?_)
 ·exact⟨m.o.cells.1,q.o,n.o⟩
 generalize A.drew=c at*
 repeat((first|(refine zj rfl ?_;constructor;constructor;(focus(first|exact zn7 rfl (λw h=>h.2.1) F.o|exact λw' _=>yP (t:=110) rfl rfl jg (Jg _ s.o) (jf _ _) r.o|exact λw' h=>zQ (t:=113) rfl rfl rfl (D.o w' h.2.2)|(rintro w' ⟨L,N,O⟩;go_simp;(try with_reducible rfl);done))))|(refine zl rfl ?_));try simp only[Act.put,pA,pB,pC])
 (refine zE rfl (λK' hK'=>?_))
 refine yj (yA rfl (jA _)) ?_
 refine nXt hK' ?_ λhS=>?_
 ·exact⟨((frN c).alloc _).cell m.o.cells.1 id,za q.o ((frN c).alloc _) id,n.o.keep ((frN c).alloc _) id⟩
 try simp only[Act.put,pA,pB,pC]
 (refine zE rfl (λK' hK'=>?_))
 refine yN (zm (w:=c) (ty:=34) (cs:=cs) rfl rfl rfl (by rw[e.o];rfl) (by rw[e.o];exact yZ) g.o) ?_
 refine nXt hK' ?_ λhS=>?_
 ·exact⟨((frN c).alloc _).cell m.o.cells.1 id,za q.o ((frN c).alloc _) id,n.o.keep ((frN c).alloc _) id⟩
 try simp only[Act.put]
 repeat((first|(refine zj rfl ?_;constructor;constructor;(focus(first|(rintro w' -;go_simp;(try with_reducible rfl);done))))|(refine zl rfl ?_));try simp only[Act.put,pA,pB,pC])
 refine zL (hK.out _ _ ?_)
 go_wp2_with fail
 go_ret2
 exact⟨rfl,l.o.alloc _⟩
theorem zm2 (h:yM w0 w p ma ms R X C Q) {n:Nat} (O:n<65) {x:zd} (E:x∈yV (Q n)):
  Calls prog 14 #[.pointer (some ⟨p,0,none⟩),.int .i64 n,.agg (zf x).toArray] w λe' w'=>∃tv,e'=.returned (.tuple #[tv,.int .i64 0])∧Fr (Vd p ma ms (R n)) w w'∧w'.ownsRow w.heap.size 34 3 tv (jK (Q n) x).length (zbz C n (jK (Q n) x))∧∃d,(∀j,d.ownBlock=some j→(R n).ownBlock=some j)∧yM w0 w' p ma ms (jq R n d) X C (vu Q n (Ql (Q n) x)):=by
 have zh:=yR
 have zT:=jA
 have B:=h.idok n x E
 have af:=J B
 have XL:=J (zx B)
 have HH:=J h
 have W:=J O
 have aK:(n:Int)<65:=by omega
 have i0:(0:Int)≤(n:Int):=by omega
 have HV:=J (h.val n)
 have ad:=J (J2 (Q n))
 have QL:=J (h.val n).len
 have ql:=(h.val n).len
 have q:=J (h.idok n)
 have ax:=J (JS (k:=((n:Int),x)) B)
 have F1:=J ((frN w).alloc (.cells (zf x).toArray 41))
 have RK:=J (zy w (zf x) 41)
 have l:qt Q n x=true:=by unfold qt;simp only[decide_eq_true_eq];exact⟨i0,aK,by rw[Int.toNat_natCast];exact E⟩
 obtain⟨cs,ai⟩:∃cs,Yn C Q n x=cs:=⟨_,rfl⟩
 have ag:cs.length=3∧∀v∈cs,v.oneCell'=true:=by
  rw[←ai]
  unfold Yn
  rw[if_pos l,Int.toNat_natCast]
  obtain⟨e,he,rfl⟩:=mem_map.1 E
  exact YV (h.data n O e he).now
 have al:=J ag.1
 have aP:=J ag.2
 obtain⟨M,hM,hm⟩:=(h.fr0 (F1.o.drew)).am
 have LK:=@J (∀w',vB w' ma M→(Instr.lookup 113 (.map (some ma)) (.agg (skC (n,x)).toArray) true).run prog w'=.ok (.tuple #[.agg cs.toArray,.bool true]) w') (λw' h'=>by
  have:=Yb (w:=w') (zak O) B h' hm true
  rw[ai,l] at this
  simpa using this)
 have aY:=J hM
 obtain⟨ra,rc,hR⟩:=h.row_form O
 have aQ:=@J (w.cell? ⟨p,1+n,none⟩=some (.slice ra (Q n).length rc)) (by rw[←hR,add_comm];exact h.cells.2.2 n O)
 have av:=@J (w.ownsRow w0.heap.size 41 32 (.slice ra (Q n).length rc) (yV (Q n)).length ((yV (Q n)).flatMap zf)) (by rw[←hR];exact h.row n O)
 have aM:=@J (∀j,Vd p ma ms (R n) j→j<w.heap.size) (λj a=>h.hi j (Je O j a))
 clear h O B hM hm ai l E ag hR
 go_enter Tryz.func14,Tryz.ntmps14
 go_wp2_with fail
 generalize bh:w.heap.size=q0 at*
 generalize aI:w.alloc (.cells (zf x).toArray 41)=wa at*
 have ZA:=@J (wa.heap.size=q0+1) (by rw[←aI,←bh];simp)
 clear aI
 have HD:=J (HH.o.fr0 F1.o.drew)
 have RD:=J (za RK.o (frN wa).drew id)
 have aT:=J F1.o.drew
 have HM:=J aY.o
 have ZD:=@J (wa.drew.heap.size=q0+1) (ZA.o)
 refine wrLx [ff,ff,ff,ff,ff,ff,ff,ff,ff,ff,ff,tt,tt,ff] (λw'=>w'.cell? ⟨p,0,none⟩=some (.map (some ma))∧w'.rangeAt q0 0 (zf x)∧vB w' ma M) ?_ (λK hK=>?_)
 ·exact⟨HD.o.cells.1,RD.o,HM.o⟩
 generalize wa.drew=D at*
 repeat((first|(refine zj rfl ?_;constructor;constructor;(focus(first|exact zn7 rfl (λw h=>h.2.1) XL.o|exact λw' _=>yP (t:=110) rfl rfl jg (Jg _ af.o) (jf _ _) ax.o|exact λw' h=>zQ (t:=113) rfl rfl rfl (LK.o w' h.2.2)|(rintro w' ⟨s1,s2,s3⟩;go_simp;(try with_reducible rfl);done))))|(refine zl rfl ?_));try simp only[Act.put,pA,pB,pC])
 (refine zE rfl (λK' hK'=>?_))
 refine yj (yA rfl (jA _)) ?_
 refine nXt hK' ?_ λhS=>?_
 ·exact⟨((frN D).alloc _).cell HD.o.cells.1 id,za RD.o ((frN D).alloc _) id,HM.o.keep ((frN D).alloc _) id⟩
 try simp only[Act.put,pA,pB,pC]
 (refine zE rfl (λK' hK'=>?_))
 refine yN (zm (w:=D) (ty:=34) (cs:=cs) rfl rfl rfl (by rw[al.o];rfl) (by rw[al.o];exact yZ) aP.o) ?_
 refine nXt hK' ?_ λhS=>?_
 ·exact⟨((frN D).alloc _).cell HD.o.cells.1 id,za RD.o ((frN D).alloc _) id,HM.o.keep ((frN D).alloc _) id⟩
 try simp only[Act.put]
 repeat((first|(refine zj rfl ?_;constructor;constructor;(focus(first|(rintro w' -;go_simp;(try with_reducible rfl);done))))|(refine zl rfl ?_));try simp only[Act.put,pA,pB,pC])
 refine zL (hK.out _ _ ?_)
 have FE:=J (aT.o.alloc (.cells cs.toArray 34))
 have RE:=J (za RD.o ((frN D).alloc (.cells cs.toArray 34)) id)
 have ZE:=@J ((D.alloc (.cells cs.toArray 34)).heap.size=q0+2) (by simp[ZD.o])
 generalize D.alloc (.cells cs.toArray 34)=we at*
 have HE:=J (HH.o.fr0 FE.o)
 have aL:=J (zkA HE.o W.o af.o)
 have aN:=J (λw' (f:Fr No w w')=>YJ w' (y3.own (zb av.o f (λ_ _=>id)) q.o) (by rw[ad.o];have:=QL.o;omega))
 have⟨Y,Z,K2,K3⟩:=tZ4
 go_wp2_with ((first|((with_reducible refine zt ?_);first|(clear Y;refine zn3 rfl rfl rfl RE.o XL.o ?_)|(clear Z;refine zg rfl (yP (t:=110) rfl rfl jg (Jg _ af.o) (jf _ _) ax.o) ?_))|(clear K2;go_at_call 43;refine aL.o.mono ?_;rintro e' w3 ⟨bi,MI,rfl,u,az,ay,f3⟩;have aq:=J u;have aX:=J az;have ao:=J ay;have F3:=J (FE.o.trans0 f3);have C3:=J (F3.o.cell aQ.o id);clear u az ay f3;have c3:=C3.o)|(clear K3;go_at_call 42;refine(aN.o w3 F3.o).mono ?_;rintro e' m ⟨cv,rfl,ak,f4⟩;obtain⟨ca,cc,aA⟩:=ak.slice.arg.form;rw[ad.o] at aA;subst aA;have O4:=J ak;have F4:=J (F3.o.trans0 f4);have G:=J (aq.o.keep f4 id);have Z4:=J f4.size;clear ak f4));go_frame)
 have H4:=J (HH.o.fr0 F4.o)
 have ZQ:=@J (q0≤w3.heap.size) (by have:=F3.o.size;omega)
 have aO:=@J (∀j,(Value.slice ca (Q n).length cc).ownBlock=some j→¬Vd p ma ms (R n) j) (λj a e=>by have:=(O4.o.lt j a).1;have:=aM.o j e;have:=ZQ.o;omega)
 have ae:=@J (q0+2≤w3.heap.size) (by have:=F3.o.size;have:=ZE.o;have:=aq.o.lt;have:=ao.o;omega)
 obtain⟨A,s⟩:∃A:Nat→Prop,A=λj=>X j∨m.heap.size≤j:=⟨_,rfl⟩
 have bd:=@J (∀j,m.heap.size≤j→A j) (λj a=>by rw[s];exact .inr a)
 have bf:=@J (∀j,X j→A j) (λj a=>by rw[s];exact .inl a)
 have aW:=@J (yM w0 m p ma ms R A C Q) (H4.o.frV (frN m) (λ_ _=>id) (λ_ h=>h.elim) (λ_ h=>h.elim) (λj a e=>by rw[s] at e;exact e.resolve_right (by omega)) (λj a=>by rw[s];exact .inl (H4.o.sub j a)))
 clear s
 have r:=@J (∀d,(∀j,d.ownBlock=some j→(R n).ownBlock=some j)→∀j,stV p ma ms (jq R n d) j→j<q0∧X j) (λd hv j a=>by
  have z:stV p ma ms R j:=by
   rcases a with e|e|e|⟨i,hi,e⟩
   ·exact .inl e
   ·exact .inr (.inl e)
   ·exact .inr (.inr (.inl e))
   ·unfold jq at e
    by_cases c:i=n
    ·rw[if_pos c] at e;exact .inr (.inr (.inr ⟨n,W.o,hv j e⟩))
    ·rw[if_neg c] at e;exact .inr (.inr (.inr ⟨i,hi,e⟩))
  exact⟨by have:=HH.o.hi j z;omega,HH.o.sub j z⟩)
 have ba:=@J (zed w0 m p ma ms R A C Q n (qB (Q n) x) bi MI 0 (.slice none 0 0) m) (⟨R n,by rw[zhf,zgq,zd3];exact aW.o,λj h=>h,by rw[zf3];exact World.ownsRow_nil _ _ _ _,Fr.refl _ _,G.o⟩)
 go_loopw [11,42] (λtv iv wr=>∃k:Nat,iv=.int .i64 k∧k≤(Q n).length∧zed w0 m p ma ms R A C Q n (qB (Q n) x) bi MI k tv wr) (λ_ iv _=>(Q n).length-(intOf iv).toNat)
 case atStart=>exact⟨0,rfl,zero_le _,ba.o⟩
 case round=>
  obtain⟨k,rfl,hk,aE⟩:=hrel
  have TK:=J aE
  obtain⟨d,z,aG,y,aC,u⟩:=aE
  obtain⟨ta,tc,bj⟩:=y.slice.arg.form
  subst bj
  have ST:=J z
  have I:=J aG
  have ab:=J y
  have FR:=J aC
  have ar:=J u
  clear z aG y aC u
  by_cases bg:k<(Q n).length
  ·have i1:(k:Int)<((Q n).length:Int):=by omega
   obtain⟨e,B⟩:∃e,(Q n)[k]? =some e:=⟨_,getElem?_eq_getElem bg⟩
   have HX:=J B
   have aB:=mem_of_getElem? B
   have o:=J (q.o e.id (mem_map.2 ⟨e,aB,rfl⟩))
   have F:=J (zx o.o)
   have aJ:(yV (Q n))[k]? =some e.id:=by unfold yV;rw[getElem?_map,B];rfl
   have aS:=@J (wr.ownsRow w3.heap.size 41 32 (.slice ca (Q n).length cc) (yV (Q n)).length ((yV (Q n)).flatMap zf)) (zb O4.o FR.o (λj a e=>aO.o j a e))
   obtain⟨g,off,bo,aH,aD,-⟩:=(y3.own aS.o q.o).at_ aJ
   rw[ad.o] at aH
   cases aH
   have R1:=J aD
   have RN:=J (zy wr (zf e.id) 41)
   have FA:=J ((frN wr).alloc (.cells (zf e.id).toArray 41))
   clear B aB aJ aD
   have LI:=J (za8 (ar.o.keep FA.o id) aX.o o.o)
   unfold xp at LI
   have bb:=J (TK.o.fr0 FA.o)
   by_cases hw:e.id∈qB (Q n) x
   ·rw[if_pos hw] at LI
    have S:=J (ziA HV.o.nd HX.o hw)
    have T:=@J (e∈vu Q n (J4 (Q n) (qB (Q n) x) k) n) (by rw[xB];exact ziB HX.o)
    have H:=J (JS (k:=((n:Int),e.id)) o.o)
    clear hw
    have⟨Y,Z,K2,K3⟩:=tZ4
    go_wp2_with ((first|((with_reducible refine zt ?_);first|(clear Y;refine zn3 rfl rfl rfl R1.o F.o ?_)|(clear K2;refine zn3 rfl rfl rfl RN.o F.o ?_)|(clear K3;refine zg rfl (zQ (t:=120) rfl rfl rfl LI.o) ?_))|((with_reducible refine zv ?_);clear Z;refine zob (w:=wr) (cs:=zf e.id) rfl rfl rfl rfl F.o zS ?_));go_frame)
    generalize bp:wr.heap.size=qx at*
    generalize bl:wr.alloc (.cells (zf e.id).toArray 41)=wn at*
    clear bl
    have FN:=J (FA.o.drew)
    have SN:=J (ST.o.fr0 FN.o)
    have aa:=J (za RN.o (frN wn).drew id)
    have aw:=J (zb ab.o FN.o (λ_ _=>id))
    have U:=J (FR.o.trans0 FN.o)
    have a7:=J (ar.o.keep FN.o id)
    obtain⟨M,hM,hm⟩:=SN.o.am
    have N:=(SN.o.data n W.o e T.o).now
    obtain⟨ia,ic,oa,oc,ah⟩:=N.form
    have L:Yn C (vu Q n (J4 (Q n) (qB (Q n) x) k)) n e.id=[.int .u32 e.tx.ver,.slice ia e.tx.ins.length ic,.slice oa e.tx.outs.length oc]:=by
     unfold Yn
     rw[if_pos (show qt _ n e.id=true from by unfold qt;simp only[decide_eq_true_eq];exact⟨i0,aK,by rw[Int.toNat_natCast];exact mem_map.2 ⟨e,T.o,rfl⟩⟩),Int.toNat_natCast,ah]
    have a1:=@J (∀w',vB w' ma M→(Instr.lookup 113 (.map (some ma)) (.agg (skC (n,e.id)).toArray) false).run prog w'=.ok (.agg #[.int .u32 e.tx.ver,.slice ia e.tx.ins.length ic,.slice oa e.tx.outs.length oc]) w') (λw' h'=>by
     have:=Yb (w:=w') (zak W.o) o.o h' hm false
     rw[L] at this
     simpa using this)
    have V:=J hM
    have aV:=@J (zbz C n (jG (Q n) (qB (Q n) x) (k+1))=zbz C n (jG (Q n) (qB (Q n) x) k)++[.int .u32 e.tx.ver,.slice ia e.tx.ins.length ic,.slice oa e.tx.outs.length oc]) (by rw[S.o.2,zf2,ah])
    have aU:=@J ((jG (Q n) (qB (Q n) x) (k+1)).length=(jG (Q n) (qB (Q n) x) k).length+1) (by rw[S.o.2];simp)
    have an:=@J ((jG (Q n) (qB (Q n) x) k).length≤4) (Nat.le_trans zhK (by have:=QL.o;omega))
    clear hM hm ah L N
    refine wrLx [ff,ff,ff,ff,ff,ff,ff,ff,ff,tt,tt,ff] (λw'=>w'.cell? ⟨p,0,none⟩=some (.map (some ma))∧w'.rangeAt qx 0 (zf e.id)∧vB w' ma M) ?_ (λK hK=>?_)
    ·exact⟨SN.o.cells.1,aa.o,V.o⟩
    generalize wn.drew=wm at*
    obtain⟨v8,w8,b1,b2,b3,-,b5⟩:=yX (P:=prog) wm m.heap.size 23 23 34 3 56 _ zd1 zgW rfl (by decide) aw.o [.int .u32 e.tx.ver,.slice ia e.tx.ins.length ic,.slice oa e.tx.outs.length oc] rfl (qM rfl rfl rfl) (by have:=an.o;omega) (by have:=an.o;unfold maxLen;omega) U.o.size
    obtain⟨bm,bn,bk⟩:=b2.slice.arg.form
    subst bk
    have B1:=J b1
    have B2:=J b2
    have B3:=J b3
    have B5:=J b5
    clear b1 b2 b3 b5
    have b:=@J (∀j,(Value.slice ta (jG (Q n) (qB (Q n) x) k).length tc).ownBlock=some j→m.heap.size≤j∧j<qx) (λj a=>by have:=ab.o.lt j a;omega)
    have bc:=@J (w0.heap.size≤m.heap.size) (H4.o.fr.size)
    have S8:=@J (yM w0 w8 p ma ms (jq R n d) A C (vu Q n (J4 (Q n) (qB (Q n) x) k))) (SN.o.frV B3.o (λj a e=>by have h1:=(b.o j e).1;have h2:=(r.o d I.o j a).1;have:=ae.o;have:=Z4.o;omega) (λj e=>by have:=(b.o j e).1;have:=bc.o;omega) (λj e=>bd.o j (b.o j e).1) (λ_ _ h=>h) SN.o.sub)
    have ct:=zlX S8.o W.o T.o
    rw[Qa,xB,←S.o.1] at ct
    simp only[zkt,zks] at ct
    have CT:=J ct
    have au:=J (za aa.o B3.o (λe=>by have:=(b.o _ e).2;omega))
    have aZ:=J (V.o.keep B3.o (λe=>by have h1:=(b.o _ e).1;have h2:=(r.o d I.o ma (.inr (.inl rfl))).1;have:=ae.o;have:=Z4.o;omega))
    have a6:=J (a7.o.keep B3.o (λe=>by have h1:=(b.o _ e).1;have:=G.o.lt;omega))
    have aR:=@J (Fr (Vd p ma ms (R n)) m w8) (U.o.trans B3.o (λj a e=>by have:=(b.o j e).1;omega))
    clear ct
    repeat((first|(refine zj rfl ?_;constructor;constructor;(focus(first|exact zn7 rfl (λw h=>h.2.1) F.o|exact λw' _=>yP (t:=110) rfl rfl jg (Jg _ o.o) (jf _ _) H.o|exact λw' h=>zQ (t:=113) rfl rfl rfl (a1.o w' h.2.2)|(rintro w' ⟨s1,s2,s3⟩;go_simp;(try with_reducible rfl);done))))|(refine zl rfl ?_));try simp only[Act.put,pA,pB,pC])
    (refine zE rfl (λK' hK'=>?_))
    refine yj (zU (t:=23) (cs:=[.int .u32 e.tx.ver,.slice ia e.tx.ins.length ic,.slice oa e.tx.outs.length oc]) rfl rfl zd1 zeJ rfl (by decide) (by decide) rfl) ?_
    have FB:=J ((frN wm).alloc (.cells #[.int .u32 e.tx.ver,.slice ia e.tx.ins.length ic,.slice oa e.tx.outs.length oc] 34))
    refine nXt hK' ?_ λhS=>?_
    ·exact⟨FB.o.cell SN.o.cells.1 id,za aa.o FB.o id,V.o.keep FB.o id⟩
    try simp only[Act.put,pA,pB,pC]
    (refine zE rfl (λK' hK'=>?_))
    refine yw rfl rfl rfl B1.o ?_
    refine nXt hK' ?_ λhS=>?_
    ·exact⟨S8.o.cells.1,au.o,aZ.o⟩
    try simp only[Act.put,pA,pB,pC]
    repeat((first|(refine zj rfl ?_;constructor;constructor;(focus(first|(rintro w' -;go_simp;(try with_reducible rfl);done))))|(refine zl rfl ?_));try simp only[Act.put,pA,pB,pC])
    refine zL (hK.out _ _ ?_)
    have⟨Y,Z,K2⟩:=tZ3
    go_wp2_with ((first|((with_reducible refine zt ?_);first|(clear Y;refine zn3 rfl rfl rfl au.o F.o ?_)|(clear Z;refine zg rfl (yP (t:=110) rfl rfl jg (Jg _ o.o) (jf _ _) H.o) ?_))|(clear K2;go_at_call 44;refine CT.o.mono ?_;rintro e' w9 ⟨rfl,f9,v9,aF,s9⟩;have F9:=J f9;have V9:=J aF;have S9:=J s9;clear f9 aF s9));go_frame)
    have a8:=@J (zed w0 m p ma ms R A C Q n (qB (Q n) x) bi MI (k+1) (.slice bm ((jG (Q n) (qB (Q n) x) k).length+1) bn) w9) (by
     refine⟨v9,S9.o,λj a=>I.o j (V9.o j a),?_,aR.o.trans F9.o (λj _ e=>?_),a6.o.keep F9.o (λe=>?_)⟩
     ·rw[aU.o,aV.o]
      refine zb B2.o F9.o (λj a e=>?_)
      have h1:m.heap.size≤j:=by
       rcases B5.o j a with h|h
       ·exact(b.o j h).1
       ·have:=U.o.size;omega
      have h2:=(r.o d I.o j (by have:=Je (p:=p) (ma:=ma) (ms:=ms) (R:=jq R n d) W.o j (by rw[Qa];exact e);exact this)).1
      have:=ae.o
      have:=Z4.o
      omega
     ·rcases e with e|e|e|e
      ·exact .inl e
      ·exact .inr (.inl e)
      ·exact .inr (.inr (.inl e))
      ·exact .inr (.inr (.inr (I.o j e)))
     ·have h2:=(r.o d I.o bi (by have:=Je (p:=p) (ma:=ma) (ms:=ms) (R:=jq R n d) W.o bi (by rw[Qa];exact e);exact this)).1
      have:=ao.o
      have:=ZE.o
      omega)
    go_roundw
    case rel=>exact⟨k+1,by go_num,by omega,a8.o⟩
    case measure=>simp[intOf];omega
   ·rw[if_neg hw] at LI
    have NX:=@J (zed w0 m p ma ms R A C Q n (qB (Q n) x) bi MI (k+1) (.slice ta (jG (Q n) (qB (Q n) x) k).length tc) (wr.alloc (.cells (zf e.id).toArray 41))) (by
     have:=zgp HX.o hw
     unfold zed
     rw[this.1,this.2]
     exact bb.o)
    clear hw
    have⟨Y,Z,K2,K3⟩:=tZ4
    go_wp2_with ((first|((with_reducible refine zt ?_);first|(clear Y;refine zn3 rfl rfl rfl R1.o F.o ?_)|(clear K2;refine zn3 rfl rfl rfl RN.o F.o ?_)|(clear K3;refine zg rfl (zQ (t:=120) rfl rfl rfl LI.o) ?_))|((with_reducible refine zv ?_);clear Z;refine zob (w:=wr) (cs:=zf e.id) rfl rfl rfl rfl F.o zS ?_));go_frame)
    go_roundw
    case rel=>exact⟨k+1,by go_num,by omega,NX.o⟩
    case measure=>simp[intOf];omega
  ·have aj:k=(Q n).length:=by omega
   have i1:¬(k:Int)<((Q n).length:Int):=by omega
   have GA:=@J (jG (Q n) (qB (Q n) x) k=jK (Q n) x) (by rw[aj,zhJ];rfl)
   have SA:=@J (J4 (Q n) (qB (Q n) x) k=Ql (Q n) x) (by rw[aj,ziz];rfl)
   clear aj
   go_wp2_with fail
   go_ret2
   refine⟨_,rfl,F4.o.of0.trans FR.o (λ_ _ e=>e),?_,d,I.o,?_⟩
   ·rw[←GA.o]
    exact xj ab.o (by have:=F4.o.size;omega)
   ·rw[←SA.o]
    exact ST.o.frV (frN _) (λ_ _=>id) (λ_ h=>h.elim) (λ_ h=>h.elim) (λj _ e=>bf.o j e) (λj a=>(r.o d I.o j a).2)
end
section
variable {w0 w w0p w0c:World} {ps ma ms pp mp mq g N pc:Nat} {R:Nat→Value} {X Y VG VC:Nat→Prop} {C:Nat→zd→List Value} {CP:zd→List Value} {Q:StQ} {L:List yb} {S:List zr} {bs:List yx} {I:List zd}
theorem zmE (h:yM w0 w ps ma ms R X C Q) (hp:yn w0p w pp mp mq g VG Y CP L N) (hc:Cn w0c w pc VC S bs I) {n:Nat} (hn:n<65) {x:zd} (D:zX x):
  Calls prog 39 #[.pointer (some ⟨ps,0,none⟩),.pointer (some ⟨pc,0,none⟩),.pointer (some ⟨pp,0,none⟩),.agg (skC (n,x)).toArray] w λe w'=>e=.returned (.int .i64 (jX I L (Q n) x))∧Fr No w w':=by
 have zT:=jA
 have af:(n:Int)<65:=by omega
 have i0:(0:Int)≤(n:Int):=by omega
 have HH:=J h
 have Z:=J (zx D)
 have SL:=J (JS (k:=((n:Int),x)) D)
 have s:=J ((frN w).alloc (.cells (skC (n,x)).toArray 110))
 have RK:=J (zaz w n x)
 have q:=J (λw' (f:Fr No w w')=>znF (hp.fr0 f) D)
 have A:=J (λw' (f:Fr No w w')=>zcE (hc.fr0 f) D)
 obtain⟨cs,U⟩:∃cs,Yn C Q n x=cs:=⟨_,rfl⟩
 have T:cs.length=3∧∀v∈cs,v.oneCell'=true:=by
  rw[←U]
  obtain⟨v,ia,il,ic,oa,oc,e,-⟩:=zcv h hn x
  rw[e]
  exact⟨rfl,qM rfl rfl rfl⟩
 have i:=J T.1
 have y:=J T.2
 obtain⟨M,hM,hm⟩:=h.am
 have HM:=J (λw' (f:Fr No w w')=>hM.keep f id)
 have MQ:=@J (qt Q n x=decide (x∈yV (Q n))) (by
  unfold qt
  rw[Int.toNat_natCast]
  by_cases D:x∈yV (Q n)
  ·simp[D,i0,af]
  ·simp[D])
 have B:=@J (∀w',vB w' ma M→(Instr.lookup 113 (.map (some ma)) (.agg (skC (n,x)).toArray) true).run prog w'=.ok (.tuple #[.agg cs.toArray,.bool (decide (x∈yV (Q n)))]) w') (λw' h'=>by
  have:=Yb (w:=w') (zak hn) D h' hm true
  rw[U,MQ.o] at this
  simpa using this)
 obtain⟨ra,rc,hR⟩:=h.row_form hn
 have ad:=@J (w.cell? ⟨ps,1+n,none⟩=some (.slice ra (Q n).length rc)) (by rw[←hR,add_comm];exact h.cells.2.2 n hn)
 clear h hp hc hn D hM hm U T hR
 by_cases hmine:x∈yV (Q n)
 ·have c:=@J (jX I L (Q n) x=10) (by unfold jX;rw[if_pos (.inl hmine)])
  have P:=B
  rw[decide_eq_true hmine] at P
  clear hmine B
  go_enter Tryz.func39,Tryz.ntmps39
  go_wp2_with fail
  generalize V:w.heap.size=F at*
  generalize o:w.alloc (.cells (skC (n,x)).toArray 110)=p at*
  clear o
  have m:=J (HH.o.fr0 s.o.drew)
  have d:=J (za RK.o (frN p).drew id)
  have l:=J s.o.drew
  have b:=J (HM.o p.drew s.o.drew)
  refine wrLx [ff,ff,ff,ff,ff,ff,ff,ff,ff,tt,tt,ff] (λw'=>w'.cell? ⟨ps,0,none⟩=some (.map (some ma))∧w'.rangeAt F 0 (skC (n,x))∧vB w' ma M) ?_ (λK hK=>?_)
  ·exact⟨m.o.cells.1,d.o,b.o⟩
  generalize p.drew=a at*
  repeat((first|(refine zj rfl ?_;constructor;constructor;(focus(first|exact zn8 rfl (λw h=>h.2.1) SL.o|exact λw' h=>zQ (t:=113) rfl rfl rfl (P.o w' h.2.2)|(rintro w' ⟨s1,s2,s3⟩;go_simp;(try with_reducible rfl);done))))|(refine zl rfl ?_));try simp only[Act.put,pA,pB,pC])
  (refine zE rfl (λK' hK'=>?_))
  refine yj (yA rfl (jA _)) ?_
  refine nXt hK' ?_ λhS=>?_
  ·exact⟨((frN a).alloc _).cell m.o.cells.1 id,za d.o ((frN a).alloc _) id,b.o.keep ((frN a).alloc _) id⟩
  try simp only[Act.put,pA,pB,pC]
  (refine zE rfl (λK' hK'=>?_))
  refine yN (zm (w:=a) (ty:=34) (cs:=cs) rfl rfl rfl (by rw[i.o];rfl) (by rw[i.o];exact yZ) y.o) ?_
  refine nXt hK' ?_ λhS=>?_
  ·exact⟨((frN a).alloc _).cell m.o.cells.1 id,za d.o ((frN a).alloc _) id,b.o.keep ((frN a).alloc _) id⟩
  try simp only[Act.put]
  repeat((first|(refine zj rfl ?_;constructor;constructor;(focus(first|(rintro w' -;go_simp;(try with_reducible rfl);done))))|(refine zl rfl ?_));try simp only[Act.put,pA,pB,pC])
  refine zL (hK.out _ _ ?_)
  have u:=J (l.o.alloc (.cells cs.toArray 34))
  have E:=J (za d.o ((frN a).alloc (.cells cs.toArray 34)) id)
  have j:=J (Qo E.o).2
  generalize a.alloc (.cells cs.toArray 34)=W at*
  have⟨H,O⟩:=tZ2
  go_wp2_with ((first|((with_reducible refine zt ?_);clear H;refine zn3 rfl rfl rfl j.o Z.o ?_)|(clear O;go_at_call 73;refine(q.o W u.o).mono ?_;rintro e w3 ⟨f,rfl,r⟩;have z:=J (u.o.trans0 r);clear r));go_frame)
  go_ret
  exact⟨by rw[c.o];rfl,z.o⟩
 ·have P:=B
  rw[decide_eq_false hmine] at P
  have NM:=J hmine
  clear hmine B
  by_cases hthere:x∈xq L
  ·have c:=@J (jX I L (Q n) x=10) (by unfold jX;rw[if_pos (.inr hthere)])
   rw[decide_eq_true hthere] at q
   clear hthere
   go_enter Tryz.func39,Tryz.ntmps39
   go_wp2_with fail
   generalize V:w.heap.size=F at*
   generalize o:w.alloc (.cells (skC (n,x)).toArray 110)=p at*
   clear o
   have m:=J (HH.o.fr0 s.o.drew)
   have d:=J (za RK.o (frN p).drew id)
   have l:=J s.o.drew
   have b:=J (HM.o p.drew s.o.drew)
   refine wrLx [ff,ff,ff,ff,ff,ff,ff,ff,ff,tt,tt,ff] (λw'=>w'.cell? ⟨ps,0,none⟩=some (.map (some ma))∧w'.rangeAt F 0 (skC (n,x))∧vB w' ma M) ?_ (λK hK=>?_)
   ·exact⟨m.o.cells.1,d.o,b.o⟩
   generalize p.drew=a at*
   repeat((first|(refine zj rfl ?_;constructor;constructor;(focus(first|exact zn8 rfl (λw h=>h.2.1) SL.o|exact λw' h=>zQ (t:=113) rfl rfl rfl (P.o w' h.2.2)|(rintro w' ⟨s1,s2,s3⟩;go_simp;(try with_reducible rfl);done))))|(refine zl rfl ?_));try simp only[Act.put,pA,pB,pC])
   (refine zE rfl (λK' hK'=>?_))
   refine yj (yA rfl (jA _)) ?_
   refine nXt hK' ?_ λhS=>?_
   ·exact⟨((frN a).alloc _).cell m.o.cells.1 id,za d.o ((frN a).alloc _) id,b.o.keep ((frN a).alloc _) id⟩
   try simp only[Act.put,pA,pB,pC]
   (refine zE rfl (λK' hK'=>?_))
   refine yN (zm (w:=a) (ty:=34) (cs:=cs) rfl rfl rfl (by rw[i.o];rfl) (by rw[i.o];exact yZ) y.o) ?_
   refine nXt hK' ?_ λhS=>?_
   ·exact⟨((frN a).alloc _).cell m.o.cells.1 id,za d.o ((frN a).alloc _) id,b.o.keep ((frN a).alloc _) id⟩
   try simp only[Act.put]
   repeat((first|(refine zj rfl ?_;constructor;constructor;(focus(first|(rintro w' -;go_simp;(try with_reducible rfl);done))))|(refine zl rfl ?_));try simp only[Act.put,pA,pB,pC])
   refine zL (hK.out _ _ ?_)
   have u:=J (l.o.alloc (.cells cs.toArray 34))
   have E:=J (za d.o ((frN a).alloc (.cells cs.toArray 34)) id)
   have j:=J (Qo E.o).2
   generalize a.alloc (.cells cs.toArray 34)=W at*
   have⟨H,O⟩:=tZ2
   go_wp2_with ((first|((with_reducible refine zt ?_);clear H;refine zn3 rfl rfl rfl j.o Z.o ?_)|(clear O;go_at_call 73;refine(q.o W u.o).mono ?_;rintro e w3 ⟨f,rfl,r⟩;have z:=J (u.o.trans0 r);clear r));go_frame)
   go_ret
   exact⟨by rw[c.o];rfl,z.o⟩
  ·have NT:=J hthere
   rw[decide_eq_false hthere] at q
   clear hthere
   have aa:=@J (jX I L (Q n) x=if x∈I then 19 else if 4≤(Q n).length then 18 else 0) (by unfold jX;rw[if_neg (λh=>h.elim NM.o NT.o)])
   by_cases hdone:x∈I
   ·have c:=@J (jX I L (Q n) x=19) (by rw[aa.o,if_pos hdone])
    rw[decide_eq_true hdone] at A
    clear hdone
    go_enter Tryz.func39,Tryz.ntmps39
    go_wp2_with fail
    generalize V:w.heap.size=F at*
    generalize o:w.alloc (.cells (skC (n,x)).toArray 110)=p at*
    clear o
    have m:=J (HH.o.fr0 s.o.drew)
    have d:=J (za RK.o (frN p).drew id)
    have l:=J s.o.drew
    have b:=J (HM.o p.drew s.o.drew)
    refine wrLx [ff,ff,ff,ff,ff,ff,ff,ff,ff,tt,tt,ff] (λw'=>w'.cell? ⟨ps,0,none⟩=some (.map (some ma))∧w'.rangeAt F 0 (skC (n,x))∧vB w' ma M) ?_ (λK hK=>?_)
    ·exact⟨m.o.cells.1,d.o,b.o⟩
    generalize p.drew=a at*
    repeat((first|(refine zj rfl ?_;constructor;constructor;(focus(first|exact zn8 rfl (λw h=>h.2.1) SL.o|exact λw' h=>zQ (t:=113) rfl rfl rfl (P.o w' h.2.2)|(rintro w' ⟨s1,s2,s3⟩;go_simp;(try with_reducible rfl);done))))|(refine zl rfl ?_));try simp only[Act.put,pA,pB,pC])
    (refine zE rfl (λK' hK'=>?_))
    refine yj (yA rfl (jA _)) ?_
    refine nXt hK' ?_ λhS=>?_
    ·exact⟨((frN a).alloc _).cell m.o.cells.1 id,za d.o ((frN a).alloc _) id,b.o.keep ((frN a).alloc _) id⟩
    try simp only[Act.put,pA,pB,pC]
    (refine zE rfl (λK' hK'=>?_))
    refine yN (zm (w:=a) (ty:=34) (cs:=cs) rfl rfl rfl (by rw[i.o];rfl) (by rw[i.o];exact yZ) y.o) ?_
    refine nXt hK' ?_ λhS=>?_
    ·exact⟨((frN a).alloc _).cell m.o.cells.1 id,za d.o ((frN a).alloc _) id,b.o.keep ((frN a).alloc _) id⟩
    try simp only[Act.put]
    repeat((first|(refine zj rfl ?_;constructor;constructor;(focus(first|(rintro w' -;go_simp;(try with_reducible rfl);done))))|(refine zl rfl ?_));try simp only[Act.put,pA,pB,pC])
    refine zL (hK.out _ _ ?_)
    have u:=J (l.o.alloc (.cells cs.toArray 34))
    have E:=J (za d.o ((frN a).alloc (.cells cs.toArray 34)) id)
    have j:=J (Qo E.o).2
    generalize a.alloc (.cells cs.toArray 34)=W at*
    have⟨H,O,K2,K3⟩:=tZ4
    go_wp2_with ((first|((with_reducible refine zt ?_);first|(clear H;refine zn3 rfl rfl rfl j.o Z.o ?_)|(clear K2;refine zn3 rfl rfl rfl R3.o Z.o ?_))|(clear O;go_at_call 73;refine(q.o W u.o).mono ?_;rintro e w3 ⟨f,rfl,r⟩;have z:=J (u.o.trans0 r);have R3:=J (za j.o r id);clear r)|(clear K3;go_at_call 74;refine(A.o w3 z.o).mono ?_;rintro e w4 ⟨rfl,f4⟩;have F4:=J (z.o.trans0 f4);clear f4));go_frame)
    go_ret
    exact⟨by rw[c.o];rfl,F4.o⟩
   ·have ab:=@J (jX I L (Q n) x=if 4≤(Q n).length then 18 else 0) (by rw[aa.o,if_neg hdone])
    rw[decide_eq_false hdone] at A
    clear hdone
    go_enter Tryz.func39,Tryz.ntmps39
    go_wp2_with fail
    generalize V:w.heap.size=F at*
    generalize o:w.alloc (.cells (skC (n,x)).toArray 110)=p at*
    clear o
    have m:=J (HH.o.fr0 s.o.drew)
    have d:=J (za RK.o (frN p).drew id)
    have l:=J s.o.drew
    have b:=J (HM.o p.drew s.o.drew)
    refine wrLx [ff,ff,ff,ff,ff,ff,ff,ff,ff,tt,tt,ff] (λw'=>w'.cell? ⟨ps,0,none⟩=some (.map (some ma))∧w'.rangeAt F 0 (skC (n,x))∧vB w' ma M) ?_ (λK hK=>?_)
    ·exact⟨m.o.cells.1,d.o,b.o⟩
    generalize p.drew=a at*
    repeat((first|(refine zj rfl ?_;constructor;constructor;(focus(first|exact zn8 rfl (λw h=>h.2.1) SL.o|exact λw' h=>zQ (t:=113) rfl rfl rfl (P.o w' h.2.2)|(rintro w' ⟨s1,s2,s3⟩;go_simp;(try with_reducible rfl);done))))|(refine zl rfl ?_));try simp only[Act.put,pA,pB,pC])
    (refine zE rfl (λK' hK'=>?_))
    refine yj (yA rfl (jA _)) ?_
    refine nXt hK' ?_ λhS=>?_
    ·exact⟨((frN a).alloc _).cell m.o.cells.1 id,za d.o ((frN a).alloc _) id,b.o.keep ((frN a).alloc _) id⟩
    try simp only[Act.put,pA,pB,pC]
    (refine zE rfl (λK' hK'=>?_))
    refine yN (zm (w:=a) (ty:=34) (cs:=cs) rfl rfl rfl (by rw[i.o];rfl) (by rw[i.o];exact yZ) y.o) ?_
    refine nXt hK' ?_ λhS=>?_
    ·exact⟨((frN a).alloc _).cell m.o.cells.1 id,za d.o ((frN a).alloc _) id,b.o.keep ((frN a).alloc _) id⟩
    try simp only[Act.put]
    repeat((first|(refine zj rfl ?_;constructor;constructor;(focus(first|(rintro w' -;go_simp;(try with_reducible rfl);done))))|(refine zl rfl ?_));try simp only[Act.put,pA,pB,pC])
    refine zL (hK.out _ _ ?_)
    have u:=J (l.o.alloc (.cells cs.toArray 34))
    have E:=J (za d.o ((frN a).alloc (.cells cs.toArray 34)) id)
    have j:=J (Qo E.o).2
    generalize a.alloc (.cells cs.toArray 34)=W at*
    have⟨H,O,K2,K3⟩:=tZ4
    go_wp2_with ((first|((with_reducible refine zt ?_);first|(clear H;refine zn3 rfl rfl rfl j.o Z.o ?_)|(clear K2;refine zn3 rfl rfl rfl ae.o Z.o ?_))|(clear O;go_at_call 73;refine(q.o W u.o).mono ?_;rintro e w3 ⟨f,rfl,r⟩;have z:=J (u.o.trans0 r);have R3:=J (za E.o r id);have ae:=J (Qo R3.o).2;clear r)|(clear K3;go_at_call 74;refine(A.o w3 z.o).mono ?_;rintro e w4 ⟨rfl,f4⟩;have F4:=J (z.o.trans0 f4);have R4:=J (za R3.o f4 id);clear f4));go_frame)
    have G:=J F4.o.drew
    have K4:=J (Qo (za R4.o (frN w4).drew id)).1
    refine wrLx [ff,ff,ff,ff,ff,ff,ff,ff,ff,ff] (λw'=>w'.cell? ⟨ps,1+n,none⟩=some (.slice ra (Q n).length rc)∧w'.cell? ⟨F,0,none⟩=some (.int .i64 n)) ?_ (λK hK=>?_)
    ·exact⟨G.o.cell ad.o id,K4.o⟩
    repeat((first|(refine zj rfl ?_;constructor;constructor;(focus(first|(rintro w' ⟨s1,s2⟩;go_simp;(try with_reducible rfl);done))))|(refine zl rfl ?_));try simp only[Act.put,pA,pB,pC])
    refine zL (hK.out _ _ ?_)
    by_cases h4:4≤(Q n).length
    ·have c:=@J (jX I L (Q n) x=18) (by rw[ab.o,if_pos h4])
     have i4:(4:Int)≤((Q n).length:Int):=by omega
     go_wp2_with fail
     go_ret
     exact⟨by rw[c.o];rfl,G.o⟩
    ·have c:=@J (jX I L (Q n) x=0) (by rw[ab.o,if_neg h4])
     have i4:¬(4:Int)≤((Q n).length:Int):=by omega
     go_wp2_with fail
     go_ret
     exact⟨by rw[c.o];rfl,G.o⟩
end
end Go.Proofs.YtdkkjchclkjleaaGreatDoor
