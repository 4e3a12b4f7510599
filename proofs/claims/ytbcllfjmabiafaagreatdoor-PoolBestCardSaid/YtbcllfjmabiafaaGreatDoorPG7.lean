/- chain: payments; tx: Points, Coins. -/
import Derived.Laws.MakeOwn
import Derived.Test.YtbcllfjmabiafaaGreatDoorPG6
import Derived.Test.YtbcllfjmabiafaaGreatDoorPG1
import Derived.Test.YtbcllfjmabiafaaGreatDoorPG2
import Derived.Test.YtbcllfjmabiafaaGreatDoorPG5
set_option linter.unusedVariables false
set_option linter.unusedSimpArgs false
set_option linter.unnecessarySimpa false
set_option linter.all false
set_option maxRecDepth 20000
set_option maxHeartbeats 16000000
namespace Go.Proofs.YtbcllfjmabiafaaGreatDoor
open Go Go.RowKit Go.Maps Go.MapKept
open Go.Proofs.Tryz(prog)
open Nat(le_refl zero_le zero_add le_of_eq)
open List(getElem?_eq_getElem mem_of_getElem? length_append take_of_length_le)
variable {B:Nat} {V:Nat→Prop} {cs:List Value} {v:Value} {w:World}
def Zn (id:zf) (l:List yC):List zn:=l.mapIdx λi x=>⟨⟨id,(i:Int)⟩,x⟩
theorem qZ (id:zf) (l:List yC):(Zn id l).length=l.length:=by simp[Zn]
theorem zac (id:zf) {l:List yC} {i:Nat} {x:yC} (h:l[i]? =some x):(Zn id l)[i]? =some ⟨⟨id,(i:Int)⟩,x⟩:=by simp[Zn,h]
theorem zad {id:zf} {l:List yC} (hi:zV id) (e:∀x∈l,x.ok) (g:l.length≤4294967296):∀c∈Zn id l,c.ok:=by
 intro c d
 obtain⟨i,a⟩:=List.mem_iff_getElem?.1 d
 have b:i<l.length:=by have:=(List.getElem?_eq_some_iff.1 a).1;rwa [qZ] at this
 have f:l[i]? =some l[i]:=getElem?_eq_getElem b
 rw[zac id f] at a
 cases a
 exact⟨⟨hi,by show(0:Int)≤(i:Int);omega,by show(i:Int)≤_;omega⟩,e _ (List.getElem_mem b)⟩
theorem zfo:qP prog 56=some (33,[(0,32),(32,1)]):=by kernel_rfl
theorem zg9 {h:zf} (c:zV h) (n:Int):Zx (([(0,32),(32,1)]:List (Nat×Nat)).toArray[·]?) 0 [(0,.agg (zd h).toArray),(1,.int .u32 n)]:=by
 have a:(Value.agg (zd h).toArray).cells.size=32:=by show(zd h).toArray.size=32;simpa using zu c
 have b:(Value.int .u32 n).cells.size=1:=rfl
 simp only[Zx,a,b]
 exact⟨rfl,rfl,trivial⟩
theorem zfm (h:zf) (n:Int):qC [(0,.agg (zd h).toArray),(1,.int .u32 n)]=zm ⟨h,n⟩:=by
 have a:(Value.agg (zd h).toArray).cells.toList=zd h:=by show(zd h).toArray.toList=_;simp
 have b:(Value.int .u32 n).cells.toList=[.int .u32 n]:=rfl
 simp only[qC,List.flatMap_cons,List.flatMap_nil,a,b,zm,List.append_nil]
 rfl
theorem zcr:qP prog 60=some (66,[(0,33),(33,33)]):=by kernel_rfl
theorem zd2 {p:zx} {o:yC} (c:p.ok) (b:o.ok):Zx (([(0,33),(33,33)]:List (Nat×Nat)).toArray[·]?) 0 [(0,.agg (zm p).toArray),(1,.agg (zF o).toArray)]:=by
 have h:(Value.agg (zm p).toArray).cells.size=33:=by show(zm p).toArray.size=33;simpa using zW c
 have a:(Value.agg (zF o).toArray).cells.size=33:=by show(zF o).toArray.size=33;simpa using yq b
 simp only[Zx,h,a]
 exact⟨rfl,rfl,trivial⟩
theorem zco (p:zx) (o:yC):qC [(0,.agg (zm p).toArray),(1,.agg (zF o).toArray)]=z7 ⟨p,o⟩:=by
 have h:(Value.agg (zm p).toArray).cells.toList=zm p:=by show(zm p).toArray.toList=_;simp
 have a:(Value.agg (zF o).toArray).cells.toList=zF o:=by show(zF o).toArray.toList=_;simp
 simp[qC,z7,h,a]
theorem zaK {α:Type} (f:α→List Value) {k:Nat} {A:List α} {xs:List Value} {n:Nat} {y:α} (e:A[n]? =some y) (b:(f y).length=k) (d:xs.take (n*k)=(A.take n).flatMap f) (c:n*k+k≤xs.length):
  (setM xs (n*k) (f y)).take ((n+1)*k)=(A.take (n+1)).flatMap f:=by
 have a:=zam xs (f y) (n*k) (by rw[b];exact c)
 rw[b] at a
 rw[show(n+1)*k=n*k+k by rw[Nat.add_mul,Nat.one_mul],a,d,List.take_add_one,e]
 simp
theorem zae (w:World) {id:zf} (hi:zV id) {l:List yC} (W:xg w v l) (hN:l.length≤1000):
  Calls prog 80 #[.agg (zd id).toArray,v] w λe w'=>∃v',e=.returned v'∧w'.ownsRow w.heap.size 60 66 v' l.length ((Zn id l).flatMap z7)∧Fr No w w':=by
 obtain⟨iK,D,hz,a,B⟩:=info_parts Qs
 have zo:=y3
 have F1:=(frN w).alloc (.cells (zd id).toArray 45)
 have H:(w.alloc (.cells (zd id).toArray 45)).heap.size=w.heap.size+1:=by simp
 obtain⟨w2,F,d,C⟩:=run_makeSlice_full (P:=prog) (w:=w.alloc (.cells (zd id).toArray 45)) (w.heap.size) 52 60 iK _ 66 Qc D hz a .i64 .i64 l.length (by omega) (by rw[B];omega) (by unfold maxLen;omega) (by simp)
 have m:Fr No (w.alloc (.cells (zd id).toArray 45)) w2:=Fr.of_grown C (λk e=>by cases e)
 have F2:=Hd (F1.trans0 m)
 have O:=Hd (m.obj (ye w (.cells (zd id).toArray 45)) _root_.id)
 rw[H] at F d
 have r:=Hd d
 have HL:=Hd W
 have y:=Hd hi
 have Q:=Hd (zu hi)
 obtain⟨va,vc,rfl⟩:=W.2.form
 have z:=@Hd (w.heap.size+1<w2.heap.size) ((d.lt _ rfl).2)
 clear hi W D hz a B d C m H
 go_enter Tryz.func80,Tryz.ntmps80
 go_wp2_with fail
 clear F
 obtain⟨g,o⟩:∃g,g=w.heap.size+1:=⟨_,rfl⟩
 have Z:=Hd o
 rw[←o] at r z⊢
 clear o
 go_loopw [13] (λY wr=>∃(n:Nat) (xs:List Value),Y=.int .i64 n∧n≤l.length∧wr.ownsRow (w.heap.size) 60 66 (.slice (some ⟨g,0,none⟩) l.length l.length) l.length xs∧xs.take (n*66)=((Zn id l).take n).flatMap z7∧Fr No w wr∧g<wr.heap.size∧wr.heap[w.heap.size]? =some (.cells (zd id).toArray 45 (0,0))) (λY _=>l.length-(intOf Y).toNat)
 case atStart=>exact⟨0,_,rfl,zero_le _,r.o,by simp,F2.o,z.o,O.o⟩
 case round=>
  obtain⟨n,xs,rfl,hn,G,I,fr,a,A⟩:=hrel
  have N:=Hd fr
  have c:=Hd G
  have u:=Hd I
  have S:=Hd a
  have q:=Hd A
  clear fr G I a A
  by_cases E:n<l.length
  ·have i1:(n:Int)<(l.length:Int):=by omega
   obtain⟨x,L⟩:∃x,l[n]? =some x:=⟨_,getElem?_eq_getElem E⟩
   obtain⟨b,off,cap,hv,hr,-⟩:=(HL.o.keep N.o).at_ L
   cases hv
   have j:=Hd (HL.o.1 x (mem_of_getElem? L))
   have U:=Hd (yq j.o)
   have R1:=Hd hr
   have f:=@Hd ((⟨id,(n:Int)⟩:zx).ok) (⟨y.o,by show(0:Int)≤(n:Int);omega,by show(n:Int)≤_;omega⟩)
   have HX:=Hd (zac id L)
   have p:=@Hd ((z7 ⟨⟨id,(n:Int)⟩,x⟩).length=66) (xI ⟨f.o,j.o⟩)
   have PL:=Hd (zW f.o)
   have V:(n:Int) % 4294967296=(n:Int):=by omega
   have K:=(frN wr).alloc (.cells (zF x).toArray 58)
   have M:=Hd K
   have RO:=Hd (zq wr (zF x) 58)
   have RH:=@Hd ((wr.alloc (.cells (zF x).toArray 58)).rangeAt (w.heap.size) 0 (zd id)) (za (zv q.o) K (λh=>h))
   have s:=Hd (zb c.o K (λ_ _=>_root_.id))
   have TH:=Hd (Jx s.o E)
   have R:=Hd (vP s.o (n*66) (cs:=z7 ⟨⟨id,(n:Int)⟩,x⟩) (by rw[p.o];omega))
   have T:=Hd (zaK z7 HX.o p.o u.o (by rw[c.o.1];omega))
   clear hr L K
   have⟨K0,K1,K2,K3,K4,K5,K6⟩:=tZ7
   go_wp2_with ((first|((with_reducible refine zt ?_);first|(clear K0;refine znU rfl rfl rfl R1.o U.o ?_)|(clear K2;refine znV rfl rfl rfl RH.o Q.o ?_)|(clear K3;refine zg rfl (jI (t:=56) (vs:=[(0,.agg (zd id).toArray),(1,.int .u32 n)]) rfl (by simp[Act.eval,V]) zfo (zg9 y.o n) (zfm id n) (by rw[PL.o])) ?_)|(clear K4;refine znU rfl rfl rfl RO.o U.o ?_)|(clear K5;refine zg rfl (jI (t:=60) (vs:=[(0,.agg (zm ⟨id,(n:Int)⟩).toArray),(1,.agg (zF x).toArray)]) rfl rfl zcr (zd2 f.o j.o) (zco _ _) (by rw[p.o])) ?_))|((with_reducible refine zr ?_);first|(clear K1;refine zn2 (w:=wr) (cs:=zF x) rfl rfl rfl rfl U.o yd ?_;generalize wr.alloc (.cells (zF x).toArray 58)=wA at*)|(clear K6;refine zi rfl (zU (ty:=60) (b:=g) (off:=n*66) (cs:=z7 ⟨⟨id,(n:Int)⟩,x⟩) rfl rfl rfl (by rw[p.o];exact TH.o) (by rw[p.o];exact zb5) qi) ?_)));go_frame)
   go_roundw
   case rel=>exact⟨n+1,_,by go_num,by omega,R.o,T.o,(N.o.trans0 M.o).trans (zy _ _ _ _) (λi hi e=>by have:=Z.o;omega),by have:=(zy g (z7 ⟨⟨id,(n:Int)⟩,x⟩) (n*66) wA).size;have:=M.o.size;have:=S.o;omega,(zy g (z7 ⟨⟨id,(n:Int)⟩,x⟩) (n*66) wA).obj (M.o.obj q.o _root_.id) (λe=>by have:=Z.o;omega)⟩
   case measure=>simp[intOf];omega
  ·have X:n=l.length:=by omega
   have i1:¬(n:Int)<(l.length:Int):=by omega
   have HE:=@Hd (xs=(Zn id l).flatMap z7) (by
    have:=u.o
    rw[X,take_of_length_le (by rw[c.o.1];exact le_refl _),take_of_length_le (by rw[qZ];exact le_refl _)] at this
    exact this)
   go_wp2
   go_ret
   exact⟨_,rfl,by rw[←HE.o];exact c.o,N.o⟩
def z6 (t:TxD):List zx:=t.ins.map (·.from_)
theorem jO (w:World) {t:TxD} (ht:TxQ w t cs) (hN:t.ins.length≤1000):
  Calls prog 30 #[.agg cs.toArray] w λe w'=>∃Z,e=.returned Z∧w'.ownsRow w.heap.size 56 33 Z t.ins.length ((z6 t).flatMap zm)∧Fr No w w':=by
 obtain⟨l,m,o,p,rfl,-,hi,-⟩:=ht
 obtain⟨iK,A,Y,a,y⟩:=info_parts Y3
 have zI:=Yc
 have F1:=(frN w).alloc (.cells #[.int .u32 t.ver,.slice l t.ins.length m,.slice o t.outs.length p] 27)
 have F:(w.alloc (.cells #[.int .u32 t.ver,.slice l t.ins.length m,.slice o t.outs.length p] 27)).heap.size=w.heap.size+1:=by simp
 obtain⟨w2,D,d,z⟩:=run_makeSlice_full (P:=prog) (w:=w.alloc (.cells #[.int .u32 t.ver,.slice l t.ins.length m,.slice o t.outs.length p] 27)) (w.heap.size) 72 56 iK _ 33 JX A Y a .i64 .i64 t.ins.length (by omega) (by rw[y];omega) (by unfold maxLen;omega) (by simp)
 have h:Fr No (w.alloc (.cells #[.int .u32 t.ver,.slice l t.ins.length m,.slice o t.outs.length p] 27)) w2:=Fr.of_grown z (λk e=>by cases e)
 have F2:=Hd (F1.trans0 h)
 obtain⟨c0,c1,-,-⟩:=qI w t.ver (.slice l t.ins.length m) (.slice o t.outs.length p)
 have Q:=h.cell c1 _root_.id
 rw[F] at D d
 have r:=Hd d
 have HI:=Hd hi
 have v:=@Hd (w.heap.size+1<w2.heap.size) ((d.lt _ rfl).2)
 clear hi A Y a y d z h F
 show Calls prog 30 #[.agg #[.int .u32 t.ver,.slice l t.ins.length m,.slice o t.outs.length p]] w _
 go_enter Tryz.func30,Tryz.ntmps30
 go_wp2_with fail
 clear D c0 c1 Q
 obtain⟨g,j⟩:∃g,g=w.heap.size+1:=⟨_,rfl⟩
 have G0:=Hd j
 rw[←j] at r v⊢
 clear j
 go_loopw [13] (λU wr=>∃(n:Nat) (xs:List Value),U=.int .i64 n∧n≤t.ins.length∧wr.ownsRow (w.heap.size) 56 33 (.slice (some ⟨g,0,none⟩) t.ins.length t.ins.length) t.ins.length xs∧xs.take (n*33)=((z6 t).take n).flatMap zm∧Fr No w wr∧g<wr.heap.size) (λU _=>t.ins.length-(intOf U).toNat)
 case atStart=>exact⟨0,_,rfl,zero_le _,r.o,by simp,F2.o,v.o⟩
 case round=>
  obtain⟨n,xs,rfl,hn,E,G,fr,a⟩:=hrel
  have K:=Hd fr
  have c:=Hd E
  have u:=Hd G
  have M:=Hd a
  clear fr E G a
  by_cases C:n<t.ins.length
  ·have i1:(n:Int)<(t.ins.length:Int):=by omega
   obtain⟨x,T⟩:∃x,t.ins[n]? =some x:=⟨_,getElem?_eq_getElem C⟩
   obtain⟨b,off,cap,cs,hv,X,H,I,rfl,f,B⟩:=(HI.o.keep0 K.o).at_ T
   cases hv
   have R1:=Hd X
   have O:=Hd f
   have W:=Hd (jf f (.slice H x.key.length I))
   have HX:=@Hd ((z6 t)[n]? =some x.from_) (by simp[z6,T])
   have q:=Hd (zW O.o)
   have R:=(frN wr).alloc (.cells (inC x.from_ (.slice H x.key.length I)).toArray 112)
   have V:=Hd R
   have RP:=Hd (XF wr (kv:=.slice H x.key.length I) f).1
   have s:=Hd (zb c.o R (λ_ _=>_root_.id))
   have TH:=Hd (Jx s.o C)
   have L:=Hd (vP s.o (n*33) (cs:=zm x.from_) (by rw[q.o];omega))
   have N:=Hd (zaK zm HX.o q.o u.o (by rw[c.o.1];omega))
   clear X T R B f
   have⟨K0,K1,K2,K3⟩:=tZ4
   go_wp2_with ((first|((with_reducible refine zt ?_);first|(clear K0;refine znS rfl rfl rfl R1.o W.o ?_)|(clear K2;refine znW rfl rfl rfl RP.o q.o ?_))|((with_reducible refine zr ?_);first|(clear K1;refine zn1 (w:=wr) (cs:=inC x.from_ (.slice H x.key.length I)) rfl rfl rfl rfl W.o Jm ?_;generalize wr.alloc (.cells (inC x.from_ (.slice H x.key.length I)).toArray 112)=wA at*)|(clear K3;refine zi rfl (zU (ty:=56) (b:=g) (off:=n*33) (cs:=zm x.from_) rfl rfl rfl (by rw[q.o];exact TH.o) (by rw[q.o];exact xZ) yF) ?_)));go_frame)
   go_roundw
   case rel=>exact⟨n+1,_,by go_num,by omega,L.o,N.o,(K.o.trans0 V.o).trans (zy _ _ _ _) (λi hi e=>by have:=G0.o;omega),by have:=(zy g (zm x.from_) (n*33) wA).size;have:=V.o.size;have:=M.o;omega⟩
   case measure=>simp[intOf];omega
  ·have S:n=t.ins.length:=by omega
   have i1:¬(n:Int)<(t.ins.length:Int):=by omega
   have HE:=@Hd (xs=(z6 t).flatMap zm) (by
    have:=u.o
    rw[S,take_of_length_le (by rw[c.o.1];exact le_refl _),take_of_length_le (by simp[z6])] at this
    exact this)
   go_wp2
   go_ret
   exact⟨_,rfl,by rw[←HE.o];exact c.o,K.o⟩
def zdM (w:World) (t:TxD) (e:Ending) (w':World):Prop:=∃v,e=.returned (.tuple #[v,.int .i64 (idE t)])∧Fr No w w'∧(if qK t=true then w'.ownsRow w.heap.size 60 66 v t.outs.length ((Zn (idH t) t.outs).flatMap z7) else v=.slice none 0 0)
theorem Yr (hg:vp w) {t:TxD} (ht:TxQ w t cs):
  Calls prog 22 #[.agg cs.toArray] w (zdM w t):=by
 have HT:=Hd ht
 have oks:=ht.oks
 obtain⟨B,C,D,E,rfl,hv,-,ho⟩:=ht
 have zo:=y3
 have zH:=yJ
 have G:=Hd ((frN w).alloc (.cells #[.int .u32 t.ver,.slice B t.ins.length C,.slice D t.outs.length E] 27))
 have N:=@Hd ((w.alloc (.cells #[.int .u32 t.ver,.slice B t.ins.length C,.slice D t.outs.length E] 27)).heap.size=w.heap.size+1) (by simp)
 obtain⟨c0,c1,c2,r0⟩:=qI w t.ver (.slice B t.ins.length C) (.slice D t.outs.length E)
 have R0:=Hd r0
 have C2:=Hd c2
 have K:=Hd (YX (hg.keep0 G.o) (HT.o.keep G.o))
 have m:=Hd (zu (jJ t))
 have Q:=Hd (jJ t)
 have L:=Hd ho
 clear ho hv c0 c1 c2 r0
 show Calls prog 22 #[.agg #[.int .u32 t.ver,.slice B t.ins.length C,.slice D t.outs.length E]] w _
 by_cases hfm:qK t=true
 rotate_left
 ·have c:qK t=false:=by simpa using hfm
  have u:idE t=5:=by simp[idE,c]
  have HP:=@Hd (∀w',Fr No w w'→zdM w t (.returned (.tuple #[.slice none 0 0,.int .i64 5])) w') (λw' f=>⟨.slice none 0 0,by rw[u],f,by rw[c];rfl⟩)
  rw[u] at K
  clear hfm c u
  generalize idH t=id at*
  go_enter Tryz.func22,Tryz.ntmps22
  have⟨R,S,T⟩:=tZ3
  go_wp2_with ((first|((with_reducible refine zt ?_);clear R;refine znT rfl rfl rfl R0.o rfl ?_;generalize w.alloc (.cells #[.int .u32 t.ver,.slice B t.ins.length C,.slice D t.outs.length E] 27)=w1 at*)|(clear S;go_at_call 19;refine K.o.mono ?_;rintro e a ⟨rfl,r⟩;have A:=Hd (G.o.trans0 r);clear r;have H:=@Hd (Fr No a (a.alloc (.cells (zd id).toArray 45))) ((frN a).alloc _))|((with_reducible refine zr ?_);clear T;refine zn3 (w:=a) (cs:=zd id) rfl rfl rfl rfl m.o zE ?_));go_frame)
  go_ret2
  exact HP.o _ (A.o.trans0 H.o)
 ·have u:idE t=0:=by simp[idE,hfm]
  have av:t.outs.length≤8:=(xe.1 hfm).2.2
  obtain⟨l,hl⟩:∃l,l=t.outs:=⟨_,rfl⟩
  have HP:=@Hd (∀v w',Fr No w w'→w'.ownsRow w.heap.size 60 66 v l.length ((Zn (idH t) l).flatMap z7)→zdM w t (.returned (.tuple #[v,.int .i64 0])) w') (λv w' f h=>⟨v,by rw[u],f,by rw[if_pos hfm,←hl];exact h⟩)
  rw[u] at K
  rw[←hl] at av R0 C2 K L G N⊢
  clear hl
  clear hfm u
  generalize idH t=id at*
  go_enter Tryz.func22,Tryz.ntmps22
  have HL:=Hd L.o
  obtain⟨iK,X,hz,d,V⟩:=info_parts Qs
  have MK:=Hd (λ(w3:World)=>run_makeSlice_full (P:=prog) (w:=w3) w3.heap.size 52 60 iK _ 66 Qc X hz d .i64 .i64 l.length (by omega) (by rw[V];omega) (by unfold maxLen;omega) (le_refl _))
  clear X hz d V
  have⟨R,S,T⟩:=tZ3
  go_wp2_with ((first|((with_reducible refine zt ?_);clear R;refine znT rfl rfl rfl R0.o rfl ?_;generalize w.alloc (.cells #[.int .u32 t.ver,.slice B t.ins.length C,.slice D l.length E] 27)=w1 at*)|(clear S;go_at_call 19;refine K.o.mono ?_;rintro e a ⟨rfl,r⟩;have A:=Hd (G.o.trans0 r);have aj:=Hd r.size;have ad:=Hd (r.cell C2.o _root_.id);clear r)|((with_reducible refine zr ?_);clear T;refine zn3 (w:=a) (cs:=zd id) rfl rfl rfl rfl m.o zE ?_;have H:=@Hd (Fr No a (a.alloc (.cells (zd id).toArray 45))) ((frN a).alloc _);have af:=Hd (ye a (.cells (zd id).toArray 45));have ak:=@Hd ((a.alloc (.cells (zd id).toArray 45)).heap.size=a.heap.size+1) (by simp);generalize a.alloc (.cells (zd id).toArray 45)=w3 at*;generalize a.heap.size=q3 at*;obtain⟨w4,Z,z,W⟩:=MK.o w3;have s:Fr No w3 w4:=Fr.of_grown W (λk e=>by cases e);have F4:=Hd s;rw[ak.o] at Z z;have o:=Hd z;have c2:=H.o.cell ad.o _root_.id;have aq:=s.cell c2 _root_.id;clear W z s));go_frame)
  clear Z c2 aq
  obtain⟨g,y⟩:∃g,g=q3+1:=⟨_,rfl⟩
  have G0:=@Hd (g=q3+1∧w.heap.size+1≤q3) (⟨y,by have:=N.o;have:=aj.o;omega⟩)
  rw[←y] at o⊢
  have ao:=@Hd (g<w4.heap.size) ((o.o.lt _ rfl).2)
  have ah:=Hd (yu o.o (show w.heap.size≤g by have:=G0.o;omega))
  have ae:=Hd (F4.o.obj af.o _root_.id)
  have FF:=Hd ((A.o.trans0 H.o).trans0 F4.o)
  clear y A H F4
  have A:=Hd FF.o
  go_loopw [24] (λiv wr=>∃(n:Nat) (xs:List Value),iv=.int .i64 n∧n≤l.length∧wr.ownsRow (w.heap.size) 60 66 (.slice (some ⟨g,0,none⟩) l.length l.length) l.length xs∧xs.take (n*66)=((Zn id l).take n).flatMap z7∧Fr No w wr∧g<wr.heap.size∧wr.heap[q3]? =some (.cells (zd id).toArray 45 (0,0))) (λiv _=>l.length-(intOf iv).toNat)
  case atStart=>exact⟨0,_,rfl,zero_le _,ah.o,by simp,A.o,ao.o,ae.o⟩
  case round=>
   obtain⟨n,xs,rfl,hn,aa,ab,fr,d,U⟩:=hrel
   have FR:=Hd fr
   have j:=Hd aa
   have O:=Hd ab
   have al:=Hd d
   have I:=Hd U
   clear fr aa ab d U
   by_cases Y:n<l.length
   ·have i1:(n:Int)<(l.length:Int):=by omega
    obtain⟨x,hx⟩:∃x,l[n]? =some x:=⟨_,getElem?_eq_getElem Y⟩
    obtain⟨b,off,cap,hv,hr,-⟩:=(HL.o.keep FR.o).at_ hx
    cases hv
    have q:=Hd (HL.o.1 x (mem_of_getElem? hx))
    have IL:=Hd (yq q.o)
    have R1:=Hd hr
    have p:=@Hd ((⟨id,(n:Int)⟩:zx).ok) (⟨Q.o,by show(0:Int)≤(n:Int);omega,by show(n:Int)≤_;omega⟩)
    have HX:=Hd (zac id hx)
    have F:=@Hd ((z7 ⟨⟨id,(n:Int)⟩,x⟩).length=66) (xI ⟨p.o,q.o⟩)
    have PL:=Hd (zW p.o)
    have ar:(n:Int) % 4294967296=(n:Int):=by omega
    have fA:=(frN wr).alloc (.cells (zF x).toArray 58)
    have FA:=Hd fA
    have RO:=Hd (zq wr (zF x) 58)
    have RH:=@Hd ((wr.alloc (.cells (zF x).toArray 58)).rangeAt (q3) 0 (zd id)) (za (zv I.o) fA (λh=>h))
    have M:=Hd (zb j.o fA (λ_ _=>_root_.id))
    have TH:=Hd (Jx M.o Y)
    have ai:=Hd (vP M.o (n*66) (cs:=z7 ⟨⟨id,(n:Int)⟩,x⟩) (by rw[F.o];omega))
    have an:=Hd (zaK z7 HX.o F.o O.o (by rw[j.o.1];omega))
    clear hr hx fA
    have⟨R,S,T,K3,K4,K5,K6⟩:=tZ7
    go_wp2_with ((first|((with_reducible refine zt ?_);first|(clear R;refine znU rfl rfl rfl R1.o IL.o ?_)|(clear T;refine znV rfl rfl rfl RH.o m.o ?_)|(clear K3;refine zg rfl (jI (t:=56) (vs:=[(0,.agg (zd id).toArray),(1,.int .u32 n)]) rfl (by simp[Act.eval,ar]) zfo (zg9 Q.o n) (zfm id n) (by rw[PL.o])) ?_)|(clear K4;refine znU rfl rfl rfl RO.o IL.o ?_)|(clear K5;refine zg rfl (jI (t:=60) (vs:=[(0,.agg (zm ⟨id,(n:Int)⟩).toArray),(1,.agg (zF x).toArray)]) rfl rfl zcr (zd2 p.o q.o) (zco _ _) (by rw[F.o])) ?_))|((with_reducible refine zr ?_);first|(clear S;refine zn2 (w:=wr) (cs:=zF x) rfl rfl rfl rfl IL.o yd ?_;generalize wr.alloc (.cells (zF x).toArray 58)=wA at*)|(clear K6;refine zi rfl (zU (ty:=60) (b:=g) (off:=n*66) (cs:=z7 ⟨⟨id,(n:Int)⟩,x⟩) rfl rfl rfl (by rw[F.o];exact TH.o) (by rw[F.o];exact zb5) qi) ?_)));go_frame)
    go_roundw
    case rel=>exact⟨n+1,_,by go_num,by omega,ai.o,an.o,(FR.o.trans0 FA.o).trans (zy _ _ _ _) (λi hi e=>by have:=G0.o;omega),by have:=(zy g (z7 ⟨⟨id,(n:Int)⟩,x⟩) (n*66) wA).size;have:=FA.o.size;have:=al.o;omega,(zy g (z7 ⟨⟨id,(n:Int)⟩,x⟩) (n*66) wA).obj (FA.o.obj I.o _root_.id) (λe=>by have:=G0.o;omega)⟩
    case measure=>simp[intOf];omega
   ·have au:n=l.length:=by omega
    have i1:¬(n:Int)<(l.length:Int):=by omega
    have HE:=@Hd (xs=(Zn id l).flatMap z7) (by
     have:=O.o
     rw[au,take_of_length_le (by rw[j.o.1];exact le_refl _),take_of_length_le (by rw[qZ];exact le_refl _)] at this
     exact this)
    have ag:=Hd (HP.o _ wr FR.o (by rw[←HE.o];exact j.o))
    go_wp2
    go_ret2
    exact ag.o
def Yk (x:Int) (n:Nat):List Int:=(leB 8 x).take n++List.replicate (8-n) 0
theorem zjZ {B g n:Nat} {T:TypeId} {xs:List Value} (h:w.ownsRow B T 1 (.slice (some ⟨g,0,none⟩) n n) n xs):w.heap[g]? =some (.cells xs.toArray T (0,0)):=by
 rcases h.2 with⟨e,_⟩|⟨f,cap,b,e,i,c,j,k,d,a⟩
 ·cases e
 ·injection e with e1 e2 e3
  injection e1 with e1
  injection e1 with e1
  subst e1
  subst e3
  rw[take_of_length_le (by rw[Array.length_toList,d];exact le_refl _)] at a
  rw[c,←a]
theorem znw (x:Int):(madeCells (Value.int .u8 0).cells (8*1)).toList=(Yk x 0).map zQ:=by
 have a:Yk x 0=List.replicate 8 0:=by simp[Yk]
 have b:(madeCells (Value.int .u8 0).cells (8*1)).toList=(List.replicate 8 (0:Int)).map zQ:=by kernel_rfl
 rw[a,b]
theorem zjG {B g:Nat} {l:List Int} (h:w.heap[g]? =some (.cells (l.map zQ).toArray 5 (0,0))) (a:B≤g) (b:l.length≤1000000):qV w B (.slice (some ⟨g,0,none⟩) l.length l.length) l:=
 ⟨by simp,.inr ⟨g,l.length,(l.map zQ).toArray,rfl,a,h,le_refl _,by unfold maxLen;omega,by simp,by rw[take_of_length_le (by simp)]⟩⟩
theorem zmO (w:World):Calls prog 129 #[.int .i64 8] w λe w'=>e=.returned (.bool true)∧w'=w:=by
 go_enter Tryz.func129,Tryz.ntmps129
 go_wp2
 go_ret
 exact⟨rfl,rfl⟩
theorem zfr (w:World) {x:Int} (y:0≤x∧x≤18446744073709551615):
  Calls prog 97 #[.int .u64 x,.int .i64 8] w λe w'=>e=.returned (.tuple #[.slice (some ⟨w.heap.size,0,none⟩) 8 8,.int .i64 0])∧qV w' w.heap.size (.slice (some ⟨w.heap.size,0,none⟩) 8 8) (leB 8 x)∧Fr No w w':=by
 obtain⟨K,m,C,r,j⟩:=info_parts Qr
 obtain⟨A,o,q,l⟩:=run_makeSlice_full (P:=prog) (w:=w) w.heap.size 110 5 K _ 1 Qb m C r .i64 .i64 8 (by omega) (by rw[j];omega) (by unfold maxLen;omega) (le_refl _)
 have D:=@Hd (Fr No w A) (Fr.of_grown l (λk e=>by cases e))
 have E:=@Hd (A.heap[w.heap.size]? =some (.cells ((Yk x 0).map zQ).toArray 5 (0,0))) (znw x▸zjZ q)
 have p:(Instr.makeSlice 110 (.int .i64 8) (.int .i64 8)).run prog w=.ok (.slice (some ⟨w.heap.size,0,none⟩) 8 8) A:=o
 have O:=y.1
 have Q:=y.2
 clear m C r j q l y
 go_enter Tryz.func97,Tryz.ntmps97
 go_wp2_with (go_at_call 129;refine(zmO _).mono ?_;rintro e N ⟨rfl,G⟩;rw[G])
 clear o p
 generalize I:w.heap.size=g at*
 go_loopw [25] (λz wr=>∃(n:Nat),z=.int .i64 n∧n≤8∧wr.heap[g]? =some (.cells ((Yk x n).map zQ).toArray 5 (0,0))∧Fr No w wr) (λz _=>8-(intOf z).toNat)
 case atStart=>exact⟨0,rfl,by omega,E.o,D.o⟩
 case round=>
  obtain⟨n,rfl,M,t,fr⟩:=hrel
  have B:=Hd fr
  have s:=Hd t
  have L:=λi=>yp (i:=i) t
  clear fr t
  by_cases hlt:n<8
  ·have f:=Hd (λv=>show Fr No w (wr.setCell ⟨g,n,none⟩ v) from B.o.setCell _ (.inl (by show w.heap.size≤g;omega)) _)
   have h:=Hd (λv=>heap_setCell_same wr g n _ _ v s.o)
   have a:=zv s.o
   have H:n=0∨n=1∨n=2∨n=3∨n=4∨n=5∨n=6∨n=7:=by omega
   rcases H with rfl|rfl|rfl|rfl|rfl|rfl|rfl|rfl
   ·have c:=a 0 (.int .u8 0) rfl
    simp only[zero_add] at c
    clear a
    have b:=@Hd (∀v:Int,v=x % 256→some (Obj.cells (((Yk x 0).map zQ).toArray.setIfInBounds 0 (.int .u8 v)) 5 (0,0))=some (Obj.cells ((Yk x 1).map zQ).toArray 5 (0,0))) (λv e=>by
     have d:v=x % 256:=by omega
     subst d
     rfl)
    go_wp2
    go_roundw
    case rel=>exact⟨1,rfl,by omega,(h.o _).trans (b.o _ (by omega)),f.o _⟩
    case measure=>simp[intOf]
   ·have c:=a 1 (.int .u8 0) rfl
    simp only[zero_add] at c
    clear a
    have b:=@Hd (∀v:Int,v=x / 256 % 256→some (Obj.cells (((Yk x 1).map zQ).toArray.setIfInBounds 1 (.int .u8 v)) 5 (0,0))=some (Obj.cells ((Yk x 2).map zQ).toArray 5 (0,0))) (λv e=>by
     have d:v=(x / 256) % 256:=by omega
     subst d
     rfl)
    go_wp2
    go_roundw
    case rel=>exact⟨2,rfl,by omega,(h.o _).trans (b.o _ (by omega)),f.o _⟩
    case measure=>simp[intOf]
   ·have c:=a 2 (.int .u8 0) rfl
    simp only[zero_add] at c
    clear a
    have b:=@Hd (∀v:Int,v=x / 65536 % 256→some (Obj.cells (((Yk x 2).map zQ).toArray.setIfInBounds 2 (.int .u8 v)) 5 (0,0))=some (Obj.cells ((Yk x 3).map zQ).toArray 5 (0,0))) (λv e=>by
     have d:v=((x / 256) / 256) % 256:=by omega
     subst d
     rfl)
    go_wp2
    go_roundw
    case rel=>exact⟨3,rfl,by omega,(h.o _).trans (b.o _ (by omega)),f.o _⟩
    case measure=>simp[intOf]
   ·have c:=a 3 (.int .u8 0) rfl
    simp only[zero_add] at c
    clear a
    have b:=@Hd (∀v:Int,v=x / 16777216 % 256→some (Obj.cells (((Yk x 3).map zQ).toArray.setIfInBounds 3 (.int .u8 v)) 5 (0,0))=some (Obj.cells ((Yk x 4).map zQ).toArray 5 (0,0))) (λv e=>by
     have d:v=(((x / 256) / 256) / 256) % 256:=by omega
     subst d
     rfl)
    go_wp2
    go_roundw
    case rel=>exact⟨4,rfl,by omega,(h.o _).trans (b.o _ (by omega)),f.o _⟩
    case measure=>simp[intOf]
   ·have c:=a 4 (.int .u8 0) rfl
    simp only[zero_add] at c
    clear a
    have b:=@Hd (∀v:Int,v=x / 4294967296 % 256→some (Obj.cells (((Yk x 4).map zQ).toArray.setIfInBounds 4 (.int .u8 v)) 5 (0,0))=some (Obj.cells ((Yk x 5).map zQ).toArray 5 (0,0))) (λv e=>by
     have d:v=((((x / 256) / 256) / 256) / 256) % 256:=by omega
     subst d
     rfl)
    go_wp2
    go_roundw
    case rel=>exact⟨5,rfl,by omega,(h.o _).trans (b.o _ (by omega)),f.o _⟩
    case measure=>simp[intOf]
   ·have c:=a 5 (.int .u8 0) rfl
    simp only[zero_add] at c
    clear a
    have b:=@Hd (∀v:Int,v=x / 1099511627776 % 256→some (Obj.cells (((Yk x 5).map zQ).toArray.setIfInBounds 5 (.int .u8 v)) 5 (0,0))=some (Obj.cells ((Yk x 6).map zQ).toArray 5 (0,0))) (λv e=>by
     have d:v=(((((x / 256) / 256) / 256) / 256) / 256) % 256:=by omega
     subst d
     rfl)
    go_wp2
    go_roundw
    case rel=>exact⟨6,rfl,by omega,(h.o _).trans (b.o _ (by omega)),f.o _⟩
    case measure=>simp[intOf]
   ·have c:=a 6 (.int .u8 0) rfl
    simp only[zero_add] at c
    clear a
    have b:=@Hd (∀v:Int,v=x / 281474976710656 % 256→some (Obj.cells (((Yk x 6).map zQ).toArray.setIfInBounds 6 (.int .u8 v)) 5 (0,0))=some (Obj.cells ((Yk x 7).map zQ).toArray 5 (0,0))) (λv e=>by
     have d:v=((((((x / 256) / 256) / 256) / 256) / 256) / 256) % 256:=by omega
     subst d
     rfl)
    go_wp2
    go_roundw
    case rel=>exact⟨7,rfl,by omega,(h.o _).trans (b.o _ (by omega)),f.o _⟩
    case measure=>simp[intOf]
   ·have c:=a 7 (.int .u8 0) rfl
    simp only[zero_add] at c
    clear a
    have b:=@Hd (∀v:Int,v=x / 72057594037927936 % 256→some (Obj.cells (((Yk x 7).map zQ).toArray.setIfInBounds 7 (.int .u8 v)) 5 (0,0))=some (Obj.cells ((Yk x 8).map zQ).toArray 5 (0,0))) (λv e=>by
     have d:v=(((((((x / 256) / 256) / 256) / 256) / 256) / 256) / 256) % 256:=by omega
     subst d
     rfl)
    go_wp2
    go_roundw
    case rel=>exact⟨8,rfl,by omega,(h.o _).trans (b.o _ (by omega)),f.o _⟩
    case measure=>simp[intOf]
  ·have u:n=8:=by omega
   subst u
   have F:=@Hd (qV wr g (.slice (some ⟨g,0,none⟩) 8 8) (leB 8 x)) (zjG s.o (le_refl _) (by rw[jg];decide))
   go_wp2
   go_ret2
   subst I
   exact⟨rfl,F.o,B.o⟩
def vy (b:qf):Bool:=decide (b.pay.length≤8) && (decide (b.txs.length≤16) && b.txs.all qK)
def zkL (b:qf):List Int:=leB 8 b.tag++((b.pay.length:Int)::(b.pay.flatMap Yy++((b.txs.length:Int)::b.txs.flatMap idH)))
def zjg (b:qf):Int:=if vy b=true then 0 else 5
def ZW (b:qf):zf:=if vy b=true then vQ (zkL b) else yT
theorem zbr (b:qf):zV (ZW b):=by
 unfold ZW
 split
 ·exact Yb _
 ·exact qY
theorem zbs {b:qf} (h:vy b=false):zjg b=5∧ZW b=yT:=by simp[zjg,ZW,h]
theorem VE {b:qf} (h:vy b=true):zjg b=0∧ZW b=vQ (zkL b):=by simp[zjg,ZW,h]
theorem zkZ (l:List TxD):(l.flatMap idH).length=32*l.length:=by
 induction l with
 |nil=>rfl
 |cons x l ih=>
  have:=(jJ x).1
  simp only[List.flatMap_cons,length_append,List.length_cons]
  omega
theorem YC (w:World) (a b c:Value) (T:TypeId):(w.alloc (.cells #[a,b,c] T)).cell? ⟨w.heap.size,0,none⟩=some a∧(w.alloc (.cells #[a,b,c] T)).cell? ⟨w.heap.size,1,none⟩=some b∧(w.alloc (.cells #[a,b,c] T)).cell? ⟨w.heap.size,2,none⟩=some c∧(w.alloc (.cells #[a,b,c] T)).rangeAt w.heap.size 0 [a,b,c]:=by
 have:=zq w [a,b,c] T
 exact⟨by simpa using this 0 _ rfl,by simpa using this 1 _ rfl,by simpa using this 2 _ rfl,this⟩
theorem zlR (w:World):(zeroValue 27).run prog w=.ok (.agg (txC 0 (.slice none 0 0) (.slice none 0 0)).toArray) w:=by kernel_rfl
theorem zb2 (b o:Nat) (w:World):(Instr.sliceAt 45 (.pointer (some ⟨b,o,none⟩)) none none none).run prog w=.ok (.slice (some ⟨b,o,none⟩) 32 32) w:=by
 have a:prog.arrayLen 45=32:=by kernel_rfl
 have c:(sizeOf (prog.elem 45)).run prog w=.ok 1 w:=by kernel_rfl
 rw[run_sliceAt_array_all w _ _ (by kernel_rfl),c]
 simp[slicedAt,a,Yn]
theorem zaE (hg:vp w) {b:qf} (ht:vG w b cs):
  Calls prog 57 #[.agg cs.toArray] w λe w'=>e=.returned (.tuple #[.agg (zd (ZW b)).toArray,.int .i64 (zjg b)])∧Fr No w w':=by
 have zH:=yJ
 have zo:=y3
 have zT:=zlR
 obtain⟨dH,uH,rH⟩:=jq
 obtain⟨ia,ic,oa,oc,rfl,Z,ho,m⟩:=ht
 have f1:Fr No w (w.alloc (.cells #[.int .u64 b.tag,.slice ia b.pay.length ic,.slice oa b.txs.length oc] 65)):=(frN w).alloc _
 have C:Fr No (w.alloc (.cells #[.int .u64 b.tag,.slice ia b.pay.length ic,.slice oa b.txs.length oc] 65)) _:=(frN _).alloc (.cells (zd yT).toArray 45)
 obtain⟨c0,c1,c2,-⟩:=YC w (.int .u64 b.tag) (.slice ia b.pay.length ic) (.slice oa b.txs.length oc) 65
 have C0:=Hd (C.cell c0 _root_.id)
 have C1:=Hd (C.cell c1 _root_.id)
 have C2:=Hd (C.cell c2 _root_.id)
 have Q:=Hd (f1.trans0 C)
 have B2:=Hd (yU (w.alloc (.cells #[.int .u64 b.tag,.slice ia b.pay.length ic,.slice oa b.txs.length oc] 65)) (.cells (zd yT).toArray 45) (n:=w.heap.size+1) (by simp))
 have G2:=Hd (hg.keep0 Q.o)
 have G:=@Hd (((w.alloc (.cells #[.int .u64 b.tag,.slice ia b.pay.length ic,.slice oa b.txs.length oc] 65)).alloc (.cells (zd yT).toArray 45)).heap.size=w.heap.size+2) (by simp)
 have HO:=Hd (ho.keep Q.o)
 have HX:=Hd (m.keep0 Q.o)
 have v1:=Z.1
 have v2:=Z.2
 have c0:=C0.o
 have c1:=C1.o
 have c2:=C2.o
 clear ho m f1 C hg Z
 show Calls prog 57 #[.agg #[.int .u64 b.tag,.slice ia b.pay.length ic,.slice oa b.txs.length oc]] w _
 by_cases hp8:8<b.pay.length
 ·have d:vy b=false:=by
   have:decide (b.pay.length≤8)=false:=by simp;omega
   simp[vy,this]
  have j1:decide ((8:Int)<(b.pay.length:Int))=true:=by simp;omega
  have z:=Hd (zbs d)
  have c:=@Hd ((zd yT).length=32) (rfl)
  clear d
  clear hp8
  go_enter Tryz.func57,Tryz.ntmps57
  have⟨p,r⟩:=tZ2
  go_wp2_with ((first|((with_reducible refine zt ?_);clear p;with_reducible refine yg 24 ?_;refine zg rfl (yv (t:=45) rfl rfl (Xw _)) ?_)|((with_reducible refine zr ?_);clear r;refine zi rfl (zU (ty:=45) (b:=w.heap.size+1) (off:=0) (cs:=zd yT) rfl rfl rfl (by rw[c.o];exact yb B2.o (le_of_eq Jl.symm)) (by rw[c.o];exact yj) zE) ?_));go_frame)
  refine bodyPost_ret (yt (P:=prog) (fn:=Tryz.f57) rfl _ rfl (yB B2.o (by rw[c.o];exact Jl)) uH rH (by rw[c.o];exact yj) rfl) rfl ⟨by rw[z.o.1,z.o.2];rfl,?_⟩
  exact Q.o.trans (zy _ _ _ _) (λi hi e=>by omega)
 by_cases ht16:16<b.txs.length
 ·have d:vy b=false:=by
   have:decide (b.txs.length≤16)=false:=by simp;omega
   simp[vy,this]
  have j1:decide ((8:Int)<(b.pay.length:Int))=false:=by simp;omega
  have j2:decide ((16:Int)<(b.txs.length:Int))=true:=by simp;omega
  have z:=Hd (zbs d)
  have c:=@Hd ((zd yT).length=32) (rfl)
  clear d
  clear hp8 ht16
  go_enter Tryz.func57,Tryz.ntmps57
  have⟨p,r⟩:=tZ2
  go_wp2_with ((first|((with_reducible refine zt ?_);clear p;with_reducible refine yg 24 ?_;refine zg rfl (yv (t:=45) rfl rfl (Xw _)) ?_)|((with_reducible refine zr ?_);clear r;refine zi rfl (zU (ty:=45) (b:=w.heap.size+1) (off:=0) (cs:=zd yT) rfl rfl rfl (by rw[c.o];exact yb B2.o (le_of_eq Jl.symm)) (by rw[c.o];exact yj) zE) ?_));go_frame)
  refine bodyPost_ret (yt (P:=prog) (fn:=Tryz.f57) rfl _ rfl (yB B2.o (by rw[c.o];exact Jl)) uH rH (by rw[c.o];exact yj) rfl) rfl ⟨by rw[z.o.1,z.o.2];rfl,?_⟩
  exact Q.o.trans (zy _ _ _ _) (λi hi e=>by omega)
 have p8:b.pay.length≤8:=by omega
 have ao:b.txs.length≤16:=by omega
 have j1:decide ((8:Int)<(b.pay.length:Int))=false:=by simp;omega
 have j2:decide ((16:Int)<(b.txs.length:Int))=false:=by simp;omega
 have e1:(b.pay.length:Int) % 256=(b.pay.length:Int):=by omega
 have e2:(b.txs.length:Int) % 256=(b.txs.length:Int):=by omega
 clear hp8 ht16
 go_enter Tryz.func57,Tryz.ntmps57
 have⟨p,r⟩:=tZ2
 go_wp2_with ((first|(clear p;go_at_call 97;generalize (w.alloc (.cells #[.int .u64 b.tag,.slice ia b.pay.length ic,.slice oa b.txs.length oc] 65)).alloc (.cells (zd yT).toArray 45)=w2 at*;refine(zfr w2 ⟨v1,v2⟩).mono ?_;rintro e w3 ⟨rfl,b3,f3⟩;have R:=Hd f3;have B3:=@Hd (qV w3 (w.heap.size+2) _ _) (yu b3 (by rw[G.o];exact le_refl _));clear b3 f3;have cA:=R.o.cell C1.o _root_.id;obtain⟨v4,w4,l,j,h,-⟩:=Jt w3 (x:=b.pay.length) B3.o (by rw[jg];decide) (by have:=R.o.size;have:=G.o;omega) 110;have A4:=Hd l;have B4:=Hd j;have F4:=Hd (qV.step R.o B3.o (by have:=G.o;omega) h);clear l j h)|((with_reducible refine zt ?_);clear r;at_builtin;refine zJ rfl rfl rfl rfl A4.o ?_;have cB:=F4.o.cell C1.o _root_.id));go_frame)
 have af:=@Hd ((leB 8 b.tag++[(b.pay.length:Int)]).length=9) (by rw[length_append,jg];rfl)
 have LE:=@Hd (zkL b=leB 8 b.tag++[(b.pay.length:Int)]++b.pay.flatMap Yy++[(b.txs.length:Int)]++b.txs.flatMap idH) (by simp[zkL])
 generalize leB 8 b.tag++[(b.pay.length:Int)]=L0 at*
 go_loopw [4,41] (λbv iv wr=>∃n:Nat,iv=.int .i64 n∧n≤b.pay.length∧qV wr (w.heap.size+2) bv (L0++(b.pay.take n).flatMap Yy)∧Fr No w2 wr) (λ_ iv _=>b.pay.length-(intOf iv).toNat)
 case atStart=>exact⟨0,rfl,zero_le _,by simpa using B4.o,F4.o⟩
 case round=>
  obtain⟨n,rfl,hn,V,fr⟩:=hrel
  have FS:=Hd fr
  have BS:=Hd V
  have SY:=@Hd (w.heap.size+2≤wr.heap.size) (by have:=fr.size;have:=G.o;omega)
  have B:=@Hd ((L0++(b.pay.take n).flatMap Yy).length≤9+40*n) (by
   rw[length_append,Qv (λx m=>HO.o.1 x (List.mem_of_mem_take m)),List.length_take,af.o]
   omega)
  obtain⟨ba,bc,u⟩:=V.form
  clear fr V
  by_cases W:n<b.pay.length
  ·have i1:(n:Int)<(b.pay.length:Int):=by omega
   obtain⟨x,m⟩:∃x,b.pay[n]? =some x:=⟨_,getElem?_eq_getElem W⟩
   have TF:=Hd (QF Yy m)
   obtain⟨bb,off,cap,Z,hr,-⟩:=HO.o.at_ m
   cases Z
   have y:=HO.o.1 x (mem_of_getElem? m)
   have R1:=Hd (za hr FS.o id)
   have IL:=Hd (yq y)
   have S:=Hd ((frN wr).alloc (.cells (zF x).toArray 58))
   have QA:=@Hd ((wr.alloc (.cells (zF x).toArray 58)).heap.size=wr.heap.size+1) (by simp)
   obtain⟨n1,n2⟩:=Xb wr y
   have N2:=Hd n2
   have al:=y.1.1
   have an:=y.1.2
   have LX:=Hd y.2.1
   have D0:=Hd (BS.o.ne (le_refl _))
   have FW:=Hd (FS.o.trans0 S.o)
   have BW:=Hd (BS.o.keep0 S.o)
   clear n2 hr y m
   subst u
   generalize U:L0++(b.pay.take n).flatMap Yy=Lo at*
   have⟨p,r,K2⟩:=tZ3
   go_wp2_with ((first|((with_reducible refine zt ?_);clear p;refine znU rfl rfl rfl R1.o IL.o ?_)|((with_reducible refine zr ?_);clear r;refine zn2 (w:=wr) (cs:=zF x) rfl rfl rfl rfl IL.o yd ?_;generalize wr.alloc (.cells (zF x).toArray 58)=wA at*)|(clear K2;go_at_call 97;refine(zfr wA ⟨al,an⟩).mono ?_;rintro e f ⟨rfl,b5,D⟩;have F:=Hd D;have V5:=Hd b5;clear b5 D));go_frame)
   have o:=(frN f).drew
   have N5:=Hd (za N2.o F.o id)
   have Q5:=@Hd (wr.heap.size<f.heap.size) (by have:=F.o.size;have:=QA.o;omega)
   obtain⟨v6,w6,l,j,h,a4⟩:=vx f.drew ((BW.o.keep0 F.o).keep0 o) (V5.o.keep0 o).slice.arg (by rw[jg];have:=B.o;omega) (show w.heap.size+2≤f.heap.size by have:=SY.o;have:=Q5.o;omega) 110
   have aq:(leB 8 x.value).length=8:=jg 8 x.value
   have D6:=a4.ne D0.o (show wr.heap.size<f.heap.size from Q5.o)
   have N6:=Hd (za (za N5.o o _root_.id) h D0.o)
   have A6:=Hd l
   have B6:=Hd j
   have F6:=Hd (qV.step ((FW.o.trans0 F.o).trans0 o) ((BW.o.keep0 F.o).keep0 o) (by have:=G.o;omega) h)
   have Q6:=@Hd (wr.heap.size<w6.heap.size) (by have:=h.size;have:=Q5.o;have:f.drew.heap.size=f.heap.size:=rfl;omega)
   obtain⟨av,aw,ak⟩:=j.form
   clear l j h a4 D6 o
   obtain⟨v7,w7,l,j,h,-⟩:=vx w6 B6.o (zbp N6.o LX.o Q6.o) (by simp only[length_append,LX.o,jg];have:=B.o;omega) (by have:=SY.o;have:=Q6.o;omega) 110
   have A7:=Hd l
   have B7:=Hd j
   have F7:=Hd (qV.step F6.o B6.o (by have:=G.o;omega) h)
   clear l j h ak
   have aj:=zb2 wr.heap.size 1
   refine wrLx [ff,ff,tt,ff,ff,tt,ff] (λ_=>True) ?_ (λK hK=>?_)
   ·trivial
   repeat((first|(refine zk rfl ?_;constructor;constructor;(focus(first|(rintro w' -;exact goS))))|(refine zl rfl ?_));try simp only[Act.put,pA,pB,pC])
   (refine zM rfl (λK' hK'=>?_))
   refine yE rfl rfl rfl A6.o ?_
   refine nXt hK' ?_ λhS=>?_
   ·trivial
   try simp only[Act.put,pA,pB,pC]
   repeat((first|(refine zk rfl ?_;constructor;constructor;(focus(first|(rintro w' -;exact goS))))|(refine zl rfl ?_));try simp only[Act.put,pA,pB,pC])
   (refine zM rfl (λK' hK'=>?_))
   refine yE rfl rfl rfl A7.o ?_
   refine nXt hK' ?_ λhS=>?_
   ·trivial
   try simp only[Act.put,pA,pB,pC]
   repeat((first|(refine zk rfl ?_;constructor;constructor;(focus(first|(rintro w' -;exact goS))))|(refine zl rfl ?_));try simp only[Act.put,pA,pB,pC])
   refine zN (hK.out _ _ ?_)
   go_wp2_with fail
   go_roundw
   case rel=>exact⟨n+1,by go_num,by omega,by rw[TF.o,←List.append_assoc,U];simpa[Yy] using B7.o,F7.o⟩
   case measure=>simp[intOf];omega
  ·have X:n=b.pay.length:=by omega
   subst X
   have i1:¬(b.pay.length:Int)<(b.pay.length:Int):=by omega
   rw[List.take_length] at BS B
   have c2:=FS.o.cell C2.o id
   obtain⟨v3,wy,l,j,h,a4⟩:=Jt wr (x:=b.txs.length) BS.o (by have:=B.o;omega) SY.o 110
   have A1:=Hd l
   have BY:=Hd j
   have FY:=Hd (qV.step FS.o BS.o (by have:=G.o;omega) h)
   have cD:=FY.o.cell C2.o id
   have ag:=@Hd ((L0++b.pay.flatMap Yy++[(b.txs.length:Int)]).length≤400) (by
    rw[length_append]
    have:=B.o
    simp only[List.length_singleton]
    omega)
   clear l j h a4 c2
   have c2:=FS.o.cell C2.o id
   subst u
   generalize au:L0++b.pay.flatMap Yy=Ln at*
   go_wp2_with (first|(at_builtin;refine zJ rfl rfl rfl rfl A1.o ?_))
   generalize ar:Ln++[(b.txs.length:Int)]=A at*
   clear c2 cD
   go_loopw [4,68] (λbv iv wr=>∃n:Nat,iv=.int .i64 n∧n≤b.txs.length∧(∀t∈b.txs.take n,qK t=true)∧qV wr (w.heap.size+2) bv (A++(b.txs.take n).flatMap idH)∧Fr No w2 wr) (λ_ iv _=>b.txs.length-(intOf iv).toNat)
   case atStart=>exact⟨0,rfl,zero_le _,by simp,by simpa using BY.o,FY.o⟩
   case round=>
    obtain⟨n,rfl,hn,O,V,fr⟩:=hrel
    have FT:=Hd fr
    have BT:=Hd V
    have AL:=Hd O
    have GT:=Hd (G2.o.keep0 fr)
    have ah:=@Hd (w.heap.size+2≤wr.heap.size) (by have:=fr.size;have:=G.o;omega)
    have T:=@Hd ((A++(b.txs.take n).flatMap idH).length≤400+32*n) (by
     rw[length_append,zkZ,List.length_take]
     have:=ag.o
     omega)
    obtain⟨ba,bc,u⟩:=V.form
    clear fr V O
    by_cases W:n<b.txs.length
    ·have i1:(n:Int)<(b.txs.length:Int):=by omega
     obtain⟨t,m⟩:∃x,b.txs[n]? =some x:=⟨_,getElem?_eq_getElem W⟩
     have TF:=Hd (QF idH m)
     obtain⟨bb,off,cap,cs,Z,hr,hq⟩:=HX.o.at_ m
     cases Z
     have R1:=Hd (za hr FT.o id)
     have TQ:=Hd (hq.keep FT.o)
     obtain⟨M,tc,g,k,ai⟩:=hq.form
     subst ai
     have S:=Hd ((frN wr).alloc (.cells #[.int .u32 t.ver,.slice M t.ins.length tc,.slice g t.outs.length k] 27))
     have QA:=@Hd ((wr.alloc (.cells #[.int .u32 t.ver,.slice M t.ins.length tc,.slice g t.outs.length k] 27)).heap.size=wr.heap.size+1) (by simp)
     have RT:=Hd (YC wr (.int .u32 t.ver) (.slice M t.ins.length tc) (.slice g t.outs.length k) 27).2.2.2
     have ID:=Hd (YX (GT.o.keep0 S.o) (TQ.o.keep S.o))
     have ae:=Hd (zu (jJ t))
     have ad:=Hd (jJ t).1
     have D0:=Hd (BT.o.ne (le_refl _))
     have FW:=Hd (FT.o.trans0 S.o)
     have BW:=Hd (BT.o.keep0 S.o)
     have aa:=Hd m
     clear hr m hq
     subst u
     by_cases hfm:qK t=true
     ·have IE:=@Hd (idE t=0) (by simp[idE,hfm])
      have AN:=@Hd (∀s∈b.txs.take (n+1),qK s=true) (λs Y=>by
       rw[List.take_add_one,aa.o] at Y
       rcases List.mem_append.1 Y with Y|Y
       ·exact AL.o s Y
       ·simp at Y;subst Y;exact hfm)
      rw[IE.o] at ID
      clear hfm
      generalize idH t=I at*
      have aj:=λq=>zb2 q 0
      generalize U:A++(b.txs.take n).flatMap idH=Lo at*
      have⟨p,r,K2,K3,K4,K5⟩:=tZ6
      go_wp2_with ((first|((with_reducible refine zt ?_);first|(clear p;refine znT rfl rfl rfl R1.o rfl ?_)|(clear K2;refine znT rfl rfl rfl RT.o rfl ?_;generalize wr.alloc (.cells #[.int .u32 t.ver,.slice M t.ins.length tc,.slice g t.outs.length k] 27)=wA at*)|(clear K5;at_builtin;refine zJ rfl rfl rfl rfl A7.o ?_))|((with_reducible refine zr ?_);first|(clear r;refine zi rfl (zj (w:=wr) (ty:=27) (cs:=[.int .u32 t.ver,.slice M t.ins.length tc,.slice g t.outs.length k]) rfl rfl rfl rfl xt (zhD (a:=M) (b:=g))) ?_)|(clear K4;refine zn3 (w:=f) (cs:=zd I) rfl rfl rfl rfl ae.o zE ?_;have F6:=@Hd (Fr No f (f.alloc (.cells (zd I).toArray 45))) ((frN f).alloc _);have B6:=Hd (ye f (.cells (zd I).toArray 45));have Q6:=@Hd ((f.alloc (.cells (zd I).toArray 45)).heap.size=f.heap.size+1) (by simp);generalize f.alloc (.cells (zd I).toArray 45)=w6 at*;have BX:=Hd ((BW.o.keep0 F.o).keep0 F6.o);have N:=Hd ((FW.o.trans0 F.o).trans0 F6.o);obtain⟨v7,w7,l,j,h,-⟩:=vx w6 BX.o (zbp (zv B6.o) ad.o (by have:=Q6.o;omega)) (by have:=T.o;have:=ad.o;omega) (by have:=ah.o;have:=N.o.size;have:=G.o;omega) 110;have A7:=Hd l;have B7:=Hd j;have F7:=Hd (qV.step N.o BX.o (by have:=G.o;omega) h);clear l j h))|(clear K3;go_at_call 19;refine ID.o.mono ?_;rintro e f ⟨rfl,D⟩;have F:=Hd D;clear D));go_frame)
      go_roundw
      case rel=>exact⟨n+1,by go_num,by omega,AN.o,by rw[TF.o,←List.append_assoc,U];exact B7.o,F7.o⟩
      case measure=>simp[intOf];omega
     ·have d:vy b=false:=by
       have:b.txs.all qK=false:=by
        rw[List.all_eq_false]
        exact⟨t,mem_of_getElem? aa.o,hfm⟩
       simp[vy,this]
      have IE:=@Hd (idE t=5) (by simp[idE,hfm])
      rw[IE.o] at ID
      have z:=Hd (zbs d)
      have c:=@Hd ((zd yT).length=32) (rfl)
      clear d
      clear hfm
      generalize idH t=I at*
      generalize (A++(b.txs.take n).flatMap idH).length=zz at*
      have⟨p,r,K2,K3,K4,K5,K6⟩:=tZ7
      go_wp2_with ((first|((with_reducible refine zt ?_);first|(clear p;refine znT rfl rfl rfl R1.o rfl ?_)|(clear K2;refine znT rfl rfl rfl RT.o rfl ?_;generalize wr.alloc (.cells #[.int .u32 t.ver,.slice M t.ins.length tc,.slice g t.outs.length k] 27)=wA at*)|(clear K5;with_reducible refine yg 79 ?_;refine zg rfl (yv (t:=45) rfl rfl (Xw _)) ?_))|((with_reducible refine zr ?_);first|(clear r;refine zi rfl (zj (w:=wr) (ty:=27) (cs:=[.int .u32 t.ver,.slice M t.ins.length tc,.slice g t.outs.length k]) rfl rfl rfl rfl xt (zhD (a:=M) (b:=g))) ?_)|(clear K4;refine zn3 (w:=f) (cs:=zd I) rfl rfl rfl rfl ae.o zE ?_;have F6:=@Hd (Fr No f (f.alloc (.cells (zd I).toArray 45))) ((frN f).alloc _);generalize f.alloc (.cells (zd I).toArray 45)=w6 at*;have N:=Hd ((FW.o.trans0 F.o).trans0 F6.o);have BZ:=Hd (N.o.obj B2.o _root_.id))|(clear K6;refine zi rfl (zU (ty:=45) (b:=w.heap.size+1) (off:=0) (cs:=zd yT) rfl rfl rfl (by rw[c.o];exact yb BZ.o (le_of_eq Jl.symm)) (by rw[c.o];exact yj) zE) ?_))|(clear K3;go_at_call 19;refine ID.o.mono ?_;rintro e f ⟨rfl,D⟩;have F:=Hd D;clear D));go_frame)
      refine bodyPost_ret (yt (P:=prog) (fn:=Tryz.f57) rfl _ rfl (yB BZ.o (by rw[c.o];exact Jl)) uH rH (by rw[c.o];exact yj) rfl) rfl ⟨by rw[z.o.1,z.o.2];rfl,?_⟩
      exact(Q.o.trans0 N.o).trans (zy _ _ _ _) (λi hi e=>by omega)
    ·have X:n=b.txs.length:=by omega
     subst X
     have i1:¬(b.txs.length:Int)<(b.txs.length:Int):=by omega
     rw[List.take_length] at BT T AL u
     have E:vy b=true:=by
      have:b.txs.all qK=true:=List.all_eq_true.2 AL.o
      simp[vy,this,p8,ao]
     have z:=Hd (VE E)
     rw[LE.o] at z
     have H:=@Hd ((zd (vQ (A++b.txs.flatMap idH))).length=32) (zu (Yb _))
     have F4:=@Hd (Fr No wr (wr.alloc (.cells #[.slice ba (A++b.txs.flatMap idH).length bc] 110))) ((frN wr).alloc _)
     subst u
     have ab:=Hd (zdG (GT.o.keep0 F4.o) (v:=.slice (some ⟨wr.heap.size,0,none⟩) 1 1) (L:=[A++b.txs.flatMap idH]) (zcq BT.o.slice.arg) (by simp) (by have:=T.o;simp only[List.flatten_cons,List.flatten_nil,List.append_nil];omega))
     rw[show[A++b.txs.flatMap idH].flatten=A++b.txs.flatMap idH by simp] at ab
     clear E
     generalize vQ (A++b.txs.flatMap idH)=TB at*
     generalize (A++b.txs.flatMap idH).length=zz at*
     have⟨p,r⟩:=tZ2
     go_wp2_with ((first|(clear p;go_at_call 53;refine ab.o.mono ?_;rintro e f ⟨rfl,D⟩;have N:=Hd ((FT.o.trans0 F4.o).trans0 D);clear D;have BZ:=Hd (N.o.obj B2.o _root_.id))|((with_reducible refine zr ?_);clear r;refine zi rfl (zU (ty:=45) (b:=w.heap.size+1) (off:=0) (cs:=zd TB) rfl rfl rfl (by rw[H.o];exact yb BZ.o (le_of_eq Jl.symm)) (by rw[H.o];exact yj) zE) ?_));go_frame)
     refine bodyPost_ret (yt (P:=prog) (fn:=Tryz.f57) rfl _ rfl (yB BZ.o (by rw[H.o];exact Jl)) uH rH (by rw[H.o];exact yj) rfl) rfl ⟨by rw[z.o.1,z.o.2];rfl,?_⟩
     exact(Q.o.trans0 N.o).trans (zy _ _ _ _) (λi hi e=>by omega)
def jb (x:yC):Bool:=decide (x.value=0)||decide (1125899906842624<x.value)
theorem zfi {l:List yC} (h:∀x∈l,x.ok):(l.flatMap zF).length=l.length*33:=xY zF 33 l (λx a=>yq (h x a))
theorem zfj {l:List yC}:∀u∈l.flatMap zF,u.oneCell'=true:=λu a=>by
 obtain⟨x,_,b⟩:=List.mem_flatMap.1 a
 exact yd u b
theorem Z8 (w:World) {v x:Value} {k l:List yC} (p:w.ownsRow B 58 33 v k.length (k.flatMap zF)) (m:xg w x l) (o:k.length+l.length≤100000) (n:B≤w.heap.size) (ty:TypeId):
  ∃b w',(Builtin.append_ #[22,22] ty #[v,x]).run prog w=.ok b w'∧w'.ownsRow B 58 33 b (k.length+l.length) ((k++l).flatMap zF)∧Fr (λj=>v.ownBlock=some j) w w'∧Ye w v b:=by
 by_cases hnil:x=.slice none 0 0
 ·obtain⟨a,c,h⟩:=m.2.form
  rw[hnil] at h
  injection h with h1 h2 h3
  have q:l=[]:=List.eq_nil_of_length_eq_zero h2.symm
  subst q
  obtain⟨b,w',d,f,g,i⟩:=Zq (P:=prog) w B 22 ty 58 33 40 _ qO JG (by rw[←yQ];rfl) (by decide) v k.length (k.flatMap zF) p x 0 [] (.inl ⟨hnil,rfl,rfl⟩) rfl (by simp) (by simp at o⊢;omega) (by unfold maxLen;simp at o;omega) n
  exact⟨b,w',d,by simpa using f,g,i⟩
 ·obtain⟨b,w',d,f,g,-,i⟩:=Jn (P:=prog) w B 22 ty 58 33 40 _ qO JG (by rw[←yQ];rfl) (by decide) v k.length (k.flatMap zF) p x l.length (l.flatMap zF) m.2 (zfi m.1) zfj (by omega) (by unfold maxLen;omega) n hnil
  refine⟨b,w',d,?_,(Fr.refl _ w).grown g (λk e=>.inr e),i⟩
  rw[List.flatMap_append]
  exact f
theorem zaO {l:List yC} (h:w.ownsRow B 58 33 v l.length (l.flatMap zF)) (ok:∀x∈l,x.ok) (a:∀j,V j→j<B):Kept V w (λw=>xg w v l):=
 λw' f=>⟨ok,(zb h f (λb c d=>by have:=(h.lt b c).1;have:=a b d;omega)).slice.arg⟩
def JC:List Value:=[.int .u64 0,.slice none 0 0,.slice none 0 0]
theorem zau (w:World):(zeroValue 65).run prog w=.ok (.agg JC.toArray) w:=by kernel_rfl
theorem zgZ (t:Int) (a:Option Addr) (n c:Nat) (w:World):(Instr.build 65 #[(0,.int .u64 t),(1,.slice a n c)]).run prog w=.ok (.agg [.int .u64 t,.slice a n c,.slice none 0 0].toArray) w:=by kernel_rfl
def zlS (w:World) (b:qf) (e:Ending) (w':World):Prop:=∃cs,e=.returned (.agg cs.toArray)∧Fr No w w'∧∀V:Nat→Prop,(∀j,V j→j<w.heap.size)→Kept V w' (λw=>vG w b cs)
theorem zcQ {q:Nat} {T:TypeId} {z cs:List Value} (h:w.heap[q]? =some (.cells z.toArray T (0,0))) (b:z.length=cs.length):(w.setCells q 0 cs).heap[q]? =some (.cells cs.toArray T (0,0)):=by
 have a:=xE q T cs 0 w _ h
 have e:=jt cs [] z [] b
 simp only[List.nil_append,List.append_nil,List.length_nil] at e
 rw[List.toList_toArray,e] at a
 exact a
structure YM where
 took:List zn
 made:List zx
structure yx where
 blk:qf
 ids:List zf
 chg:List YM
structure ChD where
 S:List zn
 bs:List yx
 M:List (zf×Int)
def zdL (w:World) (c:YM) (cs:List Value):Prop:=∃ta tc ma mc,cs=[.slice ta c.took.length tc,.slice ma c.made.length mc]∧vt w (.slice ta c.took.length tc) c.took∧vw w (.slice ma c.made.length mc) c.made
abbrev zfU (w:World) (v:Value) (L:List YM):Prop:=qG 2 zdL w v L
def jG (w:World) (d:yx) (cs:List Value):Prop:=∃bcs ia ic ca cc,cs=bcs++[.slice ia d.ids.length ic,.slice ca d.chg.length cc]∧vG w d.blk bcs∧y4 w (.slice ia d.ids.length ic) d.ids∧zfU w (.slice ca d.chg.length cc) d.chg
theorem vG.form {b:qf} (h:vG w b cs):∃f g i j,cs=[.int .u64 b.tag,.slice f b.pay.length g,.slice i b.txs.length j]:=by
 obtain⟨a,c,d,e,rfl,_⟩:=h
 exact⟨a,c,d,e,rfl⟩
theorem jG.form {d:yx} (h:jG w d cs):∃g i j k e f a c,cs=[.int .u64 d.blk.tag,.slice g d.blk.pay.length i,.slice j d.blk.txs.length k,.slice e d.ids.length f,.slice a d.chg.length c]:=by
 obtain⟨b,e,f,a,c,rfl,l,-⟩:=h
 obtain⟨g,i,j,k,rfl⟩:=l.form
 exact⟨g,i,j,k,e,f,a,c,rfl⟩
theorem jG.one {d:yx} (h:jG w d cs):cs.length=5∧∀u∈cs,u.oneCell'=true:=by
 obtain⟨g,i,j,k,e,f,b,c,rfl⟩:=h.form
 refine⟨rfl,λu a=>?_⟩
 simp only[List.mem_cons,List.not_mem_nil,or_false] at a
 rcases a with rfl|rfl|rfl|rfl|rfl<;>rfl
abbrev zi3 (w:World) (m:Nat) (M:List (zf×Int)):Prop:=yI prog 45 xL zko w m M
def chV (p:Nat) (U:Nat→Prop) (mi:Nat) (bv:Value):Nat→Prop:=λj=>j=p∨U j∨j=mi∨bv.ownBlock=some j
def xP (l:List YM) (S:List zn):List zn:=l.foldr (λc S=>JQ (JK S c.made) c.took) S
def zhs:Nat→Int
 |0=> -1
 |m+1=>(m:Int)
def Jh (l:List YM):Nat:=(l.map λc=>c.took.length+c.made.length).sum
theorem zdD (S:List zn) (ps:List zx):(JK S ps).length≤S.length:=by
 unfold JK
 split
 ·exact List.length_filter_le _ _
 ·exact le_refl _
theorem zj9 (S l:List zn):(JQ S l).length≤S.length+l.length:=by
 unfold JQ
 split
 ·rw[(Zu l S).length_eq,length_append];exact le_refl _
 ·omega
theorem zdH:∀(l:List YM) (S:List zn),(xP l S).length≤S.length+Jh l
 |[],S=>le_refl _
 |c::l,S=>by
  have a:=zdH l S
  have b:=zdD (xP l S) c.made
  have d:=zj9 (JK (xP l S) c.made) c.took
  show(JQ (JK (xP l S) c.made) c.took).length≤_
  simp only[Jh,List.map_cons,List.sum_cons] at*
  omega
theorem zgP {l:List YM} {m:Nat} {c:YM} (S:List zn) (h:l[m]? =some c):xP (l.drop m) S=JQ (JK (xP (l.drop (m+1)) S) c.made) c.took:=by
 rw[List.drop_eq_getElem_cons (List.getElem?_eq_some_iff.1 h).1,(List.getElem?_eq_some_iff.1 h).2]
 rfl
theorem zgM (l:List YM) (m:Nat):Jh (l.drop m)≤Jh l:=by
 have h:Jh (l.take m++l.drop m)=Jh (l.take m)+Jh (l.drop m):=by simp only[Jh,List.map_append,List.sum_append]
 rw[List.take_append_drop] at h
 omega
theorem zku {l:List YM} {m:Nat} {c:YM} (h:l[m]? =some c):Jh (l.drop (m+1))+c.took.length+c.made.length≤Jh l:=by
 have a:=zgM l m
 rw[List.drop_eq_getElem_cons (List.getElem?_eq_some_iff.1 h).1,(List.getElem?_eq_some_iff.1 h).2] at a
 simp only[Jh,List.map_cons,List.sum_cons] at*
 omega
theorem Xd (id:zf) (l:List yC):((Zn id l).map (·.at_)).Nodup:=by
 unfold List.Nodup
 rw[List.pairwise_map,List.pairwise_iff_getElem]
 intro i j hi c d
 have a:=zac id (l:=l) (i:=i) (getElem?_eq_getElem (by rwa [qZ] at hi))
 have b:=zac id (l:=l) (i:=j) (getElem?_eq_getElem (by rwa [qZ] at c))
 rw[getElem?_eq_getElem hi] at a
 rw[getElem?_eq_getElem c] at b
 rw[Option.some.inj a,Option.some.inj b]
 intro e
 injection e with _ e
 omega
def vH (b:qf):List zn:=Zn (ZW b) b.pay
theorem zcp (b:qf):(vH b).length=b.pay.length:=qZ _ _
structure DoR where
 E:Int
 S:List zn
 d:yx
theorem zig {b o:Nat} (h:Kept V w (λw=>∃u,w.cell? ⟨b,o,none⟩=some u)):¬V b:=λj=>by
 have f:Fr V w {w with heap:=w.heap.setIfInBounds b (.cells #[] 0 (0,0))}:=⟨rfl,rfl,rfl,by simp,λk l g=>by
  have:b≠k:=λe=>g (e▸j)
  simp[Array.getElem?_setIfInBounds_ne this]⟩
 obtain⟨u,i⟩:=h _ f
 have a:b<w.heap.size:=by
  obtain⟨m,c⟩:=h.now
  exact World.block_lt_of_cell? w _ c
 have d:({w with heap:=w.heap.setIfInBounds b (.cells #[] 0 (0,0))}:World).heap[b]? =some (.cells #[] 0 (0,0)):=by simp[a]
 have:=zv d
 simp[World.cell?,a] at i
theorem zai {α:Type} {k:Nat} {q:World→α→List Value→Prop} {L:List α} (D:0<k) (n:∀w d cs,q w d cs→cs.length=k) (h:Kept V w (λw=>qG k q w v L)) {i:Nat} {d:α} (x:L[i]? =some d):
  ∃b off cap cs,v=.slice (some ⟨b,off,none⟩) L.length cap∧¬V b∧q w d cs∧Kept V w (λw=>w.rangeAt b (off+i*k) cs∧q w d cs):=by
 obtain⟨b,off,cap,cs,rfl,F,t⟩:=h.now.at_ x
 have l:∀w',Fr V w w'→∃a,w'.rangeAt b (off+i*k) a∧q w' d a:=λw' f=>by
  obtain⟨G,y,s,a,e,g,c⟩:=(h w' f).at_ x
  injection e with e1 e2 e3
  injection e1 with e1
  injection e1 with e1 e4
  subst e1
  subst e4
  exact⟨a,g,c⟩
 have nV:¬V b:=zig (o:=off+i*k) λw' f=>by
  obtain⟨a,g,c⟩:=l w' f
  have E:=n _ _ _ c
  cases a with
  |nil=>simp at E;omega
  |cons u r=>exact⟨u,g 0 u rfl⟩
 refine⟨b,off,cap,cs,rfl,nV,t,λw' f=>?_⟩
 obtain⟨a,g,c⟩:=l w' f
 have:a=cs:=by
  have A:=n _ _ _ t
  have B:=n _ _ _ c
  apply List.ext_getElem (by rw[A,B])
  intro j C m
  have z:=f.cell (F j _ (getElem?_eq_getElem m)) nV
  have p:=g j _ (getElem?_eq_getElem C)
  rw[z] at p
  exact(Option.some.inj p).symm
 subst this
 exact⟨g,c⟩
theorem zeY:(prog.info? 201).map (λi=>(i.zero,i.size,i.bytes))=some (some (.agg #[.slice none 0 0,.slice none 0 0]),2,48):=by kernel_rfl
theorem zdm:(prog.info? 201).map (λi=>(i.zero,i.size))=some (some (.agg #[.slice none 0 0,.slice none 0 0]),2):=by kernel_rfl
theorem vI:(prog.info? 201).map (·.size)=some 2:=by kernel_rfl
theorem zg6:∃d,prog.underlying 201=some d∧d.isRow=true:=jR (by kernel_rfl)
theorem zbB:prog.underlying 140=some (.slice 201):=by kernel_rfl
theorem zhE (w:World):(zeroValue 201).run prog w=.ok (.agg #[.slice none 0 0,.slice none 0 0]) w:=by kernel_rfl
theorem za6 {l:List zx} (h:w.ownsRow B 56 33 v l.length (l.flatMap zm)) (ok:∀x∈l,x.ok) (a:∀j,v.ownBlock=some j→¬V j):Kept V w (λw=>vw w v l):=
 λw' f=>⟨ok,(zb h f a).slice.arg⟩
structure vo (w0 w:World) (p s:Nat) (U:Nat→Prop) (mi:Nat) (bv:Value) (css:List (List Value)) (D:ChD):Prop where
 obj:w.heap[p]? =some (.cells #[.pointer (some ⟨s,0,none⟩),bv,.map (some mi)] 137 (0,0))
 set:CS w0 w s U D.S
 row:w.ownsRow w0.heap.size 142 5 bv D.bs.length (css.flatMap id)
 cl:css.length=D.bs.length
 c5:∀cs∈css,cs.length=5
 data:∀(i:Nat) (d:yx) (cs:List Value),D.bs[i]? =some d→css[i]? =some cs→Kept (chV p U mi bv) w (λw=>jG w d cs)
 map:zi3 w mi D.M
 pm:p≠mi
 up:¬U p
 um:¬U mi
 rn:∀k,bv.ownBlock=some k→k≠p∧k≠mi∧¬U k
 lo1:w0.heap.size≤p
 lo2:w0.heap.size≤mi
section
variable {w0 w w':World} {p s mi:Nat} {U:Nat→Prop} {bv:Value} {css:List (List Value)} {D:ChD}
theorem vo.fr (h:vo w0 w p s U mi bv css D):Fr No w0 w:=h.set.fr
theorem vo.lo (h:vo w0 w p s U mi bv css D):∀j,chV p U mi bv j→w0.heap.size≤j:=by
 intro j a
 rcases a with rfl|a|rfl|a
 ·exact h.lo1
 ·exact h.set.lo j a
 ·exact h.lo2
 ·exact(h.row.lt j a).1
theorem vo.hi (h:vo w0 w p s U mi bv css D):∀j,chV p U mi bv j→j<w.heap.size:=by
 intro j a
 rcases a with rfl|a|rfl|a
 ·exact yr h.obj
 ·exact h.set.hi j a
 ·exact h.map.lt
 ·exact(h.row.lt j a).2
theorem vo.frV (h:vo w0 w p s U mi bv css D) {W:Nat→Prop} (f:Fr W w w') (a:∀j,chV p U mi bv j→¬W j) (c:∀j,W j→w0.heap.size≤j) (e:∀(i:Nat) (d:yx) (cs:List Value),D.bs[i]? =some d→css[i]? =some cs→Kept (chV p U mi bv) w' (λw=>jG w d cs)):vo w0 w' p s U mi bv css D:=
 {h with
  obj:=f.obj h.obj (a _ (.inl rfl))
  set:=h.set.frV f (λj b=>a j (.inr (.inl b))) c
  row:=zb h.row f (λj b=>a j (.inr (.inr (.inr b))))
  data:=e
  map:=h.map.keep f (a _ (.inr (.inr (.inl rfl))))}
theorem vo.fr0 (h:vo w0 w p s U mi bv css D) (f:Fr No w w'):vo w0 w' p s U mi bv css D:=
 h.frV f (λ_ _=>id) (λ_ h=>h.elim) (λi d cs a b=>(h.data i d cs a b).same f.of0)
theorem vo.setS (h:vo w0 w p s U mi bv css D) {b:List zn} (g:CS w0 w' s U b) (f:Fr U w w'):vo w0 w' p s U mi bv css ⟨b,D.bs,D.M⟩:=
 {h with
  obj:=f.obj h.obj h.up
  set:=g
  row:=zb h.row f (λj a=>(h.rn j a).2.2)
  data:=λi d cs c e=>(h.data i d cs c e).same (f.mono (λj a=>.inr (.inl a)))
  map:=h.map.keep f h.um}
theorem vo.cells (h:vo w0 w p s U mi bv css D):w.cell? ⟨p,0,none⟩=some (.pointer (some ⟨s,0,none⟩))∧w.cell? ⟨p,1,none⟩=some bv∧w.cell? ⟨p,2,none⟩=some (.map (some mi)):=by
 have:=zv h.obj
 exact⟨by simpa using this 0 _ rfl,by simpa using this 1 _ rfl,by simpa using this 2 _ rfl⟩
end
def Ch (w0 w:World) (p:Nat) (V:Nat→Prop) (D:ChD):Prop:=∃s U mi bv css,vo w0 w p s U mi bv css D∧V=chV p U mi bv
theorem Ch.fr0 {w0 w w':World} {p:Nat} {D:ChD} (h:Ch w0 w p V D) (f:Fr No w w'):Ch w0 w' p V D:=by
 obtain⟨s,U,mi,bv,css,h,e⟩:=h
 exact⟨s,U,mi,bv,css,h.fr0 f,e⟩
theorem Ch.fr {w0 w:World} {p:Nat} {D:ChD} (h:Ch w0 w p V D):Fr No w0 w:=by
 obtain⟨s,U,mi,bv,css,h,e⟩:=h
 exact h.fr
theorem Ch.lo {w0 w:World} {p:Nat} {D:ChD} (h:Ch w0 w p V D):∀j,V j→w0.heap.size≤j:=by
 obtain⟨s,U,mi,bv,css,h,rfl⟩:=h
 exact h.lo
theorem zf3 {w0 w:World} {p:Nat} {D:ChD} (h:Ch w0 w p V D) {q:zx} (v:q.ok):Calls prog 23 #[.pointer (some ⟨p,0,none⟩),.agg (zm q).toArray] w λe w'=>e=.returned (.tuple #[.agg (zF (zZ D.S q)).toArray,.bool (yV D.S q)])∧Fr No w w':=by
 obtain⟨s,U,mi,bv,css,h,-⟩:=h
 obtain⟨H,F,E⟩:=YT
 have M:=y3
 have A:=Hd (zW v)
 have k:=Hd (qB h.set.ok q)
 have c:=Hd (yq k.o)
 have u:Fr No w ((w.alloc (.cells (zm q).toArray 56)).alloc (.cells (zF xN).toArray 58)).drew:=(((frN w).alloc _).alloc _).drew
 have z:=Hd (λw' (f:Fr No w w')=>zgk (h.set.fr0 f) v)
 have a:Fr No (w.alloc (.cells (zm q).toArray 56)) ((w.alloc (.cells (zm q).toArray 56)).alloc (.cells (zF xN).toArray 58)).drew:=((frN _).alloc _).drew
 have g:=Hd (λw' (f:Fr No w w')=>(h.fr0 f).cells.1)
 have t:=Hd (za (zq w (zm q) 56) a id)
 have B2:=Hd ((frN _).drew.obj (yU (w.alloc (.cells (zm q).toArray 56)) (.cells (zF xN).toArray 58) (n:=w.heap.size+1) (by simp)) id)
 have j:=Hd u
 clear h u a
 go_enter Tryz.func23,Tryz.ntmps23
 go_wp2_with fail
 generalize ((w.alloc (.cells (zm q).toArray 56)).alloc (.cells (zF xN).toArray 58))=L at*
 refine wrLx [ff,ff,ff,ff,ff,tt,ff,ff,tt,ff] (λw'=>w'.cell? ⟨p,0,none⟩=some (.pointer (some ⟨s,0,none⟩))∧w'.rangeAt w.heap.size 0 (zm q)) ?_ (λK hK=>?_)
 ·exact⟨g.o _ j.o,t.o⟩
 repeat((first|(refine zk rfl ?_;constructor;constructor;(focus(first|exact znZ rfl (λw h=>h.2) A.o|(rintro w' ⟨x,y⟩;exact goS))))|(refine zl rfl ?_));try simp only[Act.put,pA,pB,pC])
 (refine zM rfl (λK' hK'=>?_))
 go_simp
 refine(z.o _ j.o).mono ?_
 rintro e G ⟨rfl,d⟩
 have m:=Hd (j.o.trans0 d)
 have l:=Hd (d.obj B2.o id)
 have r:=Hd (za t.o d id)
 clear d
 generalize C:zZ D.S q=X at*
 generalize B:yV D.S q=I at*
 refine nXt hK' ?_ λhS=>?_
 ·exact⟨g.o _ m.o,r.o⟩
 try simp only[Act.put,pA,pB,pC]
 repeat((first|(refine zk rfl ?_;constructor;constructor;(focus(first|(rintro w' ⟨x,y⟩;exact goS))))|(refine zl rfl ?_));try simp only[Act.put,pA,pB,pC])
 (refine zM rfl (λK' hK'=>?_))
 refine xp (zU (ty:=58) (b:=w.heap.size+1) (off:=0) (cs:=zF X) rfl rfl rfl (by rw[c.o];exact yb l.o (le_of_eq yQ.symm)) (by rw[c.o];exact yW) yd) ?_
 have o:=@Hd (Fr No w (G.setCells (w.heap.size+1) 0 (zF X))) (m.o.trans (zy _ _ _ _) (λi hi e=>by omega))
 refine nXt hK' ?_ λhS=>?_
 ·exact⟨g.o _ o.o,za r.o (zy _ _ _ _) (λe=>by omega)⟩
 try simp only[Act.put,pA,pB,pC]
 repeat((first|(refine zk rfl ?_;constructor;constructor;(focus(first|(rintro w' ⟨x,y⟩;exact goS))))|(refine zl rfl ?_));try simp only[Act.put,pA,pB,pC])
 refine zN (hK.out _ _ ?_)
 go_wp2_with fail
 refine bodyPost_ret (yt (P:=prog) (fn:=Tryz.f23) rfl _ rfl (yB l.o (by rw[c.o];exact yQ)) F E (by rw[c.o];exact yW) rfl) rfl ⟨by rw[C,B];rfl,o.o⟩
theorem zfz (w:World):(Instr.makeMap 129 none).run prog w=.ok (.map (some w.heap.size)) (w.alloc (.map #[] 0)):=by kernel_rfl
theorem zjb (s m:Nat) (w:World):(Instr.build 137 #[(0,.pointer (some ⟨s,0,none⟩)),(2,.map (some m))]).run prog w=.ok (.agg #[.pointer (some ⟨s,0,none⟩),.slice none 0 0,.map (some m)]) w:=by kernel_rfl
def zf2 (l:List yC):ChD:=⟨jQ [] (Zn yT l),[],[]⟩
theorem zhQ (w:World) {l:List yC} (c:xg w v l) (y:l.length≤256):
  Calls prog 44 #[v] w λe w'=>∃p,e=.returned (.tuple #[.pointer (some ⟨p,0,none⟩),.int .i64 0])∧∃V,Ch w w' p V (zf2 l):=by
 have O:decide ((256:Int)<(l.length:Int))=false:=by simp;omega
 have B:=Hd (zae w qY c (by omega))
 have H:=Hd (zad qY c.1 (by omega))
 have A:=Hd y
 obtain⟨R,S,rfl⟩:=c.2.form
 clear c y
 go_enter Tryz.func44,Tryz.ntmps44
 have⟨C,D,E,F⟩:=tZ4
 go_wp2_with ((first|((with_reducible refine zt ?_);first|(clear C;with_reducible refine yg 10 ?_;refine zg rfl (yv (t:=45) rfl rfl (Xw _)) ?_)|(clear F;with_reducible refine yg 18 ?_;refine zg rfl (yv (t:=137) rfl rfl (zjb _ _ _)) ?_))|(clear D;go_at_call 80;refine B.o.mono ?_;rintro e z ⟨M,rfl,n,r⟩;have g:=Hd r;have G:=@Hd (vt z M (Zn yT l)) (⟨H.o,by rw[qZ];exact n.slice.arg⟩);obtain⟨P,Q,m⟩:=n.slice.arg.form;subst m;clear n r)|(clear E;go_at_call 79;refine(zlV w z g.o G.o (by rw[qZ];have:=A.o;omega) (Xd _ _)).mono ?_;rintro e a ⟨s,rfl,U,b,u,K⟩;have f:=Hd b;have q:=Hd u;clear b u K;have L:=zfz a));go_frame)
 have I:=(frN a).alloc (.map #[] 0)
 have x:=(frN (a.alloc (.map #[] 0))).alloc (.cells #[.pointer (some ⟨s,0,none⟩),.slice none 0 0,.map (some a.heap.size)] 137)
 have N:(a.alloc (.map #[] 0)).heap.size=a.heap.size+1:=by simp
 have j:=ye (a.alloc (.map #[] 0)) (.cells #[.pointer (some ⟨s,0,none⟩),.slice none 0 0,.map (some a.heap.size)] 137)
 have o:=@Hd (vo w _ (a.alloc (.map #[] 0)).heap.size s U a.heap.size (.slice none 0 0) [] (zf2 l)) ({obj:=j,set:=(f.o.fr0 I).fr0 x,row:=World.ownsRow_nil _ _ _ 5,cl:=rfl,c5:=(λcs h=>by cases h),data:=(λi d cs h=>by simp[zf2] at h),map:=(show zi3 (a.alloc (.map #[] 0)) a.heap.size [] from yI.made a).keep x id,pm:=(by omega),up:=(λh=>by have:=f.o.hi _ h;omega),um:=(λh=>by have:=f.o.hi _ h;omega),rn:=(λk h=>by cases h),lo1:=(by have:=g.o.size;have:=q.o.size;omega),lo2:=(by have:=g.o.size;have:=q.o.size;omega)})
 rw[N] at o
 go_ret2
 exact⟨_,rfl,_,_,_,_,_,_,o.o,rfl⟩
end Go.Proofs.YtbcllfjmabiafaaGreatDoor
