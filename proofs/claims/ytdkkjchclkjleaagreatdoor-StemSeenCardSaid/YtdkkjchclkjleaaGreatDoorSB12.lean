/- tx.Same of what is the same. -/
import Derived.Laws.BytesArg
import Derived.Laws.BytesString
import Derived.Laws.Strings
import Derived.Test.YtdkkjchclkjleaaGreatDoorSB10
import Derived.Test.YtdkkjchclkjleaaGreatDoorSB11
import Derived.Test.YtdkkjchclkjleaaGreatDoorSB2
set_option linter.unusedVariables false
set_option linter.unusedSimpArgs false
set_option linter.unnecessarySimpa false
set_option linter.all false
set_option maxRecDepth 20000
set_option maxHeartbeats 16000000
namespace Go.Proofs.YtdkkjchclkjleaaGreatDoor
open Go Go.RowKit Go.Maps Go.MapKept
open Go.Proofs.Tryz(prog)
open Nat(le_refl zero_le le_trans lt_of_lt_of_le)
open List(getElem?_eq_getElem)
theorem X6 {a b:Option Addr} {n m c d:Nat} (h:Value.slice a n c=.slice b m d):a=b∧n=m∧c=d:=by
 injection h with h1 h2 h3
 exact⟨h1,h2,h3⟩
theorem zlK {x:Int} (h:0≤x∧x≤18446744073709551615):(Lit.int .u64 x).wf=true:=by
 simp[Lit.wf,IntKind.min,IntKind.max,IntKind.signed,IntKind.bits]
 omega
theorem zaw:qy prog 103=[(48,0,true),(41,1,true)]:=by kernel_rfl
theorem zh4 {o:yI} (h:o.ok) (d:Nat):∀x∈qy prog 103,∃l,prog.keyLits (d+2) x.1 (((zF o).drop x.2.1).take (prog.cellsOf x.1))=some l:=by
 rw[zaw]
 intro x a
 simp only[List.mem_cons,List.not_mem_nil,or_false] at a
 rcases a with rfl|rfl
 ·have e:((zF o).drop 0).take (prog.cellsOf 48)=[.int .u64 o.value]:=by
   rw[show prog.cellsOf 48=1 by kernel_rfl];rfl
  simp only[e]
  exact⟨_,Zy (by kernel_rfl) _ (zlK h.1)⟩
 ·have e:((zF o).drop 1).take (prog.cellsOf 41)=o.lock.map zN:=by
   rw[show prog.cellsOf 41=32 by kernel_rfl]
   show(o.lock.map zN).take 32=o.lock.map zN
   rw[List.take_of_length_le (by simp[h.2.1])]
  simp only[e]
  exact zbI h.2 d
theorem zcS {o:yI} (h:o.ok):∃l,keyOf prog 103 (zdF o)=some l:=by
 have a:prog.types.size=prog.types.size-2+2:=by kernel_rfl
 refine Zk zaw (by simp) (by decide) (by kernel_rfl) (cs:=zF o) (by rw[yw h];kernel_rfl) ?_
 rw[a,←zaw]
 exact zh4 h _
theorem zmz:EqN prog 103:=⟨Keyed.of_law (deep_law_laid Xl (m:=3) (by decide) (of_decide_eq_true (by kernel_rfl)) (by kernel_rfl) (by kernel_rfl)),⟨3,by decide,by kernel_rfl⟩,by kernel_rfl,by kernel_rfl⟩
theorem zkp:prog.underlying 9=some .string:=by kernel_rfl
theorem zko:prog.underlying 106=some (.slice 5):=by kernel_rfl
theorem zkq:prog.underlying 5=some (.int .u8):=by kernel_rfl
theorem zhy (w:World) (a:Option Addr) (c:Nat):(convert 106 9 (.slice a 0 c)).run prog w=.ok (.string (strOfNums [])) w:=by
 rw[run_convert_bytes_string w 106 9 5 a 0 c zko zkq zkp]
 cases a<;>simp[Conv.bytesToString,loadCells]
 all_goals rfl
theorem zek {w:World} {a:Option Addr} {n c:Nat} {k:List Int} (h:xh w (.slice a n c) n (k.map zN)) (f:k.length=n):(convert 106 9 (.slice a n c)).run prog w=.ok (.string (strOfNums k)) w:=by
 rcases Nat.eq_zero_or_pos n with hn|hn
 ·subst hn
  have g:k=[]:=List.eq_nil_of_length_eq_zero f
  rw[g]
  exact zhy w a c
 ·rcases h with(⟨e,j,-⟩|⟨b,off,d,e,m,o,l,p⟩)|⟨a',d,e,j,-⟩
  ·omega
  ·injection e with e1 j e3
   subst e1 e3
   exact run_convert_bytes_arg (P:=prog) w 106 5 zko zkq b off n _ k f (λi hi=>by
    have:=l i (zN (k.getD i 0)) (by rw[List.getElem?_map,getElem?_eq_getElem (by omega)];simp[f,hi])
    exact this) 9 zkp
  ·omega
theorem zdo (w:World) {a b:Option Addr} {c d:Nat} {k:List Int} (f:xh w (.slice a k.length c) k.length (k.map zN)) (g:xh w (.slice b k.length d) k.length (k.map zN)):
  Calls prog 68 #[.slice a k.length c,.slice b k.length d] w λe w'=>e=.returned (.bool true)∧Fr No w w':=by
 have h:=zek f rfl
 have i:=zek g rfl
 clear f g
 generalize strOfNums k=s at*
 go_enter Tryz.func68,Tryz.ntmps68
 go_wp2_with fail
 go_ret
 exact⟨by simp,Fr.refl _ _⟩
theorem zep (w:World) {u v:Value} {l:List yI} (a:xj w u l) (p:xj w v l) (I:l.length≤1000):
  Calls prog 67 #[u,v] w λe w'=>e=.returned (.bool true)∧Fr No w w':=by
 obtain⟨H,y,t⟩:=YE
 obtain⟨O,P,rfl⟩:=a.2.form
 obtain⟨Q,R,rfl⟩:=p.2.form
 have s:=J a
 have B:=J p
 clear a p
 go_enter Tryz.func67,Tryz.ntmps67
 go_wp2_with fail
 go_loopw [13] (λq wr=>∃n:Nat,q=.int .i64 n∧n≤l.length∧Fr No w wr) (λq _=>l.length-(intOf q).toNat)
 case atStart=>exact⟨0,rfl,zero_le _,Fr.refl _ _⟩
 case round=>
  obtain⟨n,rfl,L,fr⟩:=hrel
  have g:=J fr
  clear fr
  by_cases m:n<l.length
  ·have C:(n:Int)<(l.length:Int):=by omega
   obtain⟨x,a⟩:∃x,l[n]? =some x:=⟨_,getElem?_eq_getElem m⟩
   obtain⟨bx,D,F,d,b,-⟩:=(s.o.keep g.o).at_ a
   obtain⟨k,E,G,f,c,-⟩:=(B.o.keep g.o).at_ a
   obtain⟨rfl,-,rfl⟩:=X6 d
   obtain⟨rfl,-,rfl⟩:=X6 f
   have j:=J (s.o.1 x (List.mem_of_getElem? a))
   have r:=J (yw j.o)
   have i:=J ((frN wr).drew)
   have z:=J (za b i.o id)
   have A:=J (za c i.o id)
   clear b c d f a
   go_wp2_with fail
   refine wrLx [ff,ff,ff,ff,ff,ff,ff,ff,ff] (λW=>W.rangeAt bx (D+n*33) (zF x)∧W.rangeAt k (E+n*33) (zF x)) ?_ (λK hK=>?_)
   ·exact⟨z.o,A.o⟩
   repeat((first|(refine zl rfl ?_;constructor;constructor;(focus(first|exact yY (ty:=103) rfl (λw h=>h.1) y t (by rw[r.o];exact yG)|exact yY (ty:=103) rfl (λw h=>h.2) y t (by rw[r.o];exact yG)|exact λw' h=>zmz.exec_neq (u:=(zF x).toArray) (v:=(zF x).toArray) rfl rfl rfl (zcS j.o) (zcS j.o) true ⟨λ_=>rfl,λ_=>rfl⟩ w'|(rintro w' ⟨M,N⟩;go_simp;(try with_reducible rfl);done))))|(refine zm rfl ?_));try simp only[Act.put,pA,pB,pC])
   refine zL (hK.out _ _ ?_)
   go_wp2_with fail
   go_roundw
   case rel=>exact⟨n+1,by go_num,by omega,g.o.trans0 i.o⟩
   case measure=>simp[intOf];omega
  ·have o:n=l.length:=by omega
   have C:¬(n:Int)<(l.length:Int):=by omega
   clear o
   go_wp2_with fail
   go_ret
   exact⟨rfl,g.o⟩
theorem zil (w:World) {t:TxD} {cs ds:List Value} (P:TxQ w t cs) (hy:TxQ w t ds) (hI:t.ins.length≤1000) (hO:t.outs.length≤1000):
  Calls prog 34 #[.agg cs.toArray,.agg ds.toArray] w λe w'=>e=.returned (.bool true)∧Fr No w w':=by
 obtain⟨d,g,k,l,rfl,-,xi,xo⟩:=P
 obtain⟨ja,Q,qa,qc,rfl,-,yi,yo⟩:=hy
 have zI:=ZY
 have zO:=xb
 have f1:Fr No w (w.alloc (.cells #[.int .u32 t.ver,.slice d t.ins.length g,.slice k t.outs.length l] 34)):=(frN w).alloc _
 have F:Fr No (w.alloc (.cells #[.int .u32 t.ver,.slice d t.ins.length g,.slice k t.outs.length l] 34)) ((w.alloc (.cells #[.int .u32 t.ver,.slice d t.ins.length g,.slice k t.outs.length l] 34)).alloc (.cells #[.int .u32 t.ver,.slice ja t.ins.length Q,.slice qa t.outs.length qc] 34)):=(frN _).alloc _
 obtain⟨a0,a1,a2,-⟩:=vj w t.ver (.slice d t.ins.length g) (.slice k t.outs.length l)
 obtain⟨b0,X,b2,-⟩:=vj (w.alloc (.cells #[.int .u32 t.ver,.slice d t.ins.length g,.slice k t.outs.length l] 34)) t.ver (.slice ja t.ins.length Q) (.slice qa t.outs.length qc)
 rw[show(w.alloc (.cells #[.int .u32 t.ver,.slice d t.ins.length g,.slice k t.outs.length l] 34)).heap.size=w.heap.size+1 by simp] at b0 X b2
 have c1:=F.cell a1 _root_.id
 have c2:=F.cell a2 _root_.id
 have S:=J X
 have c:=J (f1.trans0 F)
 have T:=J (xi.keep0 c.o)
 have U:=J (yi.keep0 c.o)
 have XO:=J (xo.keep c.o)
 have YO:=J (yo.keep c.o)
 clear f1 xi yi xo yo a1 a2
 have c0:=F.cell a0 _root_.id
 clear a0 F
 show Calls prog 34 #[.agg #[.int .u32 t.ver,.slice d t.ins.length g,.slice k t.outs.length l],.agg #[.int .u32 t.ver,.slice ja t.ins.length Q,.slice qa t.outs.length qc]] w _
 go_enter Tryz.func34,Tryz.ntmps34
 have V:=tru
 go_wp2_with (clear V;go_at_call 67;refine(zep _ XO.o YO.o hO).mono ?_;rintro e w3 ⟨rfl,Y⟩;have s:=J Y;have d1:=Y.cell c1 _root_.id;clear Y;go_frame)
 have r:=J (c.o.trans0 s.o)
 have D:=J (T.o.keep0 s.o)
 have E:=J (U.o.keep0 s.o)
 have q:=J (s.o.cell S.o _root_.id)
 clear T U S c s XO YO
 have c:=r
 have T:=D
 have U:=E
 have S:=q
 clear r D E q
 generalize w3=w2 at*
 clear d1
 clear c0 c1 c2 b0 X b2
 go_loopw [32] (λiv wr=>∃n:Nat,iv=.int .i64 n∧n≤t.ins.length∧Fr No w2 wr) (λiv _=>t.ins.length-(intOf iv).toNat)
 case atStart=>exact⟨0,rfl,zero_le _,Fr.refl _ _⟩
 case round=>
  obtain⟨n,rfl,hn,fr⟩:=hrel
  have y:=J fr
  clear fr
  by_cases I:n<t.ins.length
  ·have i1:(n:Int)<(t.ins.length:Int):=by omega
   obtain⟨x,P⟩:∃x,t.ins[n]? =some x:=⟨_,getElem?_eq_getElem I⟩
   obtain⟨bx,ox,cx,xs,N,L,i,j,rfl,b,G⟩:=(T.o.keep0 y.o).at_ P
   obtain⟨a,o,cy,ys,O,M,ma,mc,rfl,-,H⟩:=(U.o.keep0 y.o).at_ P
   obtain⟨rfl,-,rfl⟩:=X6 N
   obtain⟨rfl,-,rfl⟩:=X6 O
   have C:=J b
   have PL:=J (zY b)
   have IL:=J (vp b (.slice i x.key.length j))
   have R1:=J L
   have R2:=J (zeD M b)
   have KX:=J G
   have KY:=J H
   have m:=J ((frN wr).alloc (.cells (inC x.from_ (.slice i x.key.length j)).toArray 108))
   have B:=J (Xk wr (p:=x.from_) (kv:=.slice i x.key.length j) b)
   clear L M G H N O P b
   have⟨V,K1⟩:=tZ2
   go_wp2_with ((first|((with_reducible refine zt ?_);clear V;refine znZ rfl rfl rfl R1.o IL.o ?_)|((with_reducible refine zx ?_);clear K1;refine zn8 (w:=wr) (cs:=inC x.from_ (.slice i x.key.length j)) rfl rfl rfl rfl IL.o Jf ?_;generalize wr.alloc (.cells (inC x.from_ (.slice i x.key.length j)).toArray 108)=R at*));go_frame)
   have SD:=J (λ(W:World) (f:Fr No R W)=>(⟨za B.o.1 f _root_.id,f.cell B.o.2 _root_.id,((y.o.trans0 m.o).trans0 f).cell S.o _root_.id,za R2.o.1 (m.o.trans0 f) _root_.id,(m.o.trans0 f).cell R2.o.2 _root_.id⟩:W.rangeAt wr.heap.size 0 (zn x.from_)∧W.cell? ⟨wr.heap.size,33,none⟩=some (.slice i x.key.length j)∧W.cell? ⟨w.heap.size+1,1,none⟩=some (.slice (some ⟨a,o,none⟩) t.ins.length Q)∧W.rangeAt a (o+n*34) (zn x.from_)∧W.cell? ⟨a,o+n*34+33,none⟩=some (.slice ma x.key.length mc)))
   have A:=@J (Fr No R R.drew) ((frN R).drew)
   refine wrLx [ff,ff,ff,ff,ff,ff,ff,ff,ff,ff,ff,ff,ff,ff,ff,ff,ff,ff,tt,ff,ff] (λW=>W.rangeAt wr.heap.size 0 (zn x.from_)∧W.cell? ⟨wr.heap.size,33,none⟩=some (.slice i x.key.length j)∧W.cell? ⟨w.heap.size+1,1,none⟩=some (.slice (some ⟨a,o,none⟩) t.ins.length Q)∧W.rangeAt a (o+n*34) (zn x.from_)∧W.cell? ⟨a,o+n*34+33,none⟩=some (.slice ma x.key.length mc)) ?_ (λK hK=>?_)
   ·exact SD.o _ A.o
   generalize R.drew=z at*
   repeat((first|(refine zl rfl ?_;constructor;constructor;(focus(first|exact zn5 rfl (λw h=>h.1) PL.o|exact zn5 rfl (λw h=>h.2.2.2.1) PL.o|exact λw' h=>Jv.exec_neq (u:=(zn x.from_).toArray) (v:=(zn x.from_).toArray) rfl rfl rfl (qn C.o) (qn C.o) true ⟨λ_=>rfl,λ_=>rfl⟩ w'|(rintro w' ⟨s1,s2,s3,s4,s5⟩;go_simp;(try with_reducible rfl);done))))|(refine zm rfl ?_));try simp only[Act.put,pA,pB,pC])
   (refine zJ rfl (λK' hK'=>?_))
   go_simp
   refine(zdo z (KX.o.2.keep (m.o.trans0 A.o)) (KY.o.2.keep (m.o.trans0 A.o))).mono ?_
   rintro e w5 ⟨rfl,f5⟩
   have F5:=J f5
   clear f5
   refine nXt hK' ?_ λhS=>?_
   ·exact SD.o _ (A.o.trans0 F5.o)
   try simp only[Act.put,pA,pB,pC]
   repeat((first|(refine zl rfl ?_;constructor;constructor;(focus(first|(rintro w' ⟨s1,s2,s3,s4,s5⟩;go_simp;(try with_reducible rfl);done))))|(refine zm rfl ?_));try simp only[Act.put,pA,pB,pC])
   refine zL (hK.out _ _ ?_)
   go_wp2_with fail
   go_roundw
   case rel=>exact⟨n+1,by go_num,by omega,(y.o.trans0 m.o).trans0 (A.o.trans0 F5.o)⟩
   case measure=>simp[intOf];omega
  ·have Z:n=t.ins.length:=by omega
   subst Z
   clear I hn
   have i1:¬(t.ins.length:Int)<(t.ins.length:Int):=by omega
   go_wp2_with fail
   go_ret
   exact⟨rfl,c.o.trans0 y.o⟩
def Zb:zd:=xV []
def exA:TxD:=⟨0,[⟨⟨yO,0⟩,[]⟩],[⟨400,Zb⟩]⟩
def exB:TxD:=⟨1,[⟨⟨yO,0⟩,[]⟩],[⟨400,yO⟩]⟩
def exD:TxD:=⟨0,[⟨⟨idH exA,0⟩,[]⟩],[⟨300,yO⟩]⟩
def exS:List zr:=jP [] (ZF yO [⟨500,Zb⟩])
def eA:StE:=⟨idH exA,exA⟩
def eB:StE:=⟨idH exB,exB⟩
def eD:StE:=⟨idH exD,exD⟩
set_option maxRecDepth 100000
theorem ex1:jW exS [] [] [] exA=0:=by decide+kernel
theorem ex2:jW exS [] [] [eA] exB=14:=by decide+kernel
theorem ex3:jW exS [] [] [] exB=0:=by decide+kernel
theorem ex4:jW exS [] [] [] exD=15:=by decide+kernel
theorem ex5:jW exS [] [] [eA] exD=0:=by decide+kernel
theorem ex6:qj [eA,eD] (idH exD)=[idH exD,idH exA]:=by decide+kernel
theorem ex7:idE exA=0:=by decide+kernel
theorem ex8:idE exD=0:=by decide+kernel
theorem ex9:jI [eA,eD] (idH exD)=[eA,eD]∧Qo [eA,eD] (idH exD)=[]:=by
 unfold jI Qo
 rw[ex6]
 simp[eA,eD]
theorem zaE {P:Program} {t:TypeId} {n:Nat} {b:List (Nat×Nat)} {vs:List (Nat×Value)} {z:Value} (h:xB P t=some (n,b)) (a:(P.info? t).bind (·.zero)=some z) (c:Js (b.toArray[·]?) 0 vs) (e:(xz vs).length≤z.cells.size):P.built t vs=some (xz vs++z.cells.toList.drop (xz vs).length).toArray:=by
 unfold xB at h
 unfold Program.built
 cases hi:P.info? t with
 |none=>simp[hi] at h
 |some it=>
  cases hu:P.underlying t with
  |none=>simp[hi,hu] at h
  |some d=>
   cases d<;>try(simp[hi,hu] at h;done)
   rename_i fs
   rw[hi] at a
   simp only[Option.bind_some] at a
   cases hp:fs.toList.mapM (λf=>(P.info? f.type).map λi=>(f.offset,i.size)) with
   |none=>simp[hi,hu,a,hp] at h
   |some places=>
    simp[hi,hu,a,hp] at h
    obtain⟨rfl,rfl⟩:=h
    simp only[a,hp]
    have:=Vi (places.toArray[·]?) vs [] z.cells.toList c (by rw[Array.length_toList];exact e)
    simp only[List.nil_append,Array.toArray_toList] at this
    rw[this]
theorem zfw {x I B y p:World} {H o ps ma ms g m n:Nat} {s c:Nat→Prop} {q:List zr} (b:Gd I B H s q q []) (O:Fr No x I) (z:Fr No B y) (v:∀j,poV o ma ms c j→B.heap.size≤j) (u:∀X:Nat→Prop,(∀j,poV o ma ms c j→X j)→∀C,yp x y o ma ms g c X C [] 0)
  (A:Fr No y p) (l:∀j,stV ps m n RZ0 j→y.heap.size≤j) (w:∀X:Nat→Prop,(∀j,stV ps m n RZ0 j→X j)→∀C,yM x p ps m n RZ0 X C (λ_=>[])):
  ∃T:Nat→Prop,(∀X:Nat→Prop,(∀j,T j→X j)→(∀j,X j→j<p.heap.size)→WS x p H o ps T X 0 ⟨q,q,[],[],λ_=>[]⟩)∧∀j,T j→I.heap.size≤j∧j<p.heap.size:=by
 obtain⟨css,K⟩:=b.x
 have F:=K.cl
 have E:css=[]:=List.eq_nil_of_length_eq_zero F
 subst E
 have M:=u (poV o ma ms c) (λ_ h=>h) (λ_=>[])
 have t:∀j,poV o ma ms c j→j<y.heap.size:=M.hi
 have N:=w (stV ps m n RZ0) (λ_ h=>h) (λ_ _=>[])
 have G:∀j,stV ps m n RZ0 j→j<p.heap.size:=N.hi
 have a:∀j,s j→j<B.heap.size:=b.hi
 refine⟨wT s o ma ms c ps m n RZ0,λX D Q=>⟨s,[],ma,ms,g,c,λ_=>[],m,n,RZ0,λ_ _=>[],?_,rfl⟩,λj k=>?_⟩
 ·have L:CX x p H s X q q [] []:=zml ⟨(K.fr0 z).fr0 A,b.srt0,b.ok0,b.len0,λi d cs f r=>by simp at f⟩ O
  exact
   {ch:=L
    po:=(u X (λj k=>D j (.inr (.inl k))) _).fr0 A
    st:=w X (λj k=>D j (.inr (.inr k))) _
    cp:=λj f r=>by have:=a j f;have:=v j r;omega
    csd:=λj f r=>by have:=a j f;have:=l j r;have:=z.size;omega
    psd:=λj f r=>by have:=t j f;have:=l j r;omega
    cx:=λj k=>D j (.inl k)
    xl:=Q
    val:=.nil
    l32:=by simp
    ad:=λe P=>by cases P}
 ·rcases k with e|e|e
  ·have:=a j e;have:=z.size;have:=A.size
   exact⟨b.lo j e,by omega⟩
  ·have:=t j e;have:=A.size;have:=v j e;have:=b.fr.size
   exact⟨by omega,by omega⟩
  ·have:=l j e;have:=b.fr.size;have:=z.size
   exact⟨by omega,G j e⟩
theorem zbF {a S:List zr} {Q:StQ} {n:Nat} (d:n<65) {l:List StE} (c:Q n=l) {t:TxD} (h:jW S [] [] l t=0):Jx ⟨a,S,[],[],Q⟩ n t=0∧Za ⟨a,S,[],[],Q⟩ n t=⟨a,S,[],[],jh Q n (l++[⟨idH t,t⟩])⟩:=by
 have hi:¬((n:Int)<0∨64<(n:Int)):=by omega
 subst c
 unfold Jx Za
 rw[if_neg hi,if_neg hi]
 dsimp only
 rw[Int.toNat_natCast]
 have b:jW S (yc []) [] (Q n) t=0:=h
 refine⟨b,?_⟩
 unfold Qj
 rw[if_pos b]
theorem zeG {a S:List zr} {Q:StQ} {n:Nat} (f:n<65) {l:List StE} (e:Q n=l) {t:TxD} {c:Int} (d:c≠0) (h:jW S [] [] l t=c):Jx ⟨a,S,[],[],Q⟩ n t=c∧Za ⟨a,S,[],[],Q⟩ n t=⟨a,S,[],[],Q⟩:=by
 have hi:¬((n:Int)<0∨64<(n:Int)):=by omega
 subst e
 unfold Jx Za
 rw[if_neg hi,if_neg hi]
 dsimp only
 rw[Int.toNat_natCast]
 have b:jW S (yc []) [] (Q n) t=c:=h
 refine⟨b,?_⟩
 unfold Qj
 rw[if_neg (by rw[b];exact d),zd0]
def zjj:StQ:=λ_=>[]
def zeq:StQ:=jh zjj 3 [eA]
def zer:StQ:=jh zeq 64 [eB]
def zad:StQ:=jh zer 3 [eA,eD]
def zdt:StQ:=jh zad 3 []
theorem zjl:jH zdt=[64]:=by
 have h:∀i∈List.range 65,decide (zdt i≠[])=decide (i=64):=by
  intro i _
  unfold zdt zad zer zeq zjj jh
  by_cases h3:i=3
  ·subst h3;simp
  ·by_cases h64:i=64
   ·subst h64;simp
   ·simp[h3,h64]
 unfold jH
 rw[List.filter_congr h]
 decide
theorem zc2:xB prog 103=some (33,[(0,1),(1,32)]):=by kernel_rfl
theorem zet (v:Int) {x:zd} (h:zW x):Js (([(0,1),(1,32)]:List (Nat×Nat)).toArray[·]?) 0 [(0,.int .u64 v),(1,.agg (zf x).toArray)]:=by
 have h:(Value.agg (zf x).toArray).cells.size=32:=by show(zf x).toArray.size=32;simpa using zu h
 exact⟨rfl,by rw[h];rfl,trivial⟩
theorem zc1 (v:Int) (x:zd):xz [(0,.int .u64 v),(1,.agg (zf x).toArray)]=zF ⟨v,x⟩:=by simp[xz,Value.cells,zF,zf]
theorem ziS (w:World):(Instr.build 108 #[]).run prog w=.ok (.agg (inC xI (.slice none 0 0)).toArray) w:=by kernel_rfl
theorem zkH (w:World):(Instr.build 103 #[(0,.int .u64 400)]).run prog w=.ok (.agg (zF ⟨400,yO⟩).toArray) w:=by kernel_rfl
theorem zkG (w:World):(Instr.build 103 #[(0,.int .u64 300)]).run prog w=.ok (.agg (zF ⟨300,yO⟩).toArray) w:=by kernel_rfl
theorem ziV (a b:Option Addr) (n c m d:Nat) (w:World):(Instr.build 34 #[(1,.slice a n c),(2,.slice b m d)]).run prog w=.ok (.agg [.int .u32 0,.slice a n c,.slice b m d].toArray) w:=by kernel_rfl
theorem zmj (a b:Option Addr) (n c m d:Nat) (w:World):(Instr.build 34 #[(0,.int .u32 1),(1,.slice a n c),(2,.slice b m d)]).run prog w=.ok (.agg [.int .u32 1,.slice a n c,.slice b m d].toArray) w:=by kernel_rfl
theorem zh9:xB prog 95=some (33,[(0,32),(32,1)]):=by kernel_rfl
theorem zlQ:(prog.info? 95).bind (·.zero)=some (.agg (zn xI).toArray):=by kernel_rfl
theorem zi1 {x:zd} (h:zW x):prog.built 95 [(0,.agg (zf x).toArray)]=some (zn ⟨x,0⟩).toArray:=by
 have a:(Value.agg (zf x).toArray).cells.size=32:=by show(zf x).toArray.size=32;simpa using zu h
 have e:xz [(0,.agg (zf x).toArray)]=zf x:=by simp[xz,Value.cells]
 have:=zaE (P:=prog) (t:=95) (vs:=[(0,.agg (zf x).toArray)]) zh9 zlQ ⟨by rw[a];rfl,trivial⟩ (by rw[e,zu h];decide)
 rw[this,e,zu h]
 rfl
theorem zh8:xB prog 108=some (34,[(0,33),(33,1)]):=by kernel_rfl
theorem zlO:(prog.info? 108).bind (·.zero)=some (.agg (inC xI (.slice none 0 0)).toArray):=by kernel_rfl
theorem ziZ {q:zE} (h:q.ok):prog.built 108 [(0,.agg (zn q).toArray)]=some (inC q (.slice none 0 0)).toArray:=by
 have a:(Value.agg (zn q).toArray).cells.size=33:=by show(zn q).toArray.size=33;simpa using zY h
 have e:xz [(0,.agg (zn q).toArray)]=zn q:=by simp[xz,Value.cells]
 have:=zaE (P:=prog) (t:=108) (vs:=[(0,.agg (zn q).toArray)]) zh8 zlO ⟨by rw[a];rfl,trivial⟩ (by rw[e,zY h];decide)
 rw[this,e,zY h]
 rfl
theorem zcY {w:World} {b:Nat} {o:yI} (h:w.heap[b]? =some (.cells (zF o).toArray 103 (0,0))) (ok:o.ok):xj w (.slice (some ⟨b,0,none⟩) 1 1) [o]:=
 ⟨λx a=>by simp at a;subst a;exact ok,.inl (.inr ⟨b,0,1,rfl,le_refl _,by decide,λj u c=>by
  have:=zq h j u (by simpa using c)
  simpa using this,yr h⟩)⟩
theorem zjn {w:World} {a b:Nat} {v:Int} {p:zE} {o:yI} (c:w.heap[a]? =some (.cells (inC p (.slice none 0 0)).toArray 108 (0,0))) (e:w.heap[b]? =some (.cells (zF o).toArray 103 (0,0))) (g:p.ok) (f:o.ok) (h:0≤v∧v≤4294967295):TxQ w ⟨v,[⟨p,[]⟩],[o]⟩ [.int .u32 v,.slice (some ⟨a,0,none⟩) 1 1,.slice (some ⟨b,0,none⟩) 1 1]:=by
 refine⟨some ⟨a,0,none⟩,1,some ⟨b,0,none⟩,1,rfl,h,?_,zcY e f⟩
 refine⟨some ⟨a,0,none⟩,1,rfl,by unfold maxLen;simp,λi d hi=>?_⟩
 cases i with
 |zero=>
  simp at hi
  subst hi
  refine⟨a,0,inC p (.slice none 0 0),rfl,by have:=zq c;simpa using this,none,0,rfl,g,by simp,?_⟩
  exact .inl (.inl ⟨rfl,rfl,rfl⟩)
 |succ i=>simp at hi
theorem zdu {w:World} {X:Nat→Prop} {a b:Nat} {v:Int} {p:zE} {o:yI} (c:w.heap[a]? =some (.cells (inC p (.slice none 0 0)).toArray 108 (0,0))) (d:w.heap[b]? =some (.cells (zF o).toArray 103 (0,0))) (g:p.ok) (e:o.ok) (h:0≤v∧v≤4294967295) (i:¬X a) (j:¬X b):Kept X w (λw=>TxQ w ⟨v,[⟨p,[]⟩],[o]⟩ [.int .u32 v,.slice (some ⟨a,0,none⟩) 1 1,.slice (some ⟨b,0,none⟩) 1 1]):=
 λ_ f=>zjn (f.obj c i) (f.obj d j) g e h
section
variable {w0 w w':World} {pc pp ps N N':Nat} {T X T' X':Nat→Prop} {A A':WA}
theorem xL.kept (n:xL w0 w w' pc pp ps T X N' A' T' X') (h:WS w0 w pc pp ps T X N A) {Q:World→Prop} (k:Kept X w Q):Kept X' w' Q:=
 k.step (n.fr.mono (λj a=>(h.facts.1 j a).2.2)) (λj a e=>(n.xn j e).resolve_right (by omega))
theorem xL.out (n:xL w0 w w' pc pp ps T X N' A' T' X') {b:Nat} (a:¬T b) (c:b<w.heap.size):¬T' b:=λe=>(n.tn b e).elim a (by omega)
end
def zdl (T:Nat→Prop) (w:World) (b:Nat) (cs:List Value):Prop:=w.rangeAt b 0 cs∧¬T b∧b<w.heap.size
theorem zdl.fr0 {T:Nat→Prop} {w w':World} {b:Nat} {cs:List Value} (h:zdl T w b cs) (f:Fr No w w'):zdl T w' b cs:=⟨za h.1 f id,h.2.1,lt_of_lt_of_le h.2.2 f.size⟩
theorem zdl.next {w0 w w':World} {pc pp ps N':Nat} {T X T' X':Nat→Prop} {A':WA} {b:Nat} {cs:List Value} (h:zdl T w b cs) (n:xL w0 w w' pc pp ps T X N' A' T' X'):zdl T' w' b cs:=⟨za h.1 n.fr h.2.1,n.out h.2.1 h.2.2,lt_of_lt_of_le h.2.2 n.fr.size⟩
theorem zny:Jx ⟨exS,exS,[],[],zjj⟩ 3 exA=0∧Za ⟨exS,exS,[],[],zjj⟩ 3 exA=⟨exS,exS,[],[],zeq⟩:=zbF (n:=3) (by decide) (l:=[]) rfl ex1
theorem znz:Jx ⟨exS,exS,[],[],zeq⟩ 3 exB=14∧Za ⟨exS,exS,[],[],zeq⟩ 3 exB=⟨exS,exS,[],[],zeq⟩:=zeG (n:=3) (by decide) (l:=[eA]) rfl (by decide) ex2
theorem znA:Jx ⟨exS,exS,[],[],zeq⟩ 64 exB=0∧Za ⟨exS,exS,[],[],zeq⟩ 64 exB=⟨exS,exS,[],[],zer⟩:=zbF (n:=64) (by decide) (l:=[]) rfl ex3
theorem znB:Jx ⟨exS,exS,[],[],zer⟩ 4 exD=15∧Za ⟨exS,exS,[],[],zer⟩ 4 exD=⟨exS,exS,[],[],zer⟩:=zeG (n:=4) (by decide) (l:=[]) rfl (by decide) ex4
theorem znC:Jx ⟨exS,exS,[],[],zer⟩ 3 exD=0∧Za ⟨exS,exS,[],[],zer⟩ 3 exD=⟨exS,exS,[],[],zad⟩:=zbF (n:=3) (by decide) (l:=[eA]) rfl ex5
theorem zjk:zad 3=[eA,eD]:=rfl
theorem zjm:jI (zad 3) (idH exD)=[eA,eD]∧jh zad 3 (Qo (zad 3) (idH exD))=zdt:=by
 rw[zjk,ex9.1,ex9.2]
 exact⟨rfl,rfl⟩
theorem zkT {w0 w:World} {pc pp ps N:Nat} {T X:Nat→Prop} (h:WS w0 w pc pp ps T X N ⟨exS,exS,[],[],zad⟩):
  Calls prog 14 #[.pointer (some ⟨ps,0,none⟩),.int .i64 3,.agg (zf (idH exD)).toArray] w λe w'=>∃g a cs,e=.returned (.tuple #[.slice (some ⟨g,0,none⟩) 2 a,.int .i64 0])∧w'.rangeAt g 0 cs∧TxQ w' exA cs∧∃T',xL w0 w w' pc pp ps T X N ⟨exS,exS,[],[],zdt⟩ T' X:=by
 have b:idH exD∈yv ((⟨exS,exS,[],[],zad⟩:WA).Q 3):=by
  show idH exD∈yv (zad 3)
  rw[zjk]
  simp[yv,eD]
 refine(zkk (n:=3) h (by decide) b).mono λe w' ⟨tv,m,r,l,c,T',_,k⟩=>?_
 have o:jI ((⟨exS,exS,[],[],zad⟩:WA).Q 3) (idH exD)=[eA,eD]:=zjm.1
 have p:jh (⟨exS,exS,[],[],zad⟩:WA).Q 3 (Qo ((⟨exS,exS,[],[],zad⟩:WA).Q 3) (idH exD))=zdt:=zjm.2
 rw[o] at l c
 rw[p] at k
 have j:=(c eA (by simp)).now
 have q:=(c eD (by simp)).now
 obtain⟨g,a,rfl,s,-⟩:=vU (f:=m) (L:=[eA,eD]) (i:=0) (x:=eA) (by decide) (λx d=>by
  rcases List.mem_cons.1 d with rfl|d
  ·exact(YQ j).1
  ·obtain rfl:=List.mem_singleton.1 d
   exact(YQ q).1) l rfl
 exact⟨g,a,m eA,r,by simpa using s,j,T',k⟩
theorem zmB {w0 w:World} {pc pp ps N:Nat} {T X:Nat→Prop} (h:WS w0 w pc pp ps T X N ⟨exS,exS,[],[],zdt⟩):
  Calls prog 13 #[.pointer (some ⟨ps,0,none⟩),.int .i64 3] w λe w'=>∃a c,e=.returned (.slice a 0 c)∧Fr No w w':=by
 refine(zgG (n:=3) h (by decide)).mono λe w' ⟨g,b,d,f⟩=>?_
 obtain⟨a,c,rfl⟩:=d.slice.arg.form
 exact⟨a,c,b,f⟩
theorem zmC {w0 w:World} {pc pp ps N:Nat} {T X:Nat→Prop} (h:WS w0 w pc pp ps T X N ⟨exS,exS,[],[],zdt⟩):
  Calls prog 21 #[.pointer (some ⟨ps,0,none⟩)] w λe w'=>∃a c,e=.returned (.slice a 1 c)∧Fr No w w':=by
 refine(zc8 h).mono λe w' ⟨i,g,b,f⟩=>?_
 have d:jH (⟨exS,exS,[],[],zdt⟩:WA).Q=[64]:=zjl
 rw[d] at b
 obtain⟨a,c,rfl⟩:=b.slice.arg.form
 exact⟨a,c,g,f⟩
theorem Vo:zW Zb:=Jp []
theorem zdK:xI.ok:=⟨xH,by decide,by decide⟩
theorem zl5:(⟨500,Zb⟩:yI).ok:=⟨by decide,Vo⟩
theorem zjK:(⟨400,Zb⟩:yI).ok:=⟨by decide,Vo⟩
theorem zl6:(⟨400,yO⟩:yI).ok:=⟨by decide,xH⟩
theorem zl7:(⟨300,yO⟩:yI).ok:=⟨by decide,xH⟩
theorem zgd:(⟨idH exA,0⟩:zE).ok:=⟨vx exA,by decide,by decide⟩
theorem zed {w:World} (hg:qR w):Calls prog 9 #[] w λe w'=>e=.returned (.bool true)∧Fr No w w':=by
 obtain⟨dT,uT,rT⟩:=zfQ
 have zh:=yP
 have zT:=show ∀w,(zeroValue 34).run prog w=.ok (.agg zfr.toArray) w from jq
 have F:=J hg
 have ae:=@J (∀w:World,xh w (.slice none 0 0) ([]:List Int).length (([]:List Int).map zN)) (λw=>.inl (.inl ⟨rfl,rfl,rfl⟩))
 have a6:=J (yw zl5)
 have a7:=J (yw zjK)
 have cp:=J (yw zl6)
 have cq:=J (yw zl7)
 have ay:=J (vp zdK (.slice none 0 0))
 have bA:=J (vp zgd (.slice none 0 0))
 have bk:=J (zu (vx exA))
 have bl:=J (zu (vx exD))
 clear hg
 go_enter Tryz.func9,Tryz.ntmps9
 have⟨K0,K1,K2,K3,K4,K5,K6,K7,K8,K9,bB,bC,bD,bE,bF,bG,bH,bI,bJ,bK,bL,bM,bN,bO,bP,bQ,bR,bS,bT,bU,bV,bW,bX,bY,bZ,b1,b2,b3,b4,b5,b6,b7,b8,b9,ca⟩:=tZ45
 go_wp2_with ((first|(clear K0;go_at_call 36;refine(zbJ F.o (ae.o _) (by decide)).mono ?_;rintro e w1 ⟨rfl,f1⟩;have F1:=J f1;clear f1)|(clear K3;go_at_call 35;refine(zl4 w2 (zcY bt.o zl5) (by decide)).mono ?_;rintro e w3 ⟨pc,rfl,VC,hc⟩;have HC:=J hc;have F3:=J (F2.o.trans0 hc.fr);clear hc)|(clear K4;go_at_call 37;refine(zl2 w w3 F3.o).mono ?_;rintro e w4 ⟨rfl,f4,ma,ms,g,VG,bo,bn⟩;have F4:=J (F3.o.trans0 f4);have PV:=J bo;have PO:=J bn;have FP:=J f4;clear bo bn f4;generalize cZ:w3.heap.size=pp at*)|(clear K5;go_at_call 38;refine(zl3 w w4 F4.o).mono ?_;rintro e w5 ⟨ps,ka,ks,rfl,f5,bq,bp⟩;have F5:=J (F4.o.trans0 f5);obtain⟨T,br,ar⟩:=zfw HC.o F2.o FP.o (λj hj=>by have:=PV.o j hj;omega) PO.o f5 bq bp;have cy:=J (br T (λ_ h=>h) (λj hj=>(ar j hj).2));have S5:=J (frN w5);have I:=J (λj hj=>(ar j hj).2);clear br ar f5 bq bp HC PV PO FP)|(clear K8;go_at_call 36;refine(zbJ (F.o.keep0 F6.o) (ae.o _) (by decide)).mono ?_;rintro e w7 ⟨rfl,f7⟩;have F7:=J (F6.o.trans0 f7);have S7:=J (S6.o.trans0 f7);have b:=J (f7.obj b.o id);clear f7)|(clear bL;go_at_call 15;refine(QG (F.o.keep0 bx.o) TA.o).mono ?_;rintro e C ⟨rfl,n⟩;rw[ex7];have ct:=J (cr.o.trans0 n);have b:=J (n.obj b.o id);have c:=J (n.obj c.o id);have d:=J (n.obj d.o id);have f:=J (n.obj f.o id);have i:=J (n.obj i.o id);have k:=J (n.obj k.o id);clear n)|(clear bW;go_at_call 12;refine(zam (F.o.keep0 v.o.facts.2.2.1) v.o 3 Y.o).mono ?_;rintro e c0 ⟨rfl,cM,cS,l⟩;rw[zny.1];rw[zny.2] at l;have x:=J l.ws;have aB:=J (l.kept v.o Y.o);have aN:=J (af.o.next l);have Z:=J (l.kept v.o az.o);have ag:=J (aV.o.next l);have aC:=J (l.kept v.o aA.o);have aY:=J (aX.o.next l);clear l)|(clear bY;go_at_call 12;refine(zam (F.o.keep0 x.o.facts.2.2.1) x.o 3 Z.o).mono ?_;rintro e c3 ⟨rfl,cN,cT,m⟩;rw[znz.1];rw[znz.2] at m;have L:=J m.ws;have aD:=J (m.kept x.o aB.o);have aO:=J (aN.o.next m);have aE:=J (m.kept x.o Z.o);have aW:=J (ag.o.next m);have aF:=J (m.kept x.o aC.o);have aZ:=J (aY.o.next m);clear m)|(clear b1;go_at_call 12;refine(zam (F.o.keep0 L.o.facts.2.2.1) L.o 64 aE.o).mono ?_;rintro e c4 ⟨rfl,cO,cU,p⟩;rw[znA.1];rw[znA.2] at p;have M:=J p.ws;have aG:=J (p.kept L.o aD.o);have aP:=J (aO.o.next p);have ab:=J (p.kept L.o aF.o);have ah:=J (aZ.o.next p);clear p)|(clear b3;go_at_call 12;refine(zam (F.o.keep0 M.o.facts.2.2.1) M.o 4 ab.o).mono ?_;rintro e c7 ⟨rfl,cP,cV,q⟩;rw[znB.1];rw[znB.2] at q;have O:=J q.ws;have aH:=J (q.kept M.o aG.o);have aQ:=J (aP.o.next q);have ad:=J (q.kept M.o ab.o);have ai:=J (ah.o.next q);clear q)|(clear b5;go_at_call 12;refine(zam (F.o.keep0 O.o.facts.2.2.1) O.o 3 ad.o).mono ?_;rintro e c8 ⟨rfl,cQ,cW,r⟩;rw[znC.1];rw[znC.2] at r;have bf:=J r.ws;have aI:=J (r.kept O.o aH.o);have aR:=J (aQ.o.next r);have aJ:=J (r.kept O.o ad.o);have a1:=J (ai.o.next r);clear r)|(clear b7;go_at_call 15;refine(QG (F.o.keep0 bf.o.facts.2.2.1) aJ.o.now).mono ?_;rintro e E ⟨rfl,P⟩;rw[ex8];have cv:=J (bf.o.fr0 P);have aK:=J (aI.o.same P.of0);have aS:=J (aR.o.fr0 P);clear P)|(clear ca;go_at_call 14;refine(zkT bg.o).mono ?_;rintro e bs ⟨g,cX,cs,rfl,hg,hq,cR,R⟩;obtain⟨ja,jc,ka,kc,cz⟩:=hq.form;subst cz;have RG:=J hg;have HQ:=J hq;have cw:=J R.ws;have aM:=J (R.kept bg.o aL.o);have aU:=J (aT.o.next R);clear hg hq R)|((with_reducible refine zt ?_);first|(clear K1;refine zg rfl (yR (t:=103) rfl rfl zc2 (zet _ Vo) (zc1 _ _) a6.o) ?_)|(clear K2;refine zg rfl (zU (t:=22) (cs:=zF ⟨500,Zb⟩) rfl rfl qF Jl (by rw[←yz];rfl) (by decide) (by decide) a6.o) ?_;generalize cA:w1.heap.size=b0 at*;have bt:=J (yL w1 (.cells (zF ⟨500,Zb⟩).toArray 103) cA.symm);have F2:=J (F1.o.alloc (.cells (zF ⟨500,Zb⟩).toArray 103));generalize w1.alloc (.cells (zF ⟨500,Zb⟩).toArray 103)=w2 at*)|(clear K6;with_reducible refine yu 37 ?_;refine zg rfl (yf (t:=108) rfl rfl (ziS _)) ?_)|(clear K7;refine zg rfl (zU (t:=32) (cs:=inC xI (.slice none 0 0)) rfl rfl Xv Vl rfl (by decide) (by decide) ay.o) ?_;generalize cF:w5.heap.size=y at*;have b:=J (yL w5 (.cells (inC xI (.slice none 0 0)).toArray 108) cF.symm);have F6:=J (F5.o.alloc (.cells (inC xI (.slice none 0 0)).toArray 108));have S6:=J (S5.o.alloc (.cells (inC xI (.slice none 0 0)).toArray 108));have cg:=@J (¬T y) (λe=>by have:=I.o _ e;have:=S5.o.size;omega);have a:=J ((frN w5).alloc (.cells (inC xI (.slice none 0 0)).toArray 108));clear a;generalize w5.alloc (.cells (inC xI (.slice none 0 0)).toArray 108)=w6 at*)|(clear K9;refine zg rfl (yR (t:=103) rfl rfl zc2 (zet _ Vo) (zc1 _ _) a7.o) ?_)|(clear bB;refine zg rfl (zU (t:=22) (cs:=zF ⟨400,Zb⟩) rfl rfl qF Jl (by rw[←yz];rfl) (by decide) (by decide) a7.o) ?_;generalize cI:w7.heap.size=z at*;have c:=J (yL w7 (.cells (zF ⟨400,Zb⟩).toArray 103) cI.symm);have F8:=J (F7.o.alloc (.cells (zF ⟨400,Zb⟩).toArray 103));have S8:=J (S7.o.alloc (.cells (zF ⟨400,Zb⟩).toArray 103));have ck:=@J (¬T z) (λe=>by have:=I.o _ e;have:=S7.o.size;omega);have a:=J ((frN w7).alloc (.cells (zF ⟨400,Zb⟩).toArray 103));have b:=J (a.o.obj b.o id);clear a;generalize w7.alloc (.cells (zF ⟨400,Zb⟩).toArray 103)=w8 at*)|(clear bC;with_reducible refine yu 42 ?_;refine zg rfl (yf (t:=34) rfl rfl (ziV _ _ _ _ _ _ _)) ?_)|(clear bE;with_reducible refine yu 43 ?_;refine zg rfl (yf (t:=108) rfl rfl (ziS _)) ?_)|(clear bF;refine zg rfl (zU (t:=32) (cs:=inC xI (.slice none 0 0)) rfl rfl Xv Vl rfl (by decide) (by decide) ay.o) ?_;generalize cG:w9.heap.size=Q at*;have f:=J (yL w9 (.cells (inC xI (.slice none 0 0)).toArray 108) cG.symm);have bu:=J (F9.o.alloc (.cells (inC xI (.slice none 0 0)).toArray 108));have a8:=J (S9.o.alloc (.cells (inC xI (.slice none 0 0)).toArray 108));have ch:=@J (¬T Q) (λe=>by have:=I.o _ e;have:=S9.o.size;omega);have a:=J ((frN w9).alloc (.cells (inC xI (.slice none 0 0)).toArray 108));have b:=J (a.o.obj b.o id);have c:=J (a.o.obj c.o id);have d:=J (a.o.obj d.o id);clear a;generalize w9.alloc (.cells (inC xI (.slice none 0 0)).toArray 108)=U at*)|(clear bG;with_reducible refine yu 45 ?_;refine zg rfl (yf (t:=103) rfl rfl (zkH _)) ?_)|(clear bH;refine zg rfl (zU (t:=22) (cs:=zF ⟨400,yO⟩) rfl rfl qF Jl (by rw[←yz];rfl) (by decide) (by decide) cp.o) ?_;generalize cJ:U.heap.size=S at*;have i:=J (yL U (.cells (zF ⟨400,yO⟩).toArray 103) cJ.symm);have bw:=J (bu.o.alloc (.cells (zF ⟨400,yO⟩).toArray 103));have ba:=J (a8.o.alloc (.cells (zF ⟨400,yO⟩).toArray 103));have cm:=@J (¬T S) (λe=>by have:=I.o _ e;have:=a8.o.size;omega);have a:=J ((frN U).alloc (.cells (zF ⟨400,yO⟩).toArray 103));have b:=J (a.o.obj b.o id);have c:=J (a.o.obj c.o id);have d:=J (a.o.obj d.o id);have f:=J (a.o.obj f.o id);clear a;generalize U.alloc (.cells (zF ⟨400,yO⟩).toArray 103)=B at*)|(clear bI;with_reducible refine yu 47 ?_;refine zg rfl (yf (t:=34) rfl rfl (zmj _ _ _ _ _ _ _)) ?_)|(clear bK;refine zn0 rfl rfl rfl LD.o rfl ?_)|(clear bN;refine zn2 rfl rfl rfl LH.o bk.o ?_)|(clear bO;with_reducible refine yu 54 ?_;refine zg rfl (Xi (t:=95) rfl rfl (zi1 (vx exA))) ?_)|(clear bP;with_reducible refine yu 55 ?_;refine zg rfl (Xi (t:=108) rfl rfl (ziZ zgd)) ?_)|(clear bQ;refine zg rfl (zU (t:=32) (cs:=inC ⟨idH exA,0⟩ (.slice none 0 0)) rfl rfl Xv Vl rfl (by decide) (by decide) bA.o) ?_;generalize cH:V.heap.size=i3 at*;have u:=J (yL V (.cells (inC ⟨idH exA,0⟩ (.slice none 0 0)).toArray 108) cH.symm);have bc:=J (bb.o.alloc (.cells (inC ⟨idH exA,0⟩ (.slice none 0 0)).toArray 108));have cj:=@J (¬T i3) (λe=>by have:=I.o _ e;have:=bb.o.size;omega);have a:=J ((frN V).alloc (.cells (inC ⟨idH exA,0⟩ (.slice none 0 0)).toArray 108));have b:=J (a.o.obj b.o id);have c:=J (a.o.obj c.o id);have d:=J (a.o.obj d.o id);have f:=J (a.o.obj f.o id);have i:=J (a.o.obj i.o id);have k:=J (a.o.obj k.o id);have o:=J (a.o.obj o.o id);clear a;generalize V.alloc (.cells (inC ⟨idH exA,0⟩ (.slice none 0 0)).toArray 108)=W at*)|(clear bR;with_reducible refine yu 57 ?_;refine zg rfl (yf (t:=103) rfl rfl (zkG _)) ?_)|(clear bS;refine zg rfl (zU (t:=22) (cs:=zF ⟨300,yO⟩) rfl rfl qF Jl (by rw[←yz];rfl) (by decide) (by decide) cq.o) ?_;generalize cK:W.heap.size=o3 at*;have aj:=J (yL W (.cells (zF ⟨300,yO⟩).toArray 103) cK.symm);have bd:=J (bc.o.alloc (.cells (zF ⟨300,yO⟩).toArray 103));have cn:=@J (¬T o3) (λe=>by have:=I.o _ e;have:=bc.o.size;omega);have a:=J ((frN W).alloc (.cells (zF ⟨300,yO⟩).toArray 103));have b:=J (a.o.obj b.o id);have c:=J (a.o.obj c.o id);have d:=J (a.o.obj d.o id);have f:=J (a.o.obj f.o id);have i:=J (a.o.obj i.o id);have k:=J (a.o.obj k.o id);have o:=J (a.o.obj o.o id);have u:=J (a.o.obj u.o id);clear a;generalize W.alloc (.cells (zF ⟨300,yO⟩).toArray 103)=D at*)|(clear bT;with_reducible refine yu 59 ?_;refine zg rfl (yf (t:=34) rfl rfl (ziV _ _ _ _ _ _ _)) ?_)|(clear bV;refine zn0 rfl rfl rfl af.o.1 rfl ?_)|(clear bX;refine xP rfl (ya (ty:=34) rfl rfl ag.o.1 uT rT y3) ?_)|(clear bZ;refine xP rfl (ya (ty:=34) rfl rfl aW.o.1 uT rT y3) ?_)|(clear b2;refine xP rfl (ya (ty:=34) rfl rfl ah.o.1 uT rT y3) ?_)|(clear b4;refine xP rfl (ya (ty:=34) rfl rfl ai.o.1 uT rT y3) ?_)|(clear b6;refine zn0 rfl rfl rfl a1.o.1 rfl ?_)|(clear b9;refine zn2 rfl rfl rfl LX.o bl.o ?_))|((with_reducible refine zx ?_);first|(clear bD;refine zi rfl (zj (w:=w8) (ty:=34) (cs:=[.int .u32 0,.slice (some ⟨y,0,none⟩) 1 1,.slice (some ⟨z,0,none⟩) 1 1]) rfl rfl rfl rfl y3 (qX rfl rfl rfl)) ?_;generalize cB:w8.heap.size=c5 at*;have d:=J (yL w8 (.cells ([.int .u32 0,.slice (some ⟨y,0,none⟩) 1 1,.slice (some ⟨z,0,none⟩) 1 1]).toArray 34) cB.symm);have F9:=J (F8.o.alloc (.cells ([.int .u32 0,.slice (some ⟨y,0,none⟩) 1 1,.slice (some ⟨z,0,none⟩) 1 1]).toArray 34));have S9:=J (S8.o.alloc (.cells ([.int .u32 0,.slice (some ⟨y,0,none⟩) 1 1,.slice (some ⟨z,0,none⟩) 1 1]).toArray 34));have cc:=@J (¬T c5) (λe=>by have:=I.o _ e;have:=S8.o.size;omega);have a:=J ((frN w8).alloc (.cells ([.int .u32 0,.slice (some ⟨y,0,none⟩) 1 1,.slice (some ⟨z,0,none⟩) 1 1]).toArray 34));have b:=J (a.o.obj b.o id);have c:=J (a.o.obj c.o id);clear a;generalize w8.alloc (.cells ([.int .u32 0,.slice (some ⟨y,0,none⟩) 1 1,.slice (some ⟨z,0,none⟩) 1 1]).toArray 34)=w9 at*)|(clear bJ;refine zi rfl (zj (w:=B) (ty:=34) (cs:=[.int .u32 1,.slice (some ⟨Q,0,none⟩) 1 1,.slice (some ⟨S,0,none⟩) 1 1]) rfl rfl rfl rfl y3 (qX rfl rfl rfl)) ?_;generalize cC:B.heap.size=c6 at*;have k:=J (yL B (.cells ([.int .u32 1,.slice (some ⟨Q,0,none⟩) 1 1,.slice (some ⟨S,0,none⟩) 1 1]).toArray 34) cC.symm);have bx:=J (bw.o.alloc (.cells ([.int .u32 1,.slice (some ⟨Q,0,none⟩) 1 1,.slice (some ⟨S,0,none⟩) 1 1]).toArray 34));have cr:=J (ba.o.alloc (.cells ([.int .u32 1,.slice (some ⟨Q,0,none⟩) 1 1,.slice (some ⟨S,0,none⟩) 1 1]).toArray 34));have cd:=@J (¬T c6) (λe=>by have:=I.o _ e;have:=ba.o.size;omega);have a:=J ((frN B).alloc (.cells ([.int .u32 1,.slice (some ⟨Q,0,none⟩) 1 1,.slice (some ⟨S,0,none⟩) 1 1]).toArray 34));have b:=J (a.o.obj b.o id);have c:=J (a.o.obj c.o id);have d:=J (a.o.obj d.o id);have f:=J (a.o.obj f.o id);have i:=J (a.o.obj i.o id);clear a;generalize B.alloc (.cells ([.int .u32 1,.slice (some ⟨Q,0,none⟩) 1 1,.slice (some ⟨S,0,none⟩) 1 1]).toArray 34)=cL at*;have LD:=J (zq d.o);have TA:=@J (TxQ cL exA [.int .u32 0,.slice (some ⟨y,0,none⟩) 1 1,.slice (some ⟨z,0,none⟩) 1 1]) (zjn b.o c.o zdK zjK (by decide)))|(clear bM;refine zoa (w:=C) (cs:=zf (idH exA)) rfl rfl rfl rfl bk.o zM ?_;generalize cE:C.heap.size=h7 at*;have o:=J (yL C (.cells (zf (idH exA)).toArray 41) cE.symm);have bb:=J (ct.o.alloc (.cells (zf (idH exA)).toArray 41));have a:=J ((frN C).alloc (.cells (zf (idH exA)).toArray 41));have b:=J (a.o.obj b.o id);have c:=J (a.o.obj c.o id);have d:=J (a.o.obj d.o id);have f:=J (a.o.obj f.o id);have i:=J (a.o.obj i.o id);have k:=J (a.o.obj k.o id);clear a;generalize C.alloc (.cells (zf (idH exA)).toArray 41)=V at*;have LH:=J (zq o.o))|(clear bU;refine zi rfl (zj (w:=D) (ty:=34) (cs:=[.int .u32 0,.slice (some ⟨i3,0,none⟩) 1 1,.slice (some ⟨o3,0,none⟩) 1 1]) rfl rfl rfl rfl y3 (qX rfl rfl rfl)) ?_;generalize cD:D.heap.size=c9 at*;have au:=J (yL D (.cells ([.int .u32 0,.slice (some ⟨i3,0,none⟩) 1 1,.slice (some ⟨o3,0,none⟩) 1 1]).toArray 34) cD.symm);have cu:=J (bd.o.alloc (.cells ([.int .u32 0,.slice (some ⟨i3,0,none⟩) 1 1,.slice (some ⟨o3,0,none⟩) 1 1]).toArray 34));have cf:=@J (¬T c9) (λe=>by have:=I.o _ e;have:=bd.o.size;omega);have a:=J ((frN D).alloc (.cells ([.int .u32 0,.slice (some ⟨i3,0,none⟩) 1 1,.slice (some ⟨o3,0,none⟩) 1 1]).toArray 34));have b:=J (a.o.obj b.o id);have c:=J (a.o.obj c.o id);have d:=J (a.o.obj d.o id);have f:=J (a.o.obj f.o id);have i:=J (a.o.obj i.o id);have k:=J (a.o.obj k.o id);have o:=J (a.o.obj o.o id);have u:=J (a.o.obj u.o id);have aj:=J (a.o.obj aj.o id);clear a;generalize D.alloc (.cells ([.int .u32 0,.slice (some ⟨i3,0,none⟩) 1 1,.slice (some ⟨o3,0,none⟩) 1 1]).toArray 34)=s at*;have ax:=cu;have v:=@J (WS w s pc pp ps T T 0 ⟨exS,exS,[],[],zjj⟩) (cy.o.fr0 ax.out);have Y:=@J (Kept T s (λw=>TxQ w exA [.int .u32 0,.slice (some ⟨y,0,none⟩) 1 1,.slice (some ⟨z,0,none⟩) 1 1])) (zdu b.o c.o zdK zjK (by decide) cg.o ck.o);have az:=@J (Kept T s (λw=>TxQ w exB [.int .u32 1,.slice (some ⟨Q,0,none⟩) 1 1,.slice (some ⟨S,0,none⟩) 1 1])) (zdu f.o i.o zdK zl6 (by decide) ch.o cm.o);have aA:=@J (Kept T s (λw=>TxQ w exD [.int .u32 0,.slice (some ⟨i3,0,none⟩) 1 1,.slice (some ⟨o3,0,none⟩) 1 1])) (zdu u.o aj.o zgd zl7 (by decide) cj.o cn.o);have af:=@J (zdl T s c5 [.int .u32 0,.slice (some ⟨y,0,none⟩) 1 1,.slice (some ⟨z,0,none⟩) 1 1]) (⟨zq d.o,cc.o,yr d.o⟩);have aV:=@J (zdl T s c6 [.int .u32 1,.slice (some ⟨Q,0,none⟩) 1 1,.slice (some ⟨S,0,none⟩) 1 1]) (⟨zq k.o,cd.o,yr k.o⟩);have aX:=@J (zdl T s c9 [.int .u32 0,.slice (some ⟨i3,0,none⟩) 1 1,.slice (some ⟨o3,0,none⟩) 1 1]) (⟨zq au.o,cf.o,yr au.o⟩))|(clear b8;refine zoa (w:=E) (cs:=zf (idH exD)) rfl rfl rfl rfl bl.o zM ?_;generalize bm:E.heap.size=cY at*;have a:=J ((frN E).alloc (.cells (zf (idH exD)).toArray 41));have av:=J (yL E (.cells (zf (idH exD)).toArray 41) bm.symm);generalize E.alloc (.cells (zf (idH exD)).toArray 41)=da at*;have bg:=J (cv.o.fr0 a.o);have aL:=J (aK.o.same a.o.of0);have aT:=J (aS.o.fr0 a.o);have LX:=J (zq av.o))));go_frame)
 have FD:=J (frN bs).drew
 have WD:=J (cw.o.fr0 FD.o)
 have H:=J (za RG.o FD.o id)
 have G:=J (za aU.o.1 FD.o id)
 have bz:=J (HQ.o.keep FD.o)
 have cb:=J (aM.o.now.keep FD.o)
 refine wrLx [ff,ff,ff,ff,ff,ff,ff,ff,ff,ff,ff,ff,tt,ff,ff,ff,tt,ff,ff,ff,ff,ff,tt,ff,ff,ff,ff] (λw'=>w'.rangeAt g 0 [.int .u32 exA.ver,.slice ja exA.ins.length jc,.slice ka exA.outs.length kc]∧w'.rangeAt c5 0 [.int .u32 0,.slice (some ⟨y,0,none⟩) 1 1,.slice (some ⟨z,0,none⟩) 1 1]) ?_ (λK hK=>?_)
 ·exact⟨H.o,G.o⟩
 generalize bs.drew=wd at*
 repeat((first|(refine zl rfl ?_;constructor;constructor;(focus(first|exact yY (ty:=34) rfl (λw h=>h.1) uT rT y3|exact yY (ty:=34) rfl (λw h=>h.2) uT rT y3|(rintro w' ⟨s1,s2⟩;go_simp;(try with_reducible rfl);done))))|(refine zm rfl ?_));try simp only[Act.put,pA,pB,pC])
 (refine zJ rfl (λK' hK'=>?_))
 go_simp
 refine(zil wd bz.o cb.o (by decide) (by decide)).mono ?_
 rintro e db ⟨rfl,an⟩
 have bh:=J (WD.o.fr0 an)
 have ak:=J an
 clear an
 refine nXt hK' ?_ λhS=>?_
 ·exact⟨za H.o ak.o id,za G.o ak.o id⟩
 try simp only[Act.put,pA,pB,pC]
 repeat((first|(refine zl rfl ?_;constructor;constructor;(focus(first|(rintro w' ⟨s1,s2⟩;go_simp;(try with_reducible rfl);done))))|(refine zm rfl ?_));try simp only[Act.put,pA,pB,pC])
 (refine zJ rfl (λK' hK'=>?_))
 go_simp
 refine(zmB bh.o).mono ?_
 rintro e dc ⟨aa,ac,rfl,ao⟩
 have bj:=J (bh.o.fr0 ao)
 have al:=J (ak.o.trans0 ao)
 clear ao
 refine nXt hK' ?_ λhS=>?_
 ·exact⟨za H.o al.o id,za G.o al.o id⟩
 try simp only[Act.put,pA,pB,pC]
 repeat((first|(refine zl rfl ?_;constructor;constructor;(focus(first|(rintro w' ⟨s1,s2⟩;go_simp;(try with_reducible rfl);done))))|(refine zm rfl ?_));try simp only[Act.put,pA,pB,pC])
 (refine zJ rfl (λK' hK'=>?_))
 go_simp
 refine(zmC bj.o).mono ?_
 rintro e dd ⟨sa,sc,rfl,aq⟩
 have cx:=J (bj.o.fr0 aq)
 have aw:=J (al.o.trans0 aq)
 clear aq
 refine nXt hK' ?_ λhS=>?_
 ·exact⟨za H.o aw.o id,za G.o aw.o id⟩
 try simp only[Act.put,pA,pB,pC]
 repeat((first|(refine zl rfl ?_;constructor;constructor;(focus(first|(rintro w' ⟨s1,s2⟩;go_simp;(try with_reducible rfl);done))))|(refine zm rfl ?_));try simp only[Act.put,pA,pB,pC])
 refine zL (hK.out _ _ ?_)
 go_wp2_with fail
 go_ret
 exact⟨rfl,cx.o.facts.2.2.1⟩
def jf (pc pp ps:Nat):List Value:=[.pointer (some ⟨pc,0,none⟩),.pointer (some ⟨pp,0,none⟩),.pointer (some ⟨ps,0,none⟩)]
theorem zdi (w:World):(zeroValue 29).run prog w=.ok (.agg #[.pointer none,.pointer none,.pointer none]) w:=by kernel_rfl
theorem ziW (a b c:Option Addr) (w:World):(Instr.build 29 #[(0,.pointer a),(1,.pointer b),(2,.pointer c)]).run prog w=.ok (.agg [.pointer a,.pointer b,.pointer c].toArray) w:=by kernel_rfl
theorem XT:(prog.info? 29).map (·.size)=some 3:=by kernel_rfl
def ziQ (first:List yI):List zr:=jP [] (ZF yO first)
theorem zfG {u w:World} (S:Fr No u w) {v:Value} {first:List yI} (V:xj w v first) (hN:first.length≤256):
  Calls prog 10 #[v] w λe w'=>∃c d ps T,e=.returned (.agg (jf c d ps).toArray)∧(∀X:Nat→Prop,(∀j,T j→X j)→(∀j,X j→T j∨j<w.heap.size)→WS u w' c d ps T X 0 ⟨ziQ first,ziQ first,[],[],λ_=>[]⟩)∧(∀j,T j→w.heap.size≤j)∧Fr No w w':=by
 have zw:=zdi
 have x:=J S
 have B:=J ((frN w).alloc (.cells #[.pointer none,.pointer none,.pointer none] 29))
 have Y:=J (ye w (.cells #[.pointer none,.pointer none,.pointer none] 29))
 have HC:=J (zl4 _ (V.keep B.o) hN)
 clear V S
 go_enter Tryz.func10,Tryz.ntmps10
 have⟨K0,K1,K2,K3,K4⟩:=tZ5
 go_wp2_with ((first|(clear K0;go_at_call 35;generalize G:w.heap.size=f at*;generalize r:w.alloc (.cells #[.pointer none,.pointer none,.pointer none] 29)=w1 at*;have R:=@J (w1.heap.size=f+1) (by rw[←r,←G];simp);clear r;refine HC.o.mono ?_;rintro e W ⟨c,rfl,VC,A⟩;have GC:=J A;have C:=J (B.o.trans0 A.fr);have Z:=J (A.fr.obj Y.o id);clear A)|(clear K1;go_at_call 37;refine(zl2 u W (x.o.trans0 C.o)).mono ?_;rintro e w4 ⟨rfl,y,ma,ms,g,VG,o,n⟩;have L:=J (C.o.trans0 y);have Q:=J o;have O:=J n;have M:=J y;have I:=J (y.obj Z.o id);clear o n y;generalize ab:W.heap.size=d at*)|(clear K2;go_at_call 38;refine(zl3 u w4 (x.o.trans0 L.o)).mono ?_;rintro e H ⟨ps,ka,ks,rfl,l,q,p⟩;have D:=J (L.o.trans0 l);obtain⟨T,s,m⟩:=zfw GC.o (x.o.trans0 B.o) M.o (λj a=>by have:=Q.o j a;omega) O.o l q p;have E:=J s;have k:=J m;have Z5:=@J (f<H.heap.size) (by have:=D.o.size;have:=R.o;have:=C.o.size;have z:=yr (l.obj I.o id);exact z);have K:=J (l.obj I.o id);clear s m l q p GC Q O M)|((with_reducible refine zt ?_);clear K3;refine zg rfl (yf (t:=29) rfl rfl (ziW _ _ _ _)) ?_)|((with_reducible refine zx ?_);clear K4;refine zi rfl (zK (ty:=29) (b:=f) (off:=0) (cs:=[.pointer (some ⟨c,0,none⟩),.pointer (some ⟨d,0,none⟩),.pointer (some ⟨ps,0,none⟩)]) rfl rfl rfl (zV K.o (le_refl 3)) XT (qX rfl rfl rfl)) ?_));go_frame)
 have BE:=ZP (cs:=[.pointer (some ⟨c,0,none⟩),.pointer (some ⟨d,0,none⟩),.pointer (some ⟨ps,0,none⟩)]) K.o rfl
 have F:=zv f [.pointer (some ⟨c,0,none⟩),.pointer (some ⟨d,0,none⟩),.pointer (some ⟨ps,0,none⟩)] 0 H
 have HW:=E.o
 have N:∀j,T j→f+1≤j:=λj a=>by have:=(k.o j a).1;have:=R.o;omega
 have aa:u.heap.size≤f:=by have:=x.o.size;omega
 have WE:=λ(X:Nat→Prop) (z:∀j,T j→X j) (h2:∀j,X j→T j∨j<w.heap.size)=>
  have U:∀j,X j→j<H.heap.size:=λj a=>(h2 j a).elim (λe=>(k.o j e).2) (λe=>by have:=D.o.size;omega)
  (HW (λj=>X j∨j=f) (λj h=>.inl (z j h)) (λj a=>a.elim (U j) (λe=>by rw[e];exact Z5.o))).frV (X':=X) F (λj a e=>by have:=N j a;omega) (λj e=>by omega) (λj e=>.inr e) (λj _ e=>.inl e) z (λj a=>lt_of_lt_of_le (U j a) F.size)
 refine bodyPost_ret (v:=.agg [.pointer (some ⟨c,0,none⟩),.pointer (some ⟨d,0,none⟩),.pointer (some ⟨ps,0,none⟩)].toArray) (results_cell_row (P:=prog) (fn:=Tryz.f10) rfl _ _ f 29 _ (0,0) _ rfl BE Tryz.underlying29 rfl XT) rfl ⟨c,d,ps,T,rfl,WE,λj a=>by have:=N j a;omega,D.o.trans F (λi hi e=>by omega)⟩
section
variable {w0 w w':World} {pc pp ps N N':Nat} {T X T' X':Nat→Prop} {A A':WA}
end
def FlA (w0 w:World) (c7 pc pp ps:Nat) (T X:Nat→Prop) (N:Nat) (A:WA):Prop:=
 WS w0 w pc pp ps T X N A∧(∀j,X j→w0.heap.size≤j)∧¬T c7∧w.heap[c7]? =some (.cells (jf pc pp ps).toArray 29 (0,0))
section
variable {w0 w w':World} {c7 pc pp ps N N':Nat} {T X T' X':Nat→Prop} {A A':WA}
theorem FlA.fr0 (h:FlA w0 w c7 pc pp ps T X N A) (f:Fr No w w'):FlA w0 w' c7 pc pp ps T X N A:=⟨h.1.fr0 f,h.2.1,h.2.2.1,f.obj h.2.2.2 id⟩
theorem FlA.next (h:FlA w0 w c7 pc pp ps T X N A) (n:xL w0 w w' pc pp ps T X N' A' T' X'):FlA w0 w' c7 pc pp ps T' X' N' A':=
 ⟨n.ws,λj a=>(n.xn j a).elim (h.2.1 j) (λe=>le_trans h.1.facts.2.2.1.size e),n.out h.2.2.1 (yr h.2.2.2),n.fr.obj h.2.2.2 h.2.2.1⟩
theorem FlA.cells (h:FlA w0 w c7 pc pp ps T X N A):w.cell? ⟨c7,0,none⟩=some (.pointer (some ⟨pc,0,none⟩))∧w.cell? ⟨c7,1,none⟩=some (.pointer (some ⟨pp,0,none⟩))∧w.cell? ⟨c7,2,none⟩=some (.pointer (some ⟨ps,0,none⟩)):=by
 have:=zq h.2.2.2
 exact⟨by simpa using this 0 _ rfl,by simpa using this 1 _ rfl,by simpa using this 2 _ rfl⟩
theorem FlA.fr (h:FlA w0 w c7 pc pp ps T X N A):Fr No w0 w:=h.1.facts.2.2.1
end
def Y3 (T:Nat→Prop) (w:World) (B:Nat) (ty:TypeId) (k:Nat) (v:Value) (n:Nat) (xs:List Value):Prop:=w.ownsRow B ty k v n xs∧∀j,v.ownBlock=some j→¬T j
theorem Y3.fr0 {T:Nat→Prop} {w w':World} {B k n:Nat} {ty:TypeId} {v:Value} {xs:List Value} (h:Y3 T w B ty k v n xs) (f:Fr No w w'):Y3 T w' B ty k v n xs:=⟨zb h.1 f (λ_ _=>id),h.2⟩
theorem Y3.next {w0 w w':World} {pc pp ps N':Nat} {T X T' X':Nat→Prop} {A':WA} {B k n:Nat} {ty:TypeId} {v:Value} {xs:List Value} (h:Y3 T w B ty k v n xs) (m:xL w0 w w' pc pp ps T X N' A' T' X'):Y3 T' w' B ty k v n xs:=
 ⟨zb h.1 m.fr h.2,λj a=>m.out (h.2 j a) (h.1.lt j a).2⟩
theorem Y3.new {w0 w:World} {pc pp ps N:Nat} {T X:Nat→Prop} {A:WA} {B k n:Nat} {ty:TypeId} {v:Value} {xs:List Value} {b:World} (h:WS w0 b pc pp ps T X N A) (a:w.ownsRow B ty k v n xs) (d:b.heap.size≤B):Y3 T w B ty k v n xs:=
 ⟨a,λj c e=>by have:=(h.facts.1 j e).2.1;have:=(a.lt j c).1;omega⟩
def xd (e:Int) (tv lv:Value):List Value:=[.int .i64 e,tv,lv]
theorem JM (w:World):(zeroValue 60).run prog w=.ok (.agg (xd 0 (.slice none 0 0) (.slice none 0 0)).toArray) w:=by kernel_rfl
theorem xY:(prog.info? 60).map (·.size)=some 3:=by kernel_rfl
section
variable {w0 w w' w3 w5 w6:World} {pc pp ps N:Nat} {T X T' X':Nat→Prop} {A A':WA} {c:Nat}
theorem xL.more (n:xL w0 w w' pc pp ps T X N A' T' X') {N':Nat} (h:N≤N'):xL w0 w w' pc pp ps T X N' A' T' X':={n with ws:=n.ws.more h}
theorem WS.into (h:WS w0 w pc pp ps T X N A) (b:Fr No w w3) (f:w.heap.size≤c) (d:c<w3.heap.size):WS w0 w3 pc pp ps T (λj=>X j∨j=c) N A:=
 h.frV b (λ_ _=>id) (λ_ h=>h.elim) (λ_ h=>h.elim) (λj a e=>e.resolve_right (by omega)) (λj a=>.inl (h.facts.1 j a).2.2) (λj a=>a.elim (λe=>lt_of_lt_of_le (h.facts.2.1 j e) b.size) (λe=>by omega))
theorem Kept.into {Q:World→Prop} (k:Kept X w Q) (a:Fr No w w3) (b:w.heap.size≤c):Kept (λj=>X j∨j=c) w3 Q:=k.step a.of0 (λj d e=>e.resolve_right (by omega))
theorem xL.ans (n:xL w0 w3 w5 pc pp ps T (λj=>X j∨j=c) N A' T' X') {f:Nat} (h:WS w0 w pc pp ps T X f A) (b:Fr No w w3) (k:w.heap.size≤c) (g:c<w3.heap.size) (d:Fr (λj=>j=c) w5 w6):xL w0 w w6 pc pp ps T X N A' T' X':=by
 have i:=h.facts.2.2.1.size
 refine⟨n.ws.frV d (λj a e=>?_) (λj e=>by omega) (λj e=>n.xx j (.inr e)) (λ_ _ h=>h) (λj a=>(n.ws.facts.1 j a).2.2) (λj a=>lt_of_lt_of_le (n.ws.facts.2.1 j a) d.size),((b.of0:Fr T w w3).trans n.fr (λ_ _ h=>h)).trans d (λj a e=>by omega),λj a=>(n.tn j a).imp_right (λe=>le_trans b.size e),λj a=>(n.xn j a).elim (λe=>e.elim .inl (λe=>.inr (by omega))) (λe=>.inr (le_trans b.size e)),λj a=>n.xx j (.inl a)⟩
 subst e
 exact(n.tn j a).elim (λe=>by have:=(h.facts.1 j e).2.1;omega) (λe=>by omega)
end
theorem xR (w:World) (d b a:Obj):(((w.alloc d).alloc b).alloc a).heap[w.heap.size]? =some d∧(((w.alloc d).alloc b).alloc a).heap[w.heap.size+1]? =some b∧(((w.alloc d).alloc b).alloc a).heap[w.heap.size+1+1]? =some a∧Fr No w (((w.alloc d).alloc b).alloc a)∧w.heap.size+1+1<(((w.alloc d).alloc b).alloc a).heap.size:=by
 refine⟨Jy (Jy (ye w d) b) a,Jy (yL _ b (by simp)) a,yL _ a (by simp),(((frN w).alloc d).alloc b).alloc a,by simp⟩
theorem qs {X:Nat→Prop} {w:World} {a:vI} {cs:List Value} (k:Kept X w (λw=>qJ w a cs)):∃d bcs,cs=Yb a.kind a.src d a.id bcs∧YZ a.src∧zW a.id∧d.length=3∧bcs.length=3∧Kept X w (λw=>TxQ w a.tx d)∧Kept X w (λw=>jr w a.blk bcs):=by
 obtain⟨t,b,rfl,o,p,j,q⟩:=k.now
 have h:∀w',Fr X w w'→TxQ w' a.tx t∧jr w' a.blk b:=λw' f=>by
  obtain⟨s,r,e,-,-,g,i⟩:=k w' f
  simp only[Yb,List.cons.injEq,true_and] at e
  obtain⟨l,m⟩:=List.append_inj e (by rw[j.len3,g.len3])
  have n:=List.append_cancel_left m
  subst l
  subst n
  exact⟨g,i⟩
 exact⟨t,b,rfl,o,p,j.len3,q.len3,λw' f=>(h w' f).1,λw' f=>(h w' f).2⟩
theorem Xz (e:Int) (w:World):(Instr.build 60 #[(0,.int .i64 e)]).run prog w=.ok (.agg (xd e (.slice none 0 0) (.slice none 0 0)).toArray) w:=by kernel_rfl
theorem zgI (e:Int) (a:Option Addr) (n c:Nat) (w:World):(Instr.build 60 #[(0,.int .i64 e),(1,.slice a n c)]).run prog w=.ok (.agg (xd e (.slice a n c) (.slice none 0 0)).toArray) w:=by kernel_rfl
theorem zkE (a:Option Addr) (n c:Nat) (w:World):(Instr.build 60 #[(2,.slice a n c)]).run prog w=.ok (.agg (xd 0 (.slice none 0 0) (.slice a n c)).toArray) w:=by kernel_rfl
def J0 (w:World) (v:Value) (l:List Nat):Prop:=xh w v l.length (l.map iV)
def YV (X:Nat→Prop) (w:World) (tv lv:Value) (ts:List TxD) (is:List Nat):Prop:=Kept X w (λw=>Ju w tv ts)∧Kept X w (λw=>J0 w lv is)
theorem zhf (w:World):Ju w (.slice none 0 0) []:=⟨none,0,rfl,zero_le _,λi d h=>by simp at h⟩
theorem zjz (w:World):J0 w (.slice none 0 0) []:=(World.ownsRow_nil w 0 3 1).slice.arg
theorem JI {X:Nat→Prop} {w:World}:YV X w (.slice none 0 0) (.slice none 0 0) [] []:=⟨λw' _=>zhf w',λw' _=>zjz w'⟩
theorem zlG {X:Nat→Prop} {w:World} {B:Nat} {v:Value} {l:List StE} {k:StE→List Value} (n:w.ownsRow B 34 3 v l.length (l.flatMap k)) (p:∀j,X j→j<B) (m:∀e∈l,Kept X w (λw=>TxQ w e.tx (k e))) (r:l.length≤maxLen):Kept X w (λw=>Ju w v (l.map (·.tx))):=λw' f=>by
 have b:=zb n f (λj q e=>by have:=(n.lt j q).1;have:=p j e;omega)
 obtain⟨a,c,rfl⟩:=b.slice.arg.form
 refine⟨a,c,by rw[List.length_map],by rw[List.length_map];exact r,λi d hi=>?_⟩
 rw[List.getElem?_map] at hi
 obtain⟨e,h,rfl⟩:=Option.map_eq_some_iff.1 hi
 obtain⟨g,o,t,s,-⟩:=vU (f:=k) (by decide) (λe h=>(m e h).now.len3) b h
 cases t
 exact⟨g,0,k e,rfl,by rw[Nat.zero_add];exact s,m e (List.mem_of_getElem? h) w' f⟩
theorem zjA {X:Nat→Prop} {w:World} {B:Nat} {v:Value} {l:List Nat} (a:w.ownsRow B 3 1 v l.length (l.map iV)) (b:∀j,X j→j<B):Kept X w (λw=>J0 w v l):=λw' f=>
 (zb a f (λj d e=>by have:=(a.lt j d).1;have:=b j e;omega)).slice.arg
section
variable {w0 w:World} {pc pp ps N:Nat} {T X:Nat→Prop} {A:WA}
theorem znS (F:qR w0) (h:WS w0 w pc pp ps T X N A) {a:vI} {cs:List Value} (E:Kept X w (λw=>qJ w a cs)) (G:a.kind=0):
  Calls prog 20 #[.agg (jf pc pp ps).toArray,.agg cs.toArray] w λe w'=>e=.returned (.agg (xd (Jx A a.src a.tx) (.slice none 0 0) (.slice none 0 0)).toArray)∧∃T' X',xL w0 w w' pc pp ps T X N (Za A a.src a.tx) T' X'∧YV X' w' (.slice none 0 0) (.slice none 0 0) [] []:=by
 obtain⟨l,C,D,m,s⟩:=xR w (.cells (jf pc pp ps).toArray 29) (.cells cs.toArray 57) (.cells (xd 0 (.slice none 0 0) (.slice none 0 0)).toArray 60)
 obtain⟨aa,bcs,g,j,i,f,p,kt,kb⟩:=qs E
 have d:=J (h.into (c:=w.heap.size+1+1) m (by omega) s)
 have y:=J (kt.into (c:=w.heap.size+1+1) m (by omega))
 have k:=J (jv (q:=w.heap.size+1) (by rw[←g];exact zq C) f i)
 have S:=J k.o.2.2.1
 have Y:=k.o.1
 have cS:=k.o.2.1
 have p0:=by simpa using zq l 0 _ rfl
 have p1:=by simpa using zq l 1 _ rfl
 have p2:=by simpa using zq l 2 _ rfl
 have u:=J D
 have I:=J m
 have B:=J s
 have n:=@J (w.heap.size≤w.heap.size+1+1) (by omega)
 have V:=J f
 have z:=J h
 have K:=J (F.keep0 d.o.facts.2.2.1)
 have zA:=JM
 clear h F E g j i f p kt kb l C D m s k
 rw[G] at Y
 clear G
 go_enter Tryz.func20,Tryz.ntmps20
 have⟨L,M,O,Q⟩:=tZ4
 go_wp2_with ((first|((with_reducible refine zt ?_);first|(clear L;refine zn0 rfl rfl rfl S.o V.o ?_;generalize w.heap.size+1+1=o at d y u B n⊢;generalize (((w.alloc (.cells (jf pc pp ps).toArray 29)).alloc (.cells cs.toArray 57)).alloc (.cells (xd 0 (.slice none 0 0) (.slice none 0 0)).toArray 60))=w3 at*)|(clear O;refine zg rfl (yf (t:=60) rfl rfl (Xz _)) ?_))|(clear M;go_at_call 12;refine(zam K.o d.o a.src y.o).mono ?_;rintro e w5 ⟨rfl,U,W,r⟩;have R:=J r;have x:=J (r.fr.obj u.o (λe=>by have:=(z.o.facts.1 _ e).2.1;have:=n.o;omega));clear r)|((with_reducible refine zx ?_);clear Q;refine zi rfl (zK (ty:=60) (b:=o) (off:=0) (cs:=xd (Jx A a.src a.tx) (.slice none 0 0) (.slice none 0 0)) rfl rfl rfl (zV x.o (le_refl 3)) xY (qX rfl rfl rfl)) ?_));go_frame)
 have H:=ZP (cs:=xd (Jx A a.src a.tx) (.slice none 0 0) (.slice none 0 0)) x.o rfl
 have Z:=zv o (xd (Jx A a.src a.tx) (.slice none 0 0) (.slice none 0 0)) 0 w5
 refine bodyPost_ret (v:=.agg (xd (Jx A a.src a.tx) (.slice none 0 0) (.slice none 0 0)).toArray) (results_cell_row (P:=prog) (fn:=Tryz.f20) rfl _ _ o 60 _ (0,0) _ rfl H Tryz.underlying60 rfl xY) rfl ⟨rfl,U,W,R.o.ans z.o I.o n.o B.o Z,JI⟩
theorem znt (hg:qR w0) (h:WS w0 w pc pp ps T X N A) {a:vI} {cs:List Value} (R:Kept X w (λw=>qJ w a cs)) (S:a.kind=1) {n:Nat} (U:a.src=(n:Int)) (hn:n<65) (k:a.id∈yv (A.Q n)):
  Calls prog 20 #[.agg (jf pc pp ps).toArray,.agg cs.toArray] w λe w'=>∃tv,e=.returned (.agg (xd 0 tv (.slice none 0 0)).toArray)∧∃T' X',xL w0 w w' pc pp ps T X N {A with Q:=jh A.Q n (Qo (A.Q n) a.id)} T' X'∧YV X' w' tv (.slice none 0 0) ((jI (A.Q n) a.id).map (·.tx)) []:=by
 obtain⟨r,L,M,z,F⟩:=xR w (.cells (jf pc pp ps).toArray 29) (.cells cs.toArray 57) (.cells (xd 0 (.slice none 0 0) (.slice none 0 0)).toArray 60)
 obtain⟨aa,bcs,i,m,g,o,B,kt,kb⟩:=qs R
 have d:=J (h.into (c:=w.heap.size+1+1) z (by omega) F)
 have p:=J (jv (q:=w.heap.size+1) (by rw[←i];exact zq L) o g)
 have RH:=J p.o.2.2.2.1
 have cK:=p.o.1
 have cS:=p.o.2.1
 have p0:=by simpa using zq r 0 _ rfl
 have p1:=by simpa using zq r 1 _ rfl
 have p2:=by simpa using zq r 2 _ rfl
 have G:=J M
 have W:=J z
 have K:=J F
 have x:=@J (w.heap.size≤w.heap.size+1+1) (by omega)
 have Z:=J (zu g)
 have I:=J h
 have zA:=JM
 clear h hg R i m g o B kt kb r L M z F p
 rw[S] at cK
 clear S
 rw[U] at cS
 have u:=J k
 clear U k
 go_enter Tryz.func20,Tryz.ntmps20
 have⟨K0,K1,K2,K3⟩:=tZ4
 go_wp2_with ((first|((with_reducible refine zt ?_);first|(clear K0;refine zn2 rfl rfl rfl RH.o Z.o ?_;generalize w.heap.size+1+1=y at d G K x⊢;generalize (((w.alloc (.cells (jf pc pp ps).toArray 29)).alloc (.cells cs.toArray 57)).alloc (.cells (xd 0 (.slice none 0 0) (.slice none 0 0)).toArray 60))=w3 at*)|(clear K2;refine zg rfl (yf (t:=60) rfl rfl (zgI _ _ _ _)) ?_))|(clear K1;go_at_call 14;refine(zkk d.o hn u.o).mono ?_;rintro e w5 ⟨tv,tc,rfl,C,l,T5,t5,E⟩;have N5:=J E;have H:=J (E.fr.obj G.o (λe=>by have:=(I.o.facts.1 _ e).2.1;have:=x.o;omega));have HR:=J C;have Y:=J l;obtain⟨s,f,D⟩:=C.slice.arg.form;subst D;clear E C l)|((with_reducible refine zx ?_);clear K3;refine zi rfl (zK (ty:=60) (b:=y) (off:=0) (cs:=xd (0) (.slice s (jI (A.Q n) a.id).length f) (.slice none 0 0)) rfl rfl rfl (zV H.o (le_refl 3)) xY (qX rfl rfl rfl)) ?_));go_frame)
 have V:=ZP (cs:=xd (0) (.slice s (jI (A.Q n) a.id).length f) (.slice none 0 0)) H.o rfl
 have O:=zv y (xd (0) (.slice s (jI (A.Q n) a.id).length f) (.slice none 0 0)) 0 w5
 refine bodyPost_ret (v:=.agg (xd (0) (.slice s (jI (A.Q n) a.id).length f) (.slice none 0 0)).toArray) (results_cell_row (P:=prog) (fn:=Tryz.f20) rfl _ _ y 60 _ (0,0) _ rfl V Tryz.underlying60 rfl xY) rfl ⟨_,rfl,T5,_,N5.o.ans I.o W.o x.o K.o O,⟨(zlG HR.o (λj hj=>(d.o.facts.2.1 j hj)) Y.o (le_trans (List.length_filter_le _ _) (le_trans (d.o.facts.2.2.2.2.2.2 n).len (by decide)))).step (O.mono (λj e=>.inr e)) (λ_ _ h=>h),JI.2⟩⟩
theorem zns (Z:qR w0) (h:WS w0 w pc pp ps T X N A) {a:vI} {cs:List Value} (G:Kept X w (λw=>qJ w a cs)) (H:a.kind=1) (j:qW A.Q a.src a.id=false):
  Calls prog 20 #[.agg (jf pc pp ps).toArray,.agg cs.toArray] w λe w'=>e=.returned (.agg (xd 9 (.slice none 0 0) (.slice none 0 0)).toArray)∧∃T' X',xL w0 w w' pc pp ps T X N A T' X'∧YV X' w' (.slice none 0 0) (.slice none 0 0) [] []:=by
 obtain⟨m,E,F,s,y⟩:=xR w (.cells (jf pc pp ps).toArray 29) (.cells cs.toArray 57) (.cells (xd 0 (.slice none 0 0) (.slice none 0 0)).toArray 60)
 obtain⟨aa,bcs,i,f,d,k,x,kt,kb⟩:=qs G
 have g:=J (h.into (c:=w.heap.size+1+1) s (by omega) y)
 have l:=J (jv (q:=w.heap.size+1) (by rw[←i];exact zq E) k d)
 have U:=J l.o.2.2.2.1
 have W:=l.o.1
 have cS:=l.o.2.1
 have p0:=by simpa using zq m 0 _ rfl
 have p1:=by simpa using zq m 1 _ rfl
 have p2:=by simpa using zq m 2 _ rfl
 have z:=J F
 have K:=J s
 have D:=J y
 have C:=@J (w.heap.size≤w.heap.size+1+1) (by omega)
 have L:=J (zu d)
 have o:=J d
 have p:=J f
 have V:=J h
 have zA:=JM
 clear h Z G i f d k x kt kb m E F s y l
 rw[H] at W
 clear H
 have n:=J j
 clear j
 go_enter Tryz.func20,Tryz.ntmps20
 have⟨M,O,Q,R⟩:=tZ4
 go_wp2_with ((first|((with_reducible refine zt ?_);first|(clear M;refine zn2 rfl rfl rfl U.o L.o ?_;generalize w.heap.size+1+1=r at g z D C⊢;generalize (((w.alloc (.cells (jf pc pp ps).toArray 29)).alloc (.cells cs.toArray 57)).alloc (.cells (xd 0 (.slice none 0 0) (.slice none 0 0)).toArray 60))=w3 at*)|(clear Q;refine zg rfl (yf (t:=60) rfl rfl (zgI _ _ _ _)) ?_))|(clear O;go_at_call 14;refine(zki g.o p.o o.o n.o).mono ?_;rintro e w5 ⟨rfl,u⟩;have S:=J (g.o.idle u);have B:=J (u.obj z.o id);clear u)|((with_reducible refine zx ?_);clear R;refine zi rfl (zK (ty:=60) (b:=r) (off:=0) (cs:=xd (9) (.slice none 0 0) (.slice none 0 0)) rfl rfl rfl (zV B.o (le_refl 3)) xY (qX rfl rfl rfl)) ?_));go_frame)
 have I:=ZP (cs:=xd (9) (.slice none 0 0) (.slice none 0 0)) B.o rfl
 have Y:=zv r (xd (9) (.slice none 0 0) (.slice none 0 0)) 0 w5
 refine bodyPost_ret (v:=.agg (xd (9) (.slice none 0 0) (.slice none 0 0)).toArray) (results_cell_row (P:=prog) (fn:=Tryz.f20) rfl _ _ r 60 _ (0,0) _ rfl I Tryz.underlying60 rfl xY) rfl ⟨rfl,_,_,S.o.ans V.o K.o C.o D.o Y,JI⟩
theorem znT (hg:qR w0) (h:WS w0 w pc pp ps T X N A) {a:vI} {cs:List Value} (M:Kept X w (λw=>qJ w a cs)) (O:a.kind=2):
  Calls prog 20 #[.agg (jf pc pp ps).toArray,.agg cs.toArray] w λe w'=>∃B,e=.returned (.agg (xd 0 (.slice none 0 0) B).toArray)∧∃T' X',xL w0 w w' pc pp ps T X N {A with Q:=jF A.Q a.id 65} T' X'∧YV X' w' (.slice none 0 0) B [] (xT A.Q a.id 65):=by
 obtain⟨n,I,K,u,D⟩:=xR w (.cells (jf pc pp ps).toArray 29) (.cells cs.toArray 57) (.cells (xd 0 (.slice none 0 0) (.slice none 0 0)).toArray 60)
 obtain⟨aa,bcs,i,k,d,l,x,kt,kb⟩:=qs M
 have g:=J (h.into (c:=w.heap.size+1+1) u (by omega) D)
 have m:=J (jv (q:=w.heap.size+1) (by rw[←i];exact zq I) l d)
 have RH:=J m.o.2.2.2.1
 have cK:=m.o.1
 have cS:=m.o.2.1
 have p0:=by simpa using zq n 0 _ rfl
 have p1:=by simpa using zq n 1 _ rfl
 have p2:=by simpa using zq n 2 _ rfl
 have E:=J K
 have S:=J u
 have H:=J D
 have r:=@J (w.heap.size≤w.heap.size+1+1) (by omega)
 have U:=J (zu d)
 have p:=J d
 have G:=J h
 have zA:=JM
 clear h hg M i k d l x kt kb n I K u D m
 rw[O] at cK
 clear O
 go_enter Tryz.func20,Tryz.ntmps20
 have⟨W,Y,Z,K3⟩:=tZ4
 go_wp2_with ((first|((with_reducible refine zt ?_);first|(clear W;refine zn2 rfl rfl rfl RH.o U.o ?_;generalize w.heap.size+1+1=s at g E H r⊢;generalize (((w.alloc (.cells (jf pc pp ps).toArray 29)).alloc (.cells cs.toArray 57)).alloc (.cells (xd 0 (.slice none 0 0) (.slice none 0 0)).toArray 60))=w3 at*)|(clear Z;refine zg rfl (yf (t:=60) rfl rfl (zkE _ _ _ _)) ?_))|(clear Y;go_at_call 23;refine(zgk g.o p.o).mono ?_;rintro e w5 ⟨B,rfl,y,T5,C⟩;have N5:=J C;have F:=J (C.fr.obj E.o (λe=>by have:=(G.o.facts.1 _ e).2.1;have:=r.o;omega));have V:=J y;obtain⟨o,f,z⟩:=y.slice.arg.form;subst z;clear C y)|((with_reducible refine zx ?_);clear K3;refine zi rfl (zK (ty:=60) (b:=s) (off:=0) (cs:=xd (0) (.slice none 0 0) (.slice o (xT A.Q a.id 65).length f)) rfl rfl rfl (zV F.o (le_refl 3)) xY (qX rfl rfl rfl)) ?_));go_frame)
 have R:=ZP (cs:=xd (0) (.slice none 0 0) (.slice o (xT A.Q a.id 65).length f)) F.o rfl
 have L:=zv s (xd (0) (.slice none 0 0) (.slice o (xT A.Q a.id 65).length f)) 0 w5
 refine bodyPost_ret (v:=.agg (xd (0) (.slice none 0 0) (.slice o (xT A.Q a.id 65).length f)).toArray) (results_cell_row (P:=prog) (fn:=Tryz.f20) rfl _ _ s 60 _ (0,0) _ rfl R Tryz.underlying60 rfl xY) rfl ⟨_,rfl,T5,_,N5.o.ans G.o S.o r.o H.o L,⟨JI.1,(zjA V.o (λj hj=>(g.o.facts.2.1 j hj))).step (L.mono (λj e=>.inr e)) (λ_ _ h=>h)⟩⟩
theorem znU (F:qR w0) (h:WS w0 w pc pp ps T X N A) (hN:N≤800) {a:vI} {cs:List Value} (E:Kept X w (λw=>qJ w a cs)) (G:a.kind=3):
  Calls prog 20 #[.agg (jf pc pp ps).toArray,.agg cs.toArray] w λe w'=>e=.returned (.agg (xd (Ze A.S (yc A.bs) A.L a.tx) (.slice none 0 0) (.slice none 0 0)).toArray)∧∃T' X',xL w0 w w' pc pp ps T X (N+1) {A with L:=Zf A.S (yc A.bs) A.L a.tx 0} T' X'∧YV X' w' (.slice none 0 0) (.slice none 0 0) [] []:=by
 obtain⟨l,C,D,m,s⟩:=xR w (.cells (jf pc pp ps).toArray 29) (.cells cs.toArray 57) (.cells (xd 0 (.slice none 0 0) (.slice none 0 0)).toArray 60)
 obtain⟨aa,bcs,g,j,i,f,p,kt,kb⟩:=qs E
 have d:=J (h.into (c:=w.heap.size+1+1) m (by omega) s)
 have y:=J (kt.into (c:=w.heap.size+1+1) m (by omega))
 have k:=J (jv (q:=w.heap.size+1) (by rw[←g];exact zq C) f i)
 have U:=J k.o.2.2.1
 have Z:=k.o.1
 have cS:=k.o.2.1
 have p0:=by simpa using zq l 0 _ rfl
 have p1:=by simpa using zq l 1 _ rfl
 have p2:=by simpa using zq l 2 _ rfl
 have u:=J D
 have I:=J m
 have B:=J s
 have n:=@J (w.heap.size≤w.heap.size+1+1) (by omega)
 have W:=J f
 have z:=J h
 have K:=J (F.keep0 d.o.facts.2.2.1)
 have zA:=JM
 clear h F E g j i f p kt kb l C D m s k
 rw[G] at Z
 clear G
 go_enter Tryz.func20,Tryz.ntmps20
 have⟨M,O,Q,R⟩:=tZ4
 go_wp2_with ((first|((with_reducible refine zt ?_);first|(clear M;refine zn0 rfl rfl rfl U.o W.o ?_;generalize w.heap.size+1+1=o at d y u B n⊢;generalize (((w.alloc (.cells (jf pc pp ps).toArray 29)).alloc (.cells cs.toArray 57)).alloc (.cells (xd 0 (.slice none 0 0) (.slice none 0 0)).toArray 60))=w3 at*)|(clear Q;refine zg rfl (yf (t:=60) rfl rfl (Xz _)) ?_))|(clear O;go_at_call 16;refine(ziO K.o d.o hN y.o).mono ?_;rintro e w5 ⟨gv,rfl,-,V,Y,r⟩;have S:=J r;have x:=J (r.fr.obj u.o (λe=>by have:=(z.o.facts.1 _ e).2.1;have:=n.o;omega));clear r)|((with_reducible refine zx ?_);clear R;refine zi rfl (zK (ty:=60) (b:=o) (off:=0) (cs:=xd (Ze A.S (yc A.bs) A.L a.tx) (.slice none 0 0) (.slice none 0 0)) rfl rfl rfl (zV x.o (le_refl 3)) xY (qX rfl rfl rfl)) ?_));go_frame)
 have H:=ZP (cs:=xd (Ze A.S (yc A.bs) A.L a.tx) (.slice none 0 0) (.slice none 0 0)) x.o rfl
 have fE:=zv o (xd (Ze A.S (yc A.bs) A.L a.tx) (.slice none 0 0) (.slice none 0 0)) 0 w5
 refine bodyPost_ret (v:=.agg (xd (Ze A.S (yc A.bs) A.L a.tx) (.slice none 0 0) (.slice none 0 0)).toArray) (results_cell_row (P:=prog) (fn:=Tryz.f20) rfl _ _ o 60 _ (0,0) _ rfl H Tryz.underlying60 rfl xY) rfl ⟨rfl,V,Y,S.o.ans z.o I.o n.o B.o fE,JI⟩
end
section
variable {w0 wb w w':World} {pc pp ps N:Nat} {T X X1:Nat→Prop} {A:WA} {S1:List zr} {bs1:List yB}
theorem WM.frm (h:WM w0 wb w pc pp ps T X N A S1 bs1 X1):Fr T wb w:=by
 obtain⟨b,css,ma,ms,g,c,a,d,e,R,CS,h⟩:=h
 exact h.fr
theorem WM.fr0 (h:WM w0 wb w pc pp ps T X N A S1 bs1 X1) (f:Fr No w w'):WM w0 wb w' pc pp ps T X N A S1 bs1 X1:=by
 obtain⟨b,css,ma,ms,g,c,a,e,i,R,CS,h⟩:=h
 exact⟨b,css,ma,ms,g,c,a,e,i,R,CS,
  {h with
   ch:=h.ch.frV f (λ_ _=>id) (λ_ h=>h.elim) (λ_ h=>h.elim) (λ_ _ h=>h)
   po:=h.po.frV f (λ_ _=>id) (λ_ h=>h.elim) (λ_ h=>h.elim) (λ_ _ h=>h) h.po.sub
   st:=h.st.frV f (λ_ _=>id) (λ_ h=>h.elim) (λ_ h=>h.elim) (λ_ _ h=>h) h.st.sub
   xl:=λj d=>lt_of_lt_of_le (h.xl j d) f.size
   fr:=h.fr.trans (f.of0:Fr T w w') (λ_ _ h=>h)}⟩
theorem zkJ {b:qi} {t:Int} {v:Value} {a:Option Addr} {c:Nat} (h:jr w b [.int .u64 t,v,.slice a b.txs.length c]):Ju w (.slice a b.txs.length c) b.txs:=by
 obtain⟨g,i,j,k,e,_,_,f⟩:=h
 simp only[zhq,List.cons.injEq,and_true] at e
 obtain⟨-,-,d⟩:=e
 injection d with e21 _ e23
 subst e21;subst e23
 exact f
end
section
variable {w0 w:World} {pc pp ps N:Nat} {T X:Nat→Prop} {A:WA}
theorem znu (I:qR w0) (h:WS w0 w pc pp ps T X N A) (hB:A.bs.length≤200) {a:vI} {cs:List Value} (H:Kept X w (λw=>qJ w a cs)) (K:a.kind=4) (s:¬vR (yc A.bs) A.S A.bs a.blk=0):
  Calls prog 20 #[.agg (jf pc pp ps).toArray,.agg cs.toArray] w λe w'=>e=.returned (.agg (xd (vR (yc A.bs) A.S A.bs a.blk) (.slice none 0 0) (.slice none 0 0)).toArray)∧∃T' X',xL w0 w w' pc pp ps T X N A T' X'∧YV X' w' (.slice none 0 0) (.slice none 0 0) [] []:=by
 obtain⟨m,F,G,n,x⟩:=xR w (.cells (jf pc pp ps).toArray 29) (.cells cs.toArray 57) (.cells (xd 0 (.slice none 0 0) (.slice none 0 0)).toArray 60)
 obtain⟨ab,bcs,g,j,i,k,f,kt,M⟩:=qs H
 have d:=J (h.into (c:=w.heap.size+1+1) n (by omega) x)
 have B:=J (M.into (c:=w.heap.size+1+1) n (by omega))
 have l:=J (jv (q:=w.heap.size+1) (by rw[←g];exact zq F) k i)
 have RB:=J l.o.2.2.2.2
 have cK:=l.o.1
 have cS:=l.o.2.1
 have p0:=by simpa using zq m 0 _ rfl
 have p1:=by simpa using zq m 1 _ rfl
 have p2:=by simpa using zq m 2 _ rfl
 have y:=J G
 have R:=J n
 have D:=J x
 have p:=@J (w.heap.size≤w.heap.size+1+1) (by omega)
 have Q:=J f
 have C:=J h
 have S:=J I
 have zA:=JM
 clear h I H g j i k f kt M m F G n x l
 rw[K] at cK
 clear K
 have o:=J (zi8 S.o d.o hB B.o.now)
 rw[show Xe (yc A.bs) A.S A.bs a.blk=A.S from if_neg s,show Yi (yc A.bs) A.S A.bs a.blk=A.bs from if_neg s] at o
 generalize vR (yc A.bs) A.S A.bs a.blk=E at*
 have aa:(E==0)=false:=by simpa using s
 go_enter Tryz.func20,Tryz.ntmps20
 have⟨U,V,W,Y⟩:=tZ4
 go_wp2_with ((first|((with_reducible refine zt ?_);first|(clear U;refine zn4 rfl rfl rfl RB.o Q.o ?_;generalize w.heap.size+1+1=r at d B y D p o⊢;generalize (((w.alloc (.cells (jf pc pp ps).toArray 29)).alloc (.cells cs.toArray 57)).alloc (.cells (xd 0 (.slice none 0 0) (.slice none 0 0)).toArray 60))=w3 at*)|(clear W;refine zg rfl (yf (t:=60) rfl rfl (Xz _)) ?_))|(clear V;go_at_call 51;refine o.o.mono ?_;rintro e w5 ⟨rfl,X1,L⟩;obtain⟨T5,X5,u⟩:=L.still d.o.facts.2.2.2.1;have Z:=J u;have z:=J (u.fr.obj y.o (λe=>by have:=(C.o.facts.1 _ e).2.1;have:=p.o;omega));clear u L)|((with_reducible refine zx ?_);clear Y;refine zi rfl (zK (ty:=60) (b:=r) (off:=0) (cs:=xd (E) (.slice none 0 0) (.slice none 0 0)) rfl rfl rfl (zV z.o (le_refl 3)) xY (qX rfl rfl rfl)) ?_));go_frame)
 have O:=ZP (cs:=xd (E) (.slice none 0 0) (.slice none 0 0)) z.o rfl
 have fE:=zv r (xd (E) (.slice none 0 0) (.slice none 0 0)) 0 w5
 refine bodyPost_ret (v:=.agg (xd (E) (.slice none 0 0) (.slice none 0 0)).toArray) (results_cell_row (P:=prog) (fn:=Tryz.f20) rfl _ _ r 60 _ (0,0) _ rfl O Tryz.underlying60 rfl xY) rfl ⟨rfl,T5,X5,Z.o.ans C.o R.o p.o D.o fE,JI⟩
theorem znv (Q:qR w0) (h:WS w0 w pc pp ps T X N A) (hB:A.bs.length≤200) (hN:N≤1000) (f:52≤N) {a:vI} {cs:List Value} (O:Kept X w (λw=>qJ w a cs)) (R:a.kind=4) (s:vR (yc A.bs) A.S A.bs a.blk=0):
  Calls prog 20 #[.agg (jf pc pp ps).toArray,.agg cs.toArray] w λe w'=>e=.returned (.agg (xd 0 (.slice none 0 0) (.slice none 0 0)).toArray)∧∃T' X',xL w0 w w' pc pp ps T X N {A with S:=(doR (yc A.bs) A.S a.blk).S,bs:=A.bs++[(doR (yc A.bs) A.S a.blk).d],L:=Qh (doR (yc A.bs) A.S a.blk).S (yc (A.bs++[(doR (yc A.bs) A.S a.blk).d])) A.L [] 0} T' X'∧YV X' w' (.slice none 0 0) (.slice none 0 0) [] []:=by
 obtain⟨p,K,M,r,D⟩:=xR w (.cells (jf pc pp ps).toArray 29) (.cells cs.toArray 57) (.cells (xd 0 (.slice none 0 0) (.slice none 0 0)).toArray 60)
 obtain⟨aa,bcs,i,l,j,m,g,kt,U⟩:=qs O
 have d:=J (h.into (c:=w.heap.size+1+1) r (by omega) D)
 have H:=J (U.into (c:=w.heap.size+1+1) r (by omega))
 have n:=J (jv (q:=w.heap.size+1) (by rw[←i];exact zq K) m j)
 have RB:=J n.o.2.2.2.2
 have cK:=n.o.1
 have cS:=n.o.2.1
 have V:=by simpa using zq p 0 _ rfl
 have W:=by simpa using zq p 1 _ rfl
 have p2:=by simpa using zq p 2 _ rfl
 have E:=J M
 have F3:=J r
 have I:=J D
 have z:=@J (w.heap.size≤w.heap.size+1+1) (by omega)
 have Z:=J g
 have o:=J h
 have G:=J Q
 have zA:=JM
 clear h Q O i l j m g kt U p K M r D n
 rw[R] at cK
 clear R
 have x:=J (zi8 G.o d.o hB H.o.now)
 rw[show Xe (yc A.bs) A.S A.bs a.blk=(doR (yc A.bs) A.S a.blk).S from if_pos s,show Yi (yc A.bs) A.S A.bs a.blk=A.bs++[(doR (yc A.bs) A.S a.blk).d] from if_pos s,s] at x
 have y:=J f
 clear s f
 go_enter Tryz.func20,Tryz.ntmps20
 have⟨K0,K1,K2,K3,K4⟩:=tZ5
 go_wp2_with ((first|((with_reducible refine zt ?_);first|(clear K0;refine zn4 rfl rfl rfl RB.o Z.o ?_;generalize w.heap.size+1+1=B at d H E I z x⊢;generalize (((w.alloc (.cells (jf pc pp ps).toArray 29)).alloc (.cells cs.toArray 57)).alloc (.cells (xd 0 (.slice none 0 0) (.slice none 0 0)).toArray 60))=w3 at*)|(clear K3;refine zg rfl (yf (t:=60) rfl rfl (Xz _)) ?_))|(clear K1;go_at_call 51;refine x.o.mono ?_;rintro e w5 ⟨rfl,X1,u⟩;have HM:=J u;have r0:=u.frm.cell V (λe=>absurd (o.o.facts.1 _ e).2.1 (Nat.lt_irrefl _));have r1:=u.frm.cell W (λe=>absurd (o.o.facts.1 _ e).2.1 (Nat.lt_irrefl _));clear u V W p2)|(clear K2;go_at_call 52;refine(zg6 G.o HM.o hN (λw' _=>zhf w') (by decide)).mono ?_;rintro e w6 ⟨⟨gv,rfl⟩,N6,T5,X5,k,C⟩;have N5:=J (C.more (N':=N) (by have:=d.o.facts.2.2.2.2.1;have:=y.o;simp only[List.length_nil] at k;omega));have F:=J (C.fr.obj E.o (λe=>by have:=(o.o.facts.1 _ e).2.1;have:=z.o;omega));clear C k r0 r1)|((with_reducible refine zx ?_);clear K4;refine zi rfl (zK (ty:=60) (b:=B) (off:=0) (cs:=xd (0) (.slice none 0 0) (.slice none 0 0)) rfl rfl rfl (zV F.o (le_refl 3)) xY (qX rfl rfl rfl)) ?_));go_frame)
 have Y:=ZP (cs:=xd (0) (.slice none 0 0) (.slice none 0 0)) F.o rfl
 have fE:=zv B (xd (0) (.slice none 0 0) (.slice none 0 0)) 0 w6
 refine bodyPost_ret (v:=.agg (xd (0) (.slice none 0 0) (.slice none 0 0)).toArray) (results_cell_row (P:=prog) (fn:=Tryz.f20) rfl _ _ B 60 _ (0,0) _ rfl Y Tryz.underlying60 rfl xY) rfl ⟨rfl,T5,X5,N5.o.ans o.o F3.o z.o I.o fE,JI⟩
theorem znw (Z:qR w0) (h:WS w0 w pc pp ps T X N A) {a:vI} {cs:List Value} (G:Kept X w (λw=>qJ w a cs)) (H:a.kind=5) (f:A.bs=[]):
  Calls prog 20 #[.agg (jf pc pp ps).toArray,.agg cs.toArray] w λe w'=>e=.returned (.agg (xd 9 (.slice none 0 0) (.slice none 0 0)).toArray)∧∃U X',xL w0 w w' pc pp ps T X N A U X'∧YV X' w' (.slice none 0 0) (.slice none 0 0) [] []:=by
 obtain⟨l,D,E,o,s⟩:=xR w (.cells (jf pc pp ps).toArray 29) (.cells cs.toArray 57) (.cells (xd 0 (.slice none 0 0) (.slice none 0 0)).toArray 60)
 obtain⟨ab,bcs,g,j,i,k,p,kt,kb⟩:=qs G
 have d:=J (h.into (c:=w.heap.size+1+1) o (by omega) s)
 have m:=J (jv (q:=w.heap.size+1) (by rw[←g];exact zq D) k i)
 have W:=m.o.1
 have cS:=m.o.2.1
 have p0:=by simpa using zq l 0 _ rfl
 have p1:=by simpa using zq l 1 _ rfl
 have p2:=by simpa using zq l 2 _ rfl
 have u:=J E
 have K:=J o
 have C:=J s
 have B:=@J (w.heap.size≤w.heap.size+1+1) (by omega)
 have V:=J h
 have zA:=JM
 clear h Z G g j i k p kt kb l D E o s m
 rw[H] at W
 clear H
 have zB:=YU
 have y:=J (zjd d.o f)
 clear f
 go_enter Tryz.func20,Tryz.ntmps20
 have⟨M,O,Q,R⟩:=tZ4
 go_wp2_with ((first|(clear M;go_at_call 53;generalize w.heap.size+1+1=n at d u C B y⊢;generalize (((w.alloc (.cells (jf pc pp ps).toArray 29)).alloc (.cells cs.toArray 57)).alloc (.cells (xd 0 (.slice none 0 0) (.slice none 0 0)).toArray 60))=w3 at*;refine y.o.mono ?_;rintro e r ⟨rfl,F⟩;have L:=J F;clear F)|((with_reducible refine zx ?_);first|(clear O;refine zi rfl (zj (w:=r) (ty:=55) (cs:=Jr) rfl rfl rfl rfl JJ (qX rfl rfl rfl)) ?_;have z:=J (L.o.alloc (.cells Jr.toArray 55));generalize r.heap.size=aa at⊢;generalize r.alloc (.cells Jr.toArray 55)=w6 at*;have S:=J (d.o.idle z.o);have x:=J (z.o.obj u.o id))|(clear R;refine zi rfl (zK (ty:=60) (b:=n) (off:=0) (cs:=xd (9) (.slice none 0 0) (.slice none 0 0)) rfl rfl rfl (zV x.o (le_refl 3)) xY (qX rfl rfl rfl)) ?_))|((with_reducible refine zt ?_);clear Q;refine zg rfl (yf (t:=60) rfl rfl (Xz _)) ?_));go_frame)
 have I:=ZP (cs:=xd (9) (.slice none 0 0) (.slice none 0 0)) x.o rfl
 have Y:=zv n (xd (9) (.slice none 0 0) (.slice none 0 0)) 0 w6
 refine bodyPost_ret (v:=.agg (xd (9) (.slice none 0 0) (.slice none 0 0)).toArray) (results_cell_row (P:=prog) (fn:=Tryz.f20) rfl _ _ n 60 _ (0,0) _ rfl I Tryz.underlying60 rfl xY) rfl ⟨rfl,_,_,S.o.ans V.o K.o B.o C.o Y,JI⟩
theorem znx (hg:qR w0) (h:WS w0 w pc pp ps T X N A) {bs:List yB} {d:yB} (n:A.bs=bs++[d]) (hB:bs.length≤200) (hT:d.blk.txs.length≤20) (hN:N≤1000) (m:52≤N) {a:vI} {cs:List Value} (ha:Kept X w (λw=>qJ w a cs)) (hk:a.kind=5):
  Calls prog 20 #[.agg (jf pc pp ps).toArray,.agg cs.toArray] w λe w'=>e=.returned (.agg (xd 0 (.slice none 0 0) (.slice none 0 0)).toArray)∧∃T' X',xL w0 w w' pc pp ps T X N {A with S:=xM d.chg A.S,bs:=bs,L:=Qh (xM d.chg A.S) (yc bs) A.L d.blk.txs 0} T' X'∧YV X' w' (.slice none 0 0) (.slice none 0 0) [] []:=by
 obtain⟨z,b1,b2,M,V⟩:=xR w (.cells (jf pc pp ps).toArray 29) (.cells cs.toArray 57) (.cells (xd 0 (.slice none 0 0) (.slice none 0 0)).toArray 60)
 obtain⟨ab,bcs,o,r,p,s,O,kt,kb⟩:=qs ha
 have i:=J (h.into (c:=w.heap.size+1+1) M (by omega) V)
 have H:=J (jv (q:=w.heap.size+1) (by rw[←o];exact zq b1) s p)
 have cK:=H.o.1
 have cS:=H.o.2.1
 have p0:=by simpa using zq z 0 _ rfl
 have p1:=by simpa using zq z 1 _ rfl
 have p2:=by simpa using zq z 2 _ rfl
 have W:=J b2
 have F3:=J M
 have Z3:=J V
 have I:=@J (w.heap.size≤w.heap.size+1+1) (by omega)
 have y:=J h
 have G0:=J hg
 have zA:=JM
 clear h hg ha o r p s O kt kb z b1 b2 M V H
 rw[hk] at cK
 clear hk
 have zB:=YU
 have Z:=J (zmr i.o n hB)
 have D:=J m
 have HT:=J hT
 clear n m hT
 go_enter Tryz.func20,Tryz.ntmps20
 have⟨K0,K1,K2,K3,K4⟩:=tZ5
 go_wp2_with ((first|(clear K0;go_at_call 53;generalize w.heap.size+1+1=K at i W Z3 I Z⊢;generalize (((w.alloc (.cells (jf pc pp ps).toArray 29)).alloc (.cells cs.toArray 57)).alloc (.cells (xd 0 (.slice none 0 0) (.slice none 0 0)).toArray 60))=w3 at*;refine Z.o.mono ?_;rintro e u ⟨aa,X1,rfl,B,j⟩;obtain⟨C,g,k,l,rfl⟩:=j.now.form;have F:=J B;have E:=J j;have r0:=B.frm.cell p0 (λe=>absurd (y.o.facts.1 _ e).2.1 (Nat.lt_irrefl _));have r1:=B.frm.cell p1 (λe=>absurd (y.o.facts.1 _ e).2.1 (Nat.lt_irrefl _));clear B j p0 p1 p2)|(clear K2;go_at_call 52;refine(zg6 G0.o G.o hN HX.o (by have:=HT.o;omega)).mono ?_;rintro e w7 ⟨⟨gv,rfl⟩,N6,T5,X5,Q,R⟩;have N5:=J (R.more (N':=N) (by have:=i.o.facts.2.2.2.2.1;have:=D.o;have:=HT.o;omega));have Y:=J (R.fr.obj W.o (λe=>by have:=(y.o.facts.1 _ e).2.1;have:=I.o;omega));clear R Q t0 t1 ct)|((with_reducible refine zx ?_);first|(clear K1;refine zi rfl (zj (w:=u) (ty:=55) (cs:=[.int .u64 d.blk.tag,.slice C d.blk.pay.length g,.slice k d.blk.txs.length l]) rfl rfl rfl rfl JJ (qX rfl rfl rfl)) ?_;have RN:=J (zy u [.int .u64 d.blk.tag,.slice C d.blk.pay.length g,.slice k d.blk.txs.length l] 55);have x:=J ((frN u).alloc (.cells ([.int .u64 d.blk.tag,.slice C d.blk.pay.length g,.slice k d.blk.txs.length l]:List Value).toArray 55));generalize u.heap.size=U at RN⊢;generalize u.alloc (.cells ([.int .u64 d.blk.tag,.slice C d.blk.pay.length g,.slice k d.blk.txs.length l]:List Value).toArray 55)=w6 at*;have G:=J (F.o.fr0 x.o);have HX:=@J (Kept X1 w6 (λw=>Ju w (.slice k d.blk.txs.length l) d.blk.txs)) (λw' f=>zkJ ((E.o.same x.o.of0) w' f));have t0:=x.o.cell r0 id;have t1:=x.o.cell r1 id;have ct:w6.cell? ⟨U,2,none⟩=some (.slice k d.blk.txs.length l):=(by simpa using RN.o 2 _ rfl);clear r0 r1)|(clear K4;refine zi rfl (zK (ty:=60) (b:=K) (off:=0) (cs:=xd (0) (.slice none 0 0) (.slice none 0 0)) rfl rfl rfl (zV Y.o (le_refl 3)) xY (qX rfl rfl rfl)) ?_))|((with_reducible refine zt ?_);clear K3;refine zg rfl (yf (t:=60) rfl rfl (Xz _)) ?_));go_frame)
 have BE:=ZP (cs:=xd (0) (.slice none 0 0) (.slice none 0 0)) Y.o rfl
 have fE:=zv K (xd (0) (.slice none 0 0) (.slice none 0 0)) 0 w7
 refine bodyPost_ret (v:=.agg (xd (0) (.slice none 0 0) (.slice none 0 0)).toArray) (results_cell_row (P:=prog) (fn:=Tryz.f20) rfl _ _ K 60 _ (0,0) _ rfl BE Tryz.underlying60 rfl xY) rfl ⟨rfl,T5,X5,N5.o.ans y.o F3.o I.o Z3.o fE,JI⟩
theorem znW (K:qR w0) (h:WS w0 w pc pp ps T X N A) {a:vI} {cs:List Value} (z:Kept X w (λw=>qJ w a cs)) (L:¬a.kind=0) (M:¬a.kind=1) (O:¬a.kind=2) (Q:¬a.kind=3) (R:¬a.kind=4) (S:¬a.kind=5):
  Calls prog 20 #[.agg (jf pc pp ps).toArray,.agg cs.toArray] w λe w'=>e=.returned (.agg (xd 0 (.slice none 0 0) (.slice none 0 0)).toArray)∧∃G X',xL w0 w w' pc pp ps T X N A G X'∧YV X' w' (.slice none 0 0) (.slice none 0 0) [] []:=by
 obtain⟨k,x,y,n,p⟩:=xR w (.cells (jf pc pp ps).toArray 29) (.cells cs.toArray 57) (.cells (xd 0 (.slice none 0 0) (.slice none 0 0)).toArray 60)
 obtain⟨V,bcs,f,i,g,j,o,kt,U⟩:=qs z
 have d:=J (h.into (c:=w.heap.size+1+1) n (by omega) p)
 have l:=J (jv (q:=w.heap.size+1) (by rw[←f];exact zq x) j g)
 have W:=l.o.1
 have Y:=l.o.2.1
 have p0:=by simpa using zq k 0 _ rfl
 have p1:=by simpa using zq k 1 _ rfl
 have p2:=by simpa using zq k 2 _ rfl
 have r:=J y
 have D:=J n
 have u:=J p
 have t:=@J (w.heap.size≤w.heap.size+1+1) (by omega)
 have H:=J h
 have zA:=JM
 clear h K z f i g j o kt U k x y n p l
 have Z:(a.kind==0)=false:=by simpa using L
 have e1:(a.kind==1)=false:=by simpa using M
 have e2:(a.kind==2)=false:=by simpa using O
 have e3:(a.kind==3)=false:=by simpa using Q
 have e4:(a.kind==4)=false:=by simpa using R
 have e5:(a.kind==5)=false:=by simpa using S
 go_enter Tryz.func20,Tryz.ntmps20
 have E:=tru
 go_wp2_with ((with_reducible refine zx ?_);clear E;generalize w.heap.size+1+1=m at d r u t⊢;generalize (((w.alloc (.cells (jf pc pp ps).toArray 29)).alloc (.cells cs.toArray 57)).alloc (.cells (xd 0 (.slice none 0 0) (.slice none 0 0)).toArray 60))=B at*;have F:=J (d.o.idle (frN B));have s:=J r.o;refine zi rfl (zK (ty:=60) (b:=m) (off:=0) (cs:=xd (0) (.slice none 0 0) (.slice none 0 0)) rfl rfl rfl (zV s.o (le_refl 3)) xY (qX rfl rfl rfl)) ?_;go_frame)
 have C:=ZP (cs:=xd (0) (.slice none 0 0) (.slice none 0 0)) s.o rfl
 have I:=zv m (xd (0) (.slice none 0 0) (.slice none 0 0)) 0 B
 refine bodyPost_ret (v:=.agg (xd (0) (.slice none 0 0) (.slice none 0 0)).toArray) (results_cell_row (P:=prog) (fn:=Tryz.f20) rfl _ _ m 60 _ (0,0) _ rfl C Tryz.underlying60 rfl xY) rfl ⟨rfl,_,_,F.o.ans H.o D.o t.o u.o I,JI⟩
end
noncomputable def doA (A:WA) (a:vI):WA:=
 if a.kind=0 then Za A a.src a.tx
 else if a.kind=1 then(if qW A.Q a.src a.id=true then {A with Q:=jh A.Q a.src.toNat (Qo (A.Q a.src.toNat) a.id)} else A)
 else if a.kind=2 then {A with Q:=jF A.Q a.id 65}
 else if a.kind=3 then {A with L:=Zf A.S (yc A.bs) A.L a.tx 0}
 else if a.kind=4 then(if vR (yc A.bs) A.S A.bs a.blk=0 then {A with S:=(doR (yc A.bs) A.S a.blk).S,bs:=A.bs++[(doR (yc A.bs) A.S a.blk).d],L:=Qh (doR (yc A.bs) A.S a.blk).S (yc (A.bs++[(doR (yc A.bs) A.S a.blk).d])) A.L [] 0} else A)
 else if a.kind=5 then(match A.bs.getLast? with
  |none=>A
  |some d=>{A with S:=xM d.chg A.S,bs:=A.bs.dropLast,L:=Qh (xM d.chg A.S) (yc A.bs.dropLast) A.L d.blk.txs 0})
 else A
noncomputable def doE (A:WA) (a:vI):Int:=
 if a.kind=0 then Jx A a.src a.tx
 else if a.kind=1 then(if qW A.Q a.src a.id=true then 0 else 9)
 else if a.kind=3 then Ze A.S (yc A.bs) A.L a.tx
 else if a.kind=4 then vR (yc A.bs) A.S A.bs a.blk
 else if a.kind=5 then(if A.bs=[] then 9 else 0)
 else 0
def doT (A:WA) (a:vI):List TxD:=if a.kind=1∧qW A.Q a.src a.id=true then(jI (A.Q a.src.toNat) a.id).map (·.tx) else[]
def doI (A:WA) (a:vI):List Nat:=if a.kind=2 then xT A.Q a.id 65 else[]
section
variable {w0 w:World} {pc pp ps N:Nat} {T X:Nat→Prop} {A:WA}
theorem znV (l:qR w0) (h:WS w0 w pc pp ps T X N A) (y:N≤800) (q:52≤N) (t:A.bs.length≤200) (z:∀d∈A.bs,d.blk.txs.length≤20) {a:vI} {cs:List Value} (k:Kept X w (λw=>qJ w a cs)):
  Calls prog 20 #[.agg (jf pc pp ps).toArray,.agg cs.toArray] w λe w'=>∃tv u,e=.returned (.agg (xd (doE A a) tv u).toArray)∧∃b X',xL w0 w w' pc pp ps T X (N+1) (doA A a) b X'∧YV X' w' tv u (doT A a) (doI A a):=by
 by_cases k0:a.kind=0
 ·refine(znS l h k k0).mono λe w' ⟨g,b,X',n,i⟩=>?_
  have j:doE A a=Jx A a.src a.tx:=by simp[doE,k0]
  have c:doA A a=Za A a.src a.tx:=by simp[doA,k0]
  have m:doT A a=[]:=by simp[doT,k0]
  have o:doI A a=[]:=by simp[doI,k0]
  rw[j,c,m,o]
  exact⟨_,_,g,b,X',n.more (by omega),i⟩
 by_cases k1:a.kind=1
 ·have o:doI A a=[]:=by simp[doI,k1]
  cases hm:qW A.Q a.src a.id with
  |false=>
   have j:doE A a=9:=by simp[doE,k1,hm]
   have c:doA A a=A:=by simp[doA,k1,hm]
   have m:doT A a=[]:=by simp[doT,hm]
   rw[j,c,m,o]
   exact(zns l h k k1 hm).mono λe w' ⟨g,b,X',n,i⟩=>⟨_,_,g,b,X',n.more (by omega),i⟩
  |true=>
   have s:=hm
   unfold qW at s
   obtain⟨C,D,x⟩:=of_decide_eq_true s
   obtain⟨n,v⟩:∃n:Nat,a.src=(n:Int):=⟨a.src.toNat,(Int.toNat_of_nonneg C).symm⟩
   have p:a.src.toNat=n:=by rw[v,Int.toNat_natCast]
   rw[p] at x
   have j:doE A a=0:=by simp[doE,k1,hm]
   have c:doA A a={A with Q:=jh A.Q n (Qo (A.Q n) a.id)}:=by simp[doA,k1,hm,p]
   have m:doT A a=(jI (A.Q n) a.id).map (·.tx):=by simp[doT,k1,hm,p]
   rw[j,c,m,o]
   exact(znt l h k k1 v (by omega) x).mono λe w' ⟨tv,g,b,X',n,i⟩=>⟨_,_,g,b,X',n.more (by omega),i⟩
 by_cases k2:a.kind=2
 ·have j:doE A a=0:=by simp[doE,k2]
  have c:doA A a={A with Q:=jF A.Q a.id 65}:=by simp[doA,k2]
  have m:doT A a=[]:=by simp[doT,k2]
  have o:doI A a=xT A.Q a.id 65:=by simp[doI,k2]
  rw[j,c,m,o]
  exact(znT l h k k2).mono λe w' ⟨u,g,b,X',n,i⟩=>⟨_,_,g,b,X',n.more (by omega),i⟩
 have m:doT A a=[]:=by simp[doT,k1]
 have o:doI A a=[]:=by simp[doI,k2]
 rw[m,o]
 by_cases k3:a.kind=3
 ·have j:doE A a=Ze A.S (yc A.bs) A.L a.tx:=by simp[doE,k3]
  have c:doA A a={A with L:=Zf A.S (yc A.bs) A.L a.tx 0}:=by simp[doA,k3]
  rw[j,c]
  exact(znU l h y k k3).mono λe w' ⟨g,b,X',n,i⟩=>⟨_,_,g,b,X',n,i⟩
 by_cases k4:a.kind=4
 ·have j:doE A a=vR (yc A.bs) A.S A.bs a.blk:=by simp[doE,k4]
  rw[j]
  by_cases hE:vR (yc A.bs) A.S A.bs a.blk=0
  ·have c:doA A a={A with S:=(doR (yc A.bs) A.S a.blk).S,bs:=A.bs++[(doR (yc A.bs) A.S a.blk).d],L:=Qh (doR (yc A.bs) A.S a.blk).S (yc (A.bs++[(doR (yc A.bs) A.S a.blk).d])) A.L [] 0}:=by simp[doA,k4,hE]
   rw[c,hE]
   exact(znv l h t (by omega) q k k4 hE).mono λe w' ⟨g,b,X',n,i⟩=>⟨_,_,g,b,X',n.more (by omega),i⟩
  ·have c:doA A a=A:=by simp[doA,k4,hE]
   rw[c]
   exact(znu l h t k k4 hE).mono λe w' ⟨g,b,X',n,i⟩=>⟨_,_,g,b,X',n.more (by omega),i⟩
 by_cases k5:a.kind=5
 ·cases hl:A.bs.getLast? with
  |none=>
   have f:A.bs=[]:=List.getLast?_eq_none_iff.1 hl
   have j:doE A a=9:=by simp[doE,k5,f]
   have c:doA A a=A:=by simp[doA,k5,f]
   rw[j,c]
   exact(znw l h k k5 f).mono λe w' ⟨g,b,X',n,i⟩=>⟨_,_,g,b,X',n.more (by omega),i⟩
  |some d=>
   obtain⟨bs,f⟩:=List.getLast?_eq_some_iff.1 hl
   have B:A.bs.dropLast=bs:=by rw[f,List.dropLast_concat]
   have r:bs.length≤200:=by rw[f,List.length_append] at t;omega
   have j:doE A a=0:=by simp[doE,k5,f]
   have c:doA A a={A with S:=xM d.chg A.S,bs:=bs,L:=Qh (xM d.chg A.S) (yc bs) A.L d.blk.txs 0}:=by
    unfold doA
    rw[if_neg k0,if_neg k1,if_neg k2,if_neg k3,if_neg k4,if_pos k5,hl]
    dsimp only
    rw[B]
   rw[j,c]
   exact(znx l h f r (z d (by rw[f];simp)) (by omega) q k k5).mono λe w' ⟨g,b,X',n,i⟩=>⟨_,_,g,b,X',n.more (by omega),i⟩
 ·have j:doE A a=0:=by simp[doE,k0,k1,k3,k4,k5]
  have c:doA A a=A:=by simp[doA,k0,k1,k2,k3,k4,k5]
  rw[j,c]
  exact(znW l h k k0 k1 k2 k3 k4 k5).mono λe w' ⟨g,b,X',n,i⟩=>⟨_,_,g,b,X',n.more (by omega),i⟩
theorem zkR (K:List zd) (S:List zr) (b:qi):(doR K S b).d.blk=b:=by
 unfold doR
 repeat' split
 all_goals rfl
theorem zjf (A:WA) (a:vI):(doA A a).bs.length≤A.bs.length+1∧∀d∈(doA A a).bs,d∈A.bs∨d.blk=a.blk:=by
 have same:∀B:WA,B.bs=A.bs→B.bs.length≤A.bs.length+1∧∀d∈B.bs,d∈A.bs∨d.blk=a.blk:=λB h=>by rw[h];exact⟨by omega,λd b=>.inl b⟩
 unfold doA
 split
 ·refine same _ ?_
  unfold Za
  split<;>rfl
 split
 ·split<;>exact same _ rfl
 split
 ·exact same _ rfl
 split
 ·exact same _ rfl
 split
 ·split
  ·refine⟨by simp,λd b=>?_⟩
   rcases List.mem_append.1 b with b|b
   ·exact .inl b
   ·rw[List.mem_singleton.1 b,zkR]
    exact .inr rfl
  ·exact same _ rfl
 split
 ·split
  ·exact same _ rfl
  ·exact⟨by show A.bs.dropLast.length≤_;rw[List.length_dropLast];omega,λd b=>.inl (List.dropLast_subset _ b)⟩
 ·exact same _ rfl
end
theorem zhB:∃d,prog.underlying 29=some d∧d.isRow=true:=vQ (by kernel_rfl)
theorem FlA.keptQ {a w:World} {b d g ps N:Nat} {T X:Nat→Prop} {A:WA} (h:FlA a w b d g ps T X N A) {Q:World→Prop} (c:∀w',Fr No a w'→Q w'):Kept X w Q:=λ_ f=>
 c _ (h.fr.trans f (λi hi e=>by have:=h.2.1 i e;omega))
theorem zkf {Q:StQ} {s:Nat} (h:s∈jH Q):s<65∧Q s≠[]:=by
 obtain⟨a,b⟩:=List.mem_filter.1 h
 exact⟨List.mem_range.1 a,of_decide_eq_true b⟩
theorem zke (Q:StQ):(jH Q).length≤65:=by
 have:=(List.filter_sublist (l:=List.range 65) (p:=λi=>decide (Q i≠[]))).length_le
 rwa [List.length_range] at this
theorem J0.keep {w w':World} {v:Value} {l:List Nat} (h:J0 w v l) (f:Fr No w w'):J0 w' v l:=xh.keep h f
theorem J0.at_ {w:World} {v:Value} {l:List Nat} (h:J0 w v l) {i s:Nat} (g:l[i]? =some s):∃b off c,v=.slice (some ⟨b,off,none⟩) l.length c∧w.cell? ⟨b,off+i,none⟩=some (.int .i64 s):=by
 have a:xh w v l.length (l.map iV):=h
 rw[List.map_eq_flatMap] at a
 obtain⟨b,off,c,e,d,-⟩:=xh.elem (f:=λi=>[iV i]) (by decide) (λ_ _=>rfl) a g
 exact⟨b,off,c,e,by simpa[iV] using d 0 _ rfl⟩
theorem zdO (w:World) {u v:Value} {a d:List Nat} (E:J0 w u a) (F:J0 w v d) (hN:a.length≤100000) (_:d.length≤100000):
  Calls prog 22 #[u,v] w λe w'=>∃b,e=.returned (.bool b)∧(b=true↔a=d)∧Fr No w w':=by
 obtain⟨ua,uc,rfl⟩:=xh.form E
 obtain⟨va,vc,rfl⟩:=xh.form F
 have Z:=J E
 have HV:=J F
 clear E F
 by_cases hlen:a.length=d.length
 ·have j1:(a.length:Int)=(d.length:Int):=by omega
  have o:=J hlen
  clear hlen
  go_enter Tryz.func22,Tryz.ntmps22
  go_wp2
  go_loopw [13] (λM wr=>∃n:Nat,M=.int .i64 n∧n≤a.length∧a.take n=d.take n∧Fr No w wr) (λM _=>a.length-(intOf M).toNat)
  case atStart=>exact⟨0,rfl,zero_le _,by simp,Fr.refl _ _⟩
  case round=>
   obtain⟨n,rfl,hn,p,fr⟩:=hrel
   have g:=J fr
   have Q:=J p
   clear fr p
   by_cases h:n<a.length
   ·have i1:(n:Int)<(a.length:Int):=by omega
    have L:(n:Int)<(d.length:Int):=by omega
    obtain⟨x,I⟩:∃x,a[n]? =some x:=⟨_,getElem?_eq_getElem h⟩
    obtain⟨y,hy⟩:∃y,d[n]? =some y:=⟨_,getElem?_eq_getElem (by rw[←o.o];exact h)⟩
    obtain⟨bx,O,cx,G,q⟩:=(Z.o.keep g.o).at_ I
    cases G
    obtain⟨i,P,cy,H,r⟩:=(HV.o.keep g.o).at_ hy
    cases H
    have R1:=J q
    have R2:=J r
    have S:=@J (a.take (n+1)=a.take n++[x]) (by rw[List.take_add_one,I];rfl)
    have U:=@J (d.take (n+1)=d.take n++[y]) (by rw[List.take_add_one,hy];rfl)
    clear q r I hy
    have j:Fr No wr wr.drew:=by(repeat(first|with_reducible exact Fr.refl _ _|with_reducible assumption|with_reducible refine Fr.drew ?_|with_reducible refine Fr.drewN ?_ _|with_reducible refine Fr.alloc ?_ _|with_reducible refine Fr.setCell ?_ _ (.inl (by simp<;>omega)) _))
    have s:=J (λ(W:World) (f:Fr No wr W)=>(⟨f.cell R1.o id,f.cell R2.o id⟩:W.cell? ⟨bx,O+n,none⟩=some (.int .i64 x)∧W.cell? ⟨i,P+n,none⟩=some (.int .i64 y)))
    by_cases hxk:(x:Int)=(y:Int)
    ·have D:=@J (a.take (n+1)=d.take (n+1)) (by rw[S.o,U.o,Q.o,show x=y by omega])
     have hb:decide ((x:Int)=(y:Int))=true:=by simpa using hxk
     go_wp2
     refine wrLx [ff,ff,ff,ff,ff,ff,ff,ff,ff] (λW=>W.cell? ⟨bx,O+n,none⟩=some (.int .i64 x)∧W.cell? ⟨i,P+n,none⟩=some (.int .i64 y)) ?_ (λK hK=>?_)
     ·exact s.o _ j
     repeat((first|(refine zl rfl ?_;constructor;constructor;(focus(rintro w' ⟨s1,s2⟩;go_simp;(try with_reducible rfl);done)))|(refine zm rfl ?_));try simp only[Act.put,pA,pB,pC])
     refine zL (hK.out _ _ ?_)
     have t:=J j
     clear j s
     go_wp2
     go_roundw
     case rel=>exact⟨n+1,by simp,by omega,D.o,g.o.trans0 t.o⟩
     case measure=>show a.length-(n+1)<a.length-n;omega
    ·have C:=@J (a≠d) (λe=>hxk (by
      have V:=S.o
      have Y:=U.o
      rw[e] at V
      rw[V] at Y
      have h3:=congrArg List.getLast? Y
      have h4:x=y:=by simpa using h3
      omega))
     go_wp2
     refine wrLx [ff,ff,ff,ff,ff,ff,ff,ff,ff] (λW=>W.cell? ⟨bx,O+n,none⟩=some (.int .i64 x)∧W.cell? ⟨i,P+n,none⟩=some (.int .i64 y)) ?_ (λK hK=>?_)
     ·exact s.o _ j
     repeat((first|(refine zl rfl ?_;constructor;constructor;(focus(rintro w' ⟨s1,s2⟩;go_simp;(try with_reducible rfl);done)))|(refine zm rfl ?_));try simp only[Act.put,pA,pB,pC])
     refine zL (hK.out _ _ ?_)
     have t:=J j
     clear j s
     go_wp2
     go_ret
     exact⟨false,rfl,by simp[C.o],g.o.trans0 t.o⟩
   ·have i1:¬(n:Int)<(a.length:Int):=by omega
    have L:n=a.length:=by omega
    have m:a=d:=by have:=Q.o;rw[L,List.take_length,o.o,List.take_length] at this;exact this
    have z:=J m
    clear m L
    go_wp2
    go_ret
    first|exact⟨true,rfl,by simp[z.o],g.o⟩|exact .inr ⟨rfl,z.o,g.o⟩|exact .inl ⟨rfl,z.o,g.o⟩
 ·have j1:¬(a.length:Int)=(d.length:Int):=by omega
  have C:=@J (a≠d) (λe=>hlen (by rw[e]))
  clear hlen
  go_enter Tryz.func22,Tryz.ntmps22
  go_wp2
  go_ret
  exact⟨false,rfl,by simp[C.o],Fr.refl _ _⟩
def Vv (R:Nat→Value):List Value:=(List.range 65).map R
theorem zbb {R:Nat→Value} {i:Nat} (h:i<65):(Vv R)[i]? =some (R i):=by
 unfold Vv
 rw[List.getElem?_map,List.getElem?_range h]
 rfl
theorem zdM (R:Nat→Value):(Vv R).length=65:=by simp[Vv]
theorem zli {R:Nat→Value} {i:Nat} (h:i<65) (v:Value):(Vv R).set i v=Vv (qA R i v):=by
 refine List.ext_getElem? λk=>?_
 unfold qA
 by_cases hk:k=i
 ·subst hk
  rw[List.getElem?_set_self (by rw[zdM];omega),zbb h,if_pos rfl]
 ·rw[List.getElem?_set_ne (λe=>hk e.symm)]
  by_cases h65:k<65
  ·rw[zbb h65,zbb h65,if_neg hk]
  ·rw[List.getElem?_eq_none (by rw[zdM];omega),List.getElem?_eq_none (by rw[zdM];omega)]
def zkr (K:Nat→List zd) (i:Nat) (l:List zd):Nat→List zd:=λj=>if j=i then l else K j
section
variable {w0 w w' w4:World} {c7 pc pp ps N N' B c:Nat} {T X T' X':Nat→Prop} {A A':WA} {R:Nat→Value} {K:Nat→List zd} {v v4:Value}
structure JH (T X:Nat→Prop) (w:World) (B c:Nat) (R:Nat→Value) (K:Nat→List zd):Prop where
 obj:w.heap[c]? =some (.cells (Vv R).toArray 63 (0,0))
 row:∀i,i<65→Y3 T w B 41 32 (R i) (K i).length ((K i).flatMap zf)
 own:∀i,i<65→∀j,(R i).ownBlock=some j→X j
 ap:∀i k,i<65→k<65→i≠k→∀j,(R i).ownBlock=some j→(R k).ownBlock≠some j
 cX:X c
 cT:¬T c
 cB:c<B
theorem JH.cell (h:JH T X w B c R K) {i:Nat} (hi:i<65):w.cell? ⟨c,i,none⟩=some (R i):=by
 simpa using zq h.obj i _ (zbb hi)
theorem JH.fr0 (h:JH T X w B c R K) (f:Fr No w w'):JH T X w' B c R K:=
 {h with obj:=f.obj h.obj id,row:=λi hi=>(h.row i hi).fr0 f}
theorem JH.next (h:JH T X w B c R K) (n:xL w0 w w' pc pp ps T X N' A' T' X'):JH T' X' w' B c R K:=
 {h with
  obj:=n.fr.obj h.obj h.cT
  row:=λi hi=>(h.row i hi).next n
  own:=λi hi j a=>n.xx j (h.own i hi j a)
  cX:=n.xx _ h.cX
  cT:=n.out h.cT (yr h.obj)}
theorem JH.frB (h:JH T X w B c R K) {U X':Nat→Prop} (f:Fr U w w') (b:¬U c) (e:∀i,i<65→∀j,(R i).ownBlock=some j→¬U j) (a:∀j,X j→X' j):JH T X' w' B c R K:=
 {h with
  obj:=f.obj h.obj b
  row:=λi hi=>⟨zb (h.row i hi).1 f (e i hi),(h.row i hi).2⟩
  own:=λi hi j d=>a j (h.own i hi j d)
  cX:=a _ h.cX}
theorem FlA.set (h:FlA w0 w c7 pc pp ps T X N A) {o:Nat} (b:X c) (g:¬T c) (d:c7≠c) (v:Value):FlA w0 (w.setCell ⟨c,o,none⟩ v) c7 pc pp ps T X N A:=by
 have f:Fr (λj=>j=c) w (w.setCell ⟨c,o,none⟩ v):=(Fr.refl (λj=>j=c) w).setCell ⟨c,o,none⟩ (.inr rfl) _
 exact⟨h.1.frV f (λj a e=>g (by rw[←e];exact a)) (λj e=>by rw[e];exact h.2.1 c b) (λj e=>by rw[e];exact b) (λ_ _ e=>e) (λj a=>(h.1.facts.1 j a).2.2) (λj a=>lt_of_lt_of_le (h.1.facts.2.1 j a) f.size),h.2.1,h.2.2.1,f.obj h.2.2.2 d⟩
theorem FlA.into (h:FlA w0 w c7 pc pp ps T X N A) (f:Fr No w w') (b:w.heap.size≤c) (a:c<w'.heap.size):FlA w0 w' c7 pc pp ps T (λj=>X j∨j=c) N A:=
 ⟨h.1.into f b a,λj d=>d.elim (h.2.1 j) (λe=>by have:=h.fr.size;omega),h.2.2.1,f.obj h.2.2.2 id⟩
theorem FlA.grow (h:FlA w0 w c7 pc pp ps T X N A) (f:Fr (λj=>v.ownBlock=some j) w w') (b:∀j,v.ownBlock=some j→X j) (g:∀j,v.ownBlock=some j→¬T j) (d:∀j,v.ownBlock=some j→c7<j):
  FlA w0 w' c7 pc pp ps T (λj=>X j∨(w.heap.size≤j∧j<w'.heap.size)) N A:=by
 refine⟨?_,?_,h.2.2.1,?_⟩
 ·exact h.1.frV f (λj a e=>g j e a) (λj e=>h.2.1 j (b j e)) b (λj a e=>e.resolve_right (by omega)) (λj a=>.inl (h.1.facts.1 j a).2.2) (λj a=>a.elim (λe=>lt_of_lt_of_le (h.1.facts.2.1 j e) f.size) (·.2))
 ·exact λj a=>a.elim (h.2.1 j) (λe=>le_trans h.fr.size e.1)
 ·exact f.obj h.2.2.2 (λe=>by have:=d _ e;omega)
structure ju (w0 w:World) (c7 pc pp ps:Nat) (T X:Nat→Prop) (N:Nat) (A:WA) (c5:Nat) (x:zd) (B c:Nat) (R:Nat→Value) (K:Nat→List zd) (v:Value) (l:List Nat):Prop where
 fl:FlA w0 w c7 pc pp ps T X N A
 idc:w.rangeAt c5 0 (zf x)
 rows:JH T X w B c R K
 want:Y3 T w B 3 1 v l.length (l.map iV)
 wx:∀j,v.ownBlock=some j→X j
 wap:∀i,i<65→∀j,(R i).ownBlock=some j→v.ownBlock≠some j
 t5:¬T c5
 b7:c7<B
 b5:c5<B
 n7:c7≠c
 n5:c5≠c
 l5:c5<w.heap.size
 lB:B≤w.heap.size
variable {c5:Nat} {x:zd} {l:List Nat}
theorem ju.fr0 (h:ju w0 w c7 pc pp ps T X N A c5 x B c R K v l) (f:Fr No w w'):ju w0 w' c7 pc pp ps T X N A c5 x B c R K v l:=
 {h with fl:=h.fl.fr0 f,idc:=za h.idc f id,rows:=h.rows.fr0 f,want:=h.want.fr0 f,l5:=lt_of_lt_of_le h.l5 f.size,lB:=le_trans h.lB f.size}
theorem ju.next (h:ju w0 w c7 pc pp ps T X N A c5 x B c R K v l) (n:xL w0 w w' pc pp ps T X N' A' T' X'):ju w0 w' c7 pc pp ps T' X' N' A' c5 x B c R K v l:=
 {h with fl:=h.fl.next n,idc:=za h.idc n.fr h.t5,rows:=h.rows.next n,want:=h.want.next n,wx:=λj a=>n.xx j (h.wx j a),t5:=n.out h.t5 h.l5,l5:=lt_of_lt_of_le h.l5 n.fr.size,lB:=le_trans h.lB n.fr.size}
theorem ju.wantApp (h:ju w0 w c7 pc pp ps T X N A c5 x B c R K v l) {s:Nat} (g:w4.ownsRow B 3 1 v4 (l.length+1) (l.map iV++[iV s])) (b:Fr (λj=>v.ownBlock=some j) w w4) (d:∀j,v4.ownBlock=some j→v.ownBlock=some j∨w.heap.size≤j):
  ∃X',ju w0 w4 c7 pc pp ps T X' N A c5 x B c R K v4 (l++[s]):=by
 have f:∀j,v.ownBlock=some j→B≤j:=λj a=>(h.want.1.lt j a).1
 refine⟨_,{h with
  fl:=h.fl.grow b h.wx h.want.2 (λj a=>by have:=f j a;have:=h.b7;omega)
  idc:=za h.idc b (λe=>by have:=f _ e;have:=h.b5;omega)
  rows:=h.rows.frB b (λe=>by have:=f _ e;have:=h.rows.cB;omega) (λi hi j a e=>h.wap i hi j a e) (λ_ e=>.inl e)
  want:=⟨?_,λj a=>(d j a).elim (h.want.2 j) (λe t=>by have:=(h.fl.1.facts.1 j t).2.1;omega)⟩
  wx:=λj a=>(d j a).elim (λe=>.inl (h.wx j e)) (λe=>.inr ⟨e,(g.lt j a).2⟩)
  wap:=λi hi j a e=>(d j e).elim (h.wap i hi j a) (λe=>by have:=(h.rows.row i hi).1.lt j a;omega)
  l5:=lt_of_lt_of_le h.l5 b.size
  lB:=le_trans h.lB b.size}⟩
 rw[List.length_append,List.map_append]
 exact g
theorem ju.rowApp (h:ju w0 w c7 pc pp ps T X N A c5 x B c R K v l) {i:Nat} (hi:i<65) {y:zd} (G:w4.ownsRow B 41 32 v4 ((K i).length+1) ((K i).flatMap zf++zf y)) (g:Fr (λj=>(R i).ownBlock=some j) w w4) (s:∀j,v4.ownBlock=some j→(R i).ownBlock=some j∨w.heap.size≤j):
  ∃X',ju w0 (w4.setCell ⟨c,i,none⟩ v4) c7 pc pp ps T X' N A c5 x B c (qA R i v4) (zkr K i (K i++[y])) v l:=by
 have F:∀j,(R i).ownBlock=some j→B≤j:=λj a=>((h.rows.row i hi).1.lt j a).1
 have I:=h.fl.grow g (h.rows.own i hi) (h.rows.row i hi).2 (λj a=>by have:=F j a;have:=h.b7;omega)
 have q:Fr (λj=>j=c) w4 (w4.setCell ⟨c,i,none⟩ v4):=(Fr.refl (λj=>j=c) w4).setCell ⟨c,i,none⟩ (.inr rfl) _
 have E:∀j,v4.ownBlock=some j→¬T j:=λj a=>(s j a).elim ((h.rows.row i hi).2 j) (λe t=>by have:=(h.fl.1.facts.1 j t).2.1;omega)
 have p:Y3 T w4 B 41 32 v4 (K i++[y]).length ((K i++[y]).flatMap zf):=⟨by rw[List.length_append,List.flatMap_append];simpa using G,E⟩
 have H:=h.rows.cB
 have M:JH T (λj=>X j∨(w.heap.size≤j∧j<w4.heap.size)) (w4.setCell ⟨c,i,none⟩ v4) B c (qA R i v4) (zkr K i (K i++[y])):=by
  have z:∀k,k<65→k≠i→∀j,(R k).ownBlock=some j→¬(R i).ownBlock=some j:=λk d o j a e=>h.rows.ap k i d hi o j a e
  refine⟨?_,λk d=>?_,λk d=>?_,λk m d D o=>?_,.inl h.rows.cX,h.rows.cT,H⟩
  ·have L:=g.obj h.rows.obj (λe=>by have:=F _ e;omega)
   have C:=heap_setCell_same w4 c i _ _ v4 L
   rw[C,←zli (R:=R) hi v4]
   simp
  ·unfold qA zkr
   by_cases e:k=i
   ·rw[if_pos e,if_pos e]
    exact⟨zb p.1 q (λj a e=>by have:=(p.1.lt j a).1;omega),p.2⟩
   ·rw[if_neg e,if_neg e]
    have r:=h.rows.row k d
    exact⟨zb (zb r.1 g (z k d e)) q (λj a e=>by have:=(r.1.lt j a).1;omega),r.2⟩
  ·unfold qA
   by_cases e:k=i
   ·rw[if_pos e]
    exact λj a=>(s j a).elim (λe=>.inl (h.rows.own i hi j e)) (λe=>.inr ⟨e,(G.lt j a).2⟩)
   ·rw[if_neg e]
    exact λj a=>.inl (h.rows.own k d j a)
  ·unfold qA
   intro j a b
   by_cases e:k=i
   ·rw[if_pos e] at a
    rw[if_neg (by omega)] at b
    exact(s j a).elim (λf=>h.rows.ap i m hi D (by omega) j f b) (λf=>by have:=((h.rows.row m D).1.lt j b).2;omega)
   ·rw[if_neg e] at a
    by_cases e2:m=i
    ·rw[if_pos e2] at b
     exact(s j b).elim (λf=>z k d e j a f) (λf=>by have:=((h.rows.row k d).1.lt j a).2;omega)
    ·rw[if_neg e2] at b
     exact h.rows.ap k m d D o j a b
 refine⟨_,{h with
  fl:=I.set (.inl h.rows.cX) h.rows.cT h.n7 v4
  idc:=za (za h.idc g (λe=>by have:=F _ e;have:=h.b5;omega)) q h.n5
  rows:=M
  want:=⟨zb (zb h.want.1 g (λj a e=>h.wap i hi j e a)) q (λj a e=>by have:=(h.want.1.lt j a).1;omega),h.want.2⟩
  wx:=λj a=>.inl (h.wx j a)
  wap:=λk d j a e=>?_
  l5:=lt_of_lt_of_le h.l5 (le_trans g.size q.size)
  lB:=le_trans h.lB (le_trans g.size q.size)}⟩
 unfold qA at a
 by_cases e2:k=i
 ·rw[if_pos e2] at a
  exact(s j a).elim (λf=>h.wap i hi j f e) (λf=>by have:=(h.want.1.lt j e).2;omega)
 ·rw[if_neg e2] at a
  exact h.wap k d j a e
def Sep (w:World) (c:Nat) (R:Nat→Value) (v u:Value):Prop:=∀j,u.ownBlock=some j→j<w.heap.size∧v.ownBlock≠some j∧(∀i,i<65→(R i).ownBlock≠some j)∧j≠c
section
variable {k n:Nat} {ty:TypeId} {u:Value} {xs:List Value}
theorem ju.sepNew (h:ju w0 w c7 pc pp ps T X N A c5 x B c R K v l) (d:w'.ownsRow w.heap.size ty k u n xs):Sep w' c R v u:=λj b=>by
 have a:=d.lt j b
 refine⟨a.2,λe=>?_,λi hi e=>?_,λe=>?_⟩
 ·have:=(h.want.1.lt j e).2;omega
 ·have:=((h.rows.row i hi).1.lt j e).2;omega
 ·have:=h.rows.cB;have:=h.lB;omega
theorem Sep.fr0 (s:Sep w c R v u) (f:Fr No w w'):Sep w' c R v u:=λj a=>⟨lt_of_lt_of_le (s j a).1 f.size,(s j a).2⟩
theorem Sep.wantA (s:Sep w c R v u) (b:Fr (λj=>v.ownBlock=some j) w w4) (d:∀j,v4.ownBlock=some j→v.ownBlock=some j∨w.heap.size≤j) (o:Y3 T w 0 ty k u n xs):Y3 T w4 0 ty k u n xs∧Sep w4 c R v4 u:=
 ⟨⟨zb o.1 b (λj a e=>(s j a).2.1 e),o.2⟩,λj a=>⟨lt_of_lt_of_le (s j a).1 b.size,λe=>(d j e).elim (s j a).2.1 (λe=>by have:=(s j a).1;omega),(s j a).2.2⟩⟩
theorem Sep.rowA {i:Nat} (hi:i<65) (s:Sep w c R v u) (b:Fr (λj=>(R i).ownBlock=some j) w w4) (g:∀j,v4.ownBlock=some j→(R i).ownBlock=some j∨w.heap.size≤j) (o:Y3 T w 0 ty k u n xs):Y3 T (w4.setCell ⟨c,i,none⟩ v4) 0 ty k u n xs∧Sep (w4.setCell ⟨c,i,none⟩ v4) c (qA R i v4) v u:=by
 have f:Fr (λj=>j=c) w4 (w4.setCell ⟨c,i,none⟩ v4):=(Fr.refl (λj=>j=c) w4).setCell ⟨c,i,none⟩ (.inr rfl) _
 refine⟨⟨zb (zb o.1 b (λj a e=>(s j a).2.2.1 i hi e)) f (λj a e=>(s j a).2.2.2 e),o.2⟩,λj a=>⟨lt_of_lt_of_le (s j a).1 (le_trans b.size f.size),(s j a).2.1,λm h=>?_,(s j a).2.2.2⟩⟩
 unfold qA
 by_cases e:m=i
 ·rw[if_pos e]
  exact λd=>(g j d).elim ((s j a).2.2.1 i hi) (λd=>by have:=(s j a).1;omega)
 ·rw[if_neg e]
  exact(s j a).2.2.1 m h
end
end
end Go.Proofs.YtdkkjchclkjleaaGreatDoor
