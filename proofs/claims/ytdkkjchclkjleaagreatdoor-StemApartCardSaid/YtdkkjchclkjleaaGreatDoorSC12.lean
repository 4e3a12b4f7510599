/- tx.Same of what is the same. -/
import Derived.Laws.BytesArg
import Derived.Laws.BytesString
import Derived.Laws.Strings
import Derived.Test.YtdkkjchclkjleaaGreatDoorSC10
import Derived.Test.YtdkkjchclkjleaaGreatDoorSC11
import Derived.Test.YtdkkjchclkjleaaGreatDoorSC2
set_option linter.unusedVariables false
set_option linter.unusedSimpArgs false
set_option linter.unnecessarySimpa false
set_option linter.all false
set_option maxRecDepth 20000
set_option maxHeartbeats 16000000
namespace Go.Proofs.YtdkkjchclkjleaaGreatDoor
open Go Go.RowKit Go.Maps Go.MapKept
open Go.Proofs.Tryz(prog)
open Nat(le_refl zero_le le_trans lt_of_lt_of_le)
open List(getElem?_eq_getElem mem_of_getElem? length_map)
theorem XY {a b:Option Addr} {n m c d:Nat} (h:Value.slice a n c=.slice b m d):a=b∧n=m∧c=d:=by
 injection h with h1 h2 h3
 exact⟨h1,h2,h3⟩
theorem zlK {x:Int} (h:0≤x∧x≤18446744073709551615):(Lit.int .u64 x).wf=true:=by
 simp[Lit.wf,IntKind.min,IntKind.max,IntKind.signed,IntKind.bits]
 omega
theorem zax:xS prog 103=[(48,0,true),(41,1,true)]:=by kernel_rfl
theorem zh5 {o:yE} (h:o.ok) (d:Nat):∀x∈xS prog 103,∃l,prog.keyLits (d+2) x.1 (((zJ o).drop x.2.1).take (prog.cellsOf x.1))=some l:=by
 rw[zax]
 intro x a
 simp only[List.mem_cons,List.not_mem_nil,or_false] at a
 rcases a with rfl|rfl
 ·have e:((zJ o).drop 0).take (prog.cellsOf 48)=[.int .u64 o.value]:=by
   rw[show prog.cellsOf 48=1 by kernel_rfl];rfl
  simp only[e]
  exact⟨_,JO (by kernel_rfl) _ (zlK h.1)⟩
 ·have e:((zJ o).drop 1).take (prog.cellsOf 41)=o.lock.map zM:=by
   rw[show prog.cellsOf 41=32 by kernel_rfl]
   show(o.lock.map zM).take 32=o.lock.map zM
   rw[List.take_of_length_le (by simp[h.2.1])]
  simp only[e]
  exact Vo h.2 d
theorem zcT {o:yE} (h:o.ok):∃l,keyOf prog 103 (zcp o)=some l:=by
 have a:prog.types.size=prog.types.size-2+2:=by kernel_rfl
 refine JA zax (by simp) (by decide) (by kernel_rfl) (cs:=zJ o) (by rw[yr h];kernel_rfl) ?_
 rw[a,←zax]
 exact zh5 h _
theorem zmy:EqN prog 103:=⟨Keyed.of_law (deep_law_laid Yq (m:=3) (by decide) (of_decide_eq_true (by kernel_rfl)) (by kernel_rfl) (by kernel_rfl)),⟨3,by decide,by kernel_rfl⟩,by kernel_rfl,by kernel_rfl⟩
theorem zkq:prog.underlying 9=some .string:=by kernel_rfl
theorem zkp:prog.underlying 106=some (.slice 5):=by kernel_rfl
theorem zkr:prog.underlying 5=some (.int .u8):=by kernel_rfl
theorem zhx (w:World) (a:Option Addr) (c:Nat):(convert 106 9 (.slice a 0 c)).run prog w=.ok (.string (strOfNums [])) w:=by
 rw[run_convert_bytes_string w 106 9 5 a 0 c zkp zkr zkq]
 cases a<;>simp[Conv.bytesToString,loadCells]
 all_goals rfl
theorem zeo {w:World} {a:Option Addr} {n c:Nat} {k:List Int} (h:y7 w (.slice a n c) n (k.map zM)) (f:k.length=n):(convert 106 9 (.slice a n c)).run prog w=.ok (.string (strOfNums k)) w:=by
 rcases Nat.eq_zero_or_pos n with hn|hn
 ·subst hn
  have g:k=[]:=List.eq_nil_of_length_eq_zero f
  rw[g]
  exact zhx w a c
 ·rcases h with(⟨e,j,-⟩|⟨b,off,d,e,m,o,l,p⟩)|⟨a',d,e,j,-⟩
  ·omega
  ·injection e with e1 j e3
   subst e1 e3
   exact run_convert_bytes_arg (P:=prog) w 106 5 zkp zkr b off n _ k f (λi hi=>by
    have:=l i (zM (k.getD i 0)) (by rw[List.getElem?_map,getElem?_eq_getElem (by omega)];simp[f,hi])
    exact this) 9 zkq
  ·omega
theorem zdr (w:World) {a b:Option Addr} {c d:Nat} {k:List Int} (f:y7 w (.slice a k.length c) k.length (k.map zM)) (g:y7 w (.slice b k.length d) k.length (k.map zM)):
  Calls prog 68 #[.slice a k.length c,.slice b k.length d] w λe w'=>e=.returned (.bool true)∧Fr No w w':=by
 have h:=zeo f rfl
 have i:=zeo g rfl
 clear f g
 generalize strOfNums k=s at*
 go_enter Tryz.func68,Tryz.ntmps68
 go_wp2_with fail
 go_ret
 exact⟨by simp,Fr.refl _ _⟩
theorem zet (w:World) {u v:Value} {l:List yE} (a:xy w u l) (p:xy w v l) (I:l.length≤1000):
  Calls prog 67 #[u,v] w λe w'=>e=.returned (.bool true)∧Fr No w w':=by
 obtain⟨H,y,t⟩:=Z0
 obtain⟨O,P,rfl⟩:=a.2.form
 obtain⟨Q,R,rfl⟩:=p.2.form
 have s:=J a
 have B:=J p
 clear a p
 go_enter Tryz.func67,Tryz.ntmps67
 go_wp2_with fail
 go_loopw [13] (λq wr=>∃n:Nat,q=.int .i64 n∧n≤l.length∧Fr No w wr) (λq _=>l.length-(intOf q).toNat)
 case atStart=>exact⟨0,rfl,zero_le _,Fr.refl _ _⟩
 case round=>
  obtain⟨n,rfl,L,fr⟩:=hrel
  have g:=J fr
  clear fr
  by_cases m:n<l.length
  ·have C:(n:Int)<(l.length:Int):=by omega
   obtain⟨x,a⟩:∃x,l[n]? =some x:=⟨_,getElem?_eq_getElem m⟩
   obtain⟨bx,D,F,d,b,-⟩:=(s.o.keep g.o).at_ a
   obtain⟨k,E,G,f,c,-⟩:=(B.o.keep g.o).at_ a
   obtain⟨rfl,-,rfl⟩:=XY d
   obtain⟨rfl,-,rfl⟩:=XY f
   have j:=J (s.o.1 x (mem_of_getElem? a))
   have r:=J (yr j.o)
   have i:=J ((frN wr).drew)
   have z:=J (za b i.o id)
   have A:=J (za c i.o id)
   clear b c d f a
   go_wp2_with fail
   refine wrLx [ff,ff,ff,ff,ff,ff,ff,ff,ff] (λW=>W.rangeAt bx (D+n*33) (zJ x)∧W.rangeAt k (E+n*33) (zJ x)) ?_ (λK hK=>?_)
   ·exact⟨z.o,A.o⟩
   repeat((first|(refine zj rfl ?_;constructor;constructor;(focus(first|exact yK (ty:=103) rfl (λw h=>h.1) y t (by rw[r.o];exact yz)|exact yK (ty:=103) rfl (λw h=>h.2) y t (by rw[r.o];exact yz)|exact λw' h=>zmy.exec_neq (u:=(zJ x).toArray) (v:=(zJ x).toArray) rfl rfl rfl (zcT j.o) (zcT j.o) true ⟨λ_=>rfl,λ_=>rfl⟩ w'|(rintro w' ⟨M,N⟩;go_simp;(try with_reducible rfl);done))))|(refine zl rfl ?_));try simp only[Act.put,pA,pB,pC])
   refine zL (hK.out _ _ ?_)
   go_wp2_with fail
   go_roundw
   case rel=>exact⟨n+1,by go_num,by omega,g.o.trans0 i.o⟩
   case measure=>simp[intOf];omega
  ·have o:n=l.length:=by omega
   have C:¬(n:Int)<(l.length:Int):=by omega
   clear o
   go_wp2_with fail
   go_ret
   exact⟨rfl,g.o⟩
theorem zik (w:World) {t:TxD} {cs ds:List Value} (P:TxQ w t cs) (hy:TxQ w t ds) (hI:t.ins.length≤1000) (hO:t.outs.length≤1000):
  Calls prog 34 #[.agg cs.toArray,.agg ds.toArray] w λe w'=>e=.returned (.bool true)∧Fr No w w':=by
 obtain⟨d,g,k,l,rfl,-,xi,xo⟩:=P
 obtain⟨ja,Q,qa,qc,rfl,-,yi,yo⟩:=hy
 have zI:=Zn
 have zO:=xm
 have f1:Fr No w (w.alloc (.cells #[.int .u32 t.ver,.slice d t.ins.length g,.slice k t.outs.length l] 34)):=(frN w).alloc _
 have F:Fr No (w.alloc (.cells #[.int .u32 t.ver,.slice d t.ins.length g,.slice k t.outs.length l] 34)) ((w.alloc (.cells #[.int .u32 t.ver,.slice d t.ins.length g,.slice k t.outs.length l] 34)).alloc (.cells #[.int .u32 t.ver,.slice ja t.ins.length Q,.slice qa t.outs.length qc] 34)):=(frN _).alloc _
 obtain⟨a0,a1,a2,-⟩:=qN w t.ver (.slice d t.ins.length g) (.slice k t.outs.length l)
 obtain⟨b0,X,b2,-⟩:=qN (w.alloc (.cells #[.int .u32 t.ver,.slice d t.ins.length g,.slice k t.outs.length l] 34)) t.ver (.slice ja t.ins.length Q) (.slice qa t.outs.length qc)
 rw[show(w.alloc (.cells #[.int .u32 t.ver,.slice d t.ins.length g,.slice k t.outs.length l] 34)).heap.size=w.heap.size+1 by simp] at b0 X b2
 have c1:=F.cell a1 _root_.id
 have c2:=F.cell a2 _root_.id
 have S:=J X
 have c:=J (f1.trans0 F)
 have T:=J (xi.keep0 c.o)
 have U:=J (yi.keep0 c.o)
 have XO:=J (xo.keep c.o)
 have YO:=J (yo.keep c.o)
 clear f1 xi yi xo yo a1 a2
 have c0:=F.cell a0 _root_.id
 clear a0 F
 show Calls prog 34 #[.agg #[.int .u32 t.ver,.slice d t.ins.length g,.slice k t.outs.length l],.agg #[.int .u32 t.ver,.slice ja t.ins.length Q,.slice qa t.outs.length qc]] w _
 go_enter Tryz.func34,Tryz.ntmps34
 have V:=tru
 go_wp2_with (clear V;go_at_call 67;refine(zet _ XO.o YO.o hO).mono ?_;rintro e w3 ⟨rfl,Y⟩;have s:=J Y;have d1:=Y.cell c1 _root_.id;clear Y;go_frame)
 have r:=J (c.o.trans0 s.o)
 have D:=J (T.o.keep0 s.o)
 have E:=J (U.o.keep0 s.o)
 have q:=J (s.o.cell S.o _root_.id)
 clear T U S c s XO YO
 have c:=r
 have T:=D
 have U:=E
 have S:=q
 clear r D E q
 generalize w3=w2 at*
 clear d1
 clear c0 c1 c2 b0 X b2
 go_loopw [32] (λiv wr=>∃n:Nat,iv=.int .i64 n∧n≤t.ins.length∧Fr No w2 wr) (λiv _=>t.ins.length-(intOf iv).toNat)
 case atStart=>exact⟨0,rfl,zero_le _,Fr.refl _ _⟩
 case round=>
  obtain⟨n,rfl,hn,fr⟩:=hrel
  have y:=J fr
  clear fr
  by_cases I:n<t.ins.length
  ·have i1:(n:Int)<(t.ins.length:Int):=by omega
   obtain⟨x,P⟩:∃x,t.ins[n]? =some x:=⟨_,getElem?_eq_getElem I⟩
   obtain⟨bx,ox,cx,xs,N,L,i,j,rfl,b,G⟩:=(T.o.keep0 y.o).at_ P
   obtain⟨a,o,cy,ys,O,M,ma,mc,rfl,-,H⟩:=(U.o.keep0 y.o).at_ P
   obtain⟨rfl,-,rfl⟩:=XY N
   obtain⟨rfl,-,rfl⟩:=XY O
   have C:=J b
   have PL:=J (zY b)
   have IL:=J (vo b (.slice i x.key.length j))
   have R1:=J L
   have R2:=J (zcO M b)
   have KX:=J G
   have KY:=J H
   have m:=J ((frN wr).alloc (.cells (inC x.from_ (.slice i x.key.length j)).toArray 108))
   have B:=J (YN wr (p:=x.from_) (kv:=.slice i x.key.length j) b)
   clear L M G H N O P b
   have⟨V,K1⟩:=tZ2
   go_wp2_with ((first|((with_reducible refine zt ?_);clear V;refine zn0 rfl rfl rfl R1.o IL.o ?_)|((with_reducible refine zv ?_);clear K1;refine zn9 (w:=wr) (cs:=inC x.from_ (.slice i x.key.length j)) rfl rfl rfl rfl IL.o jQ ?_;generalize wr.alloc (.cells (inC x.from_ (.slice i x.key.length j)).toArray 108)=R at*));go_frame)
   have SD:=J (λ(W:World) (f:Fr No R W)=>(⟨za B.o.1 f _root_.id,f.cell B.o.2 _root_.id,((y.o.trans0 m.o).trans0 f).cell S.o _root_.id,za R2.o.1 (m.o.trans0 f) _root_.id,(m.o.trans0 f).cell R2.o.2 _root_.id⟩:W.rangeAt wr.heap.size 0 (zn x.from_)∧W.cell? ⟨wr.heap.size,33,none⟩=some (.slice i x.key.length j)∧W.cell? ⟨w.heap.size+1,1,none⟩=some (.slice (some ⟨a,o,none⟩) t.ins.length Q)∧W.rangeAt a (o+n*34) (zn x.from_)∧W.cell? ⟨a,o+n*34+33,none⟩=some (.slice ma x.key.length mc)))
   have A:=@J (Fr No R R.drew) ((frN R).drew)
   refine wrLx [ff,ff,ff,ff,ff,ff,ff,ff,ff,ff,ff,ff,ff,ff,ff,ff,ff,ff,tt,ff,ff] (λW=>W.rangeAt wr.heap.size 0 (zn x.from_)∧W.cell? ⟨wr.heap.size,33,none⟩=some (.slice i x.key.length j)∧W.cell? ⟨w.heap.size+1,1,none⟩=some (.slice (some ⟨a,o,none⟩) t.ins.length Q)∧W.rangeAt a (o+n*34) (zn x.from_)∧W.cell? ⟨a,o+n*34+33,none⟩=some (.slice ma x.key.length mc)) ?_ (λK hK=>?_)
   ·exact SD.o _ A.o
   generalize R.drew=z at*
   repeat((first|(refine zj rfl ?_;constructor;constructor;(focus(first|exact zn6 rfl (λw h=>h.1) PL.o|exact zn6 rfl (λw h=>h.2.2.2.1) PL.o|exact λw' h=>Jf.exec_neq (u:=(zn x.from_).toArray) (v:=(zn x.from_).toArray) rfl rfl rfl (xP C.o) (xP C.o) true ⟨λ_=>rfl,λ_=>rfl⟩ w'|(rintro w' ⟨s1,s2,s3,s4,s5⟩;go_simp;(try with_reducible rfl);done))))|(refine zl rfl ?_));try simp only[Act.put,pA,pB,pC])
   (refine zE rfl (λK' hK'=>?_))
   go_simp
   refine(zdr z (KX.o.2.keep (m.o.trans0 A.o)) (KY.o.2.keep (m.o.trans0 A.o))).mono ?_
   rintro e w5 ⟨rfl,f5⟩
   have F5:=J f5
   clear f5
   refine nXt hK' ?_ λhS=>?_
   ·exact SD.o _ (A.o.trans0 F5.o)
   try simp only[Act.put,pA,pB,pC]
   repeat((first|(refine zj rfl ?_;constructor;constructor;(focus(first|(rintro w' ⟨s1,s2,s3,s4,s5⟩;go_simp;(try with_reducible rfl);done))))|(refine zl rfl ?_));try simp only[Act.put,pA,pB,pC])
   refine zL (hK.out _ _ ?_)
   go_wp2_with fail
   go_roundw
   case rel=>exact⟨n+1,by go_num,by omega,(y.o.trans0 m.o).trans0 (A.o.trans0 F5.o)⟩
   case measure=>simp[intOf];omega
  ·have Z:n=t.ins.length:=by omega
   subst Z
   clear I hn
   have i1:¬(t.ins.length:Int)<(t.ins.length:Int):=by omega
   go_wp2_with fail
   go_ret
   exact⟨rfl,c.o.trans0 y.o⟩
def Zf:zd:=x9 []
def exA:TxD:=⟨0,[⟨⟨yO,0⟩,[]⟩],[⟨400,Zf⟩]⟩
def exB:TxD:=⟨1,[⟨⟨yO,0⟩,[]⟩],[⟨400,yO⟩]⟩
def exD:TxD:=⟨0,[⟨⟨idH exA,0⟩,[]⟩],[⟨300,yO⟩]⟩
def exS:List zr:=jR [] (ZJ yO [⟨500,Zf⟩])
def eA:StE:=⟨idH exA,exA⟩
def eB:StE:=⟨idH exB,exB⟩
def eD:StE:=⟨idH exD,exD⟩
set_option maxRecDepth 100000
theorem ex1:jY exS [] [] [] exA=0:=by decide+kernel
theorem ex2:jY exS [] [] [eA] exB=14:=by decide+kernel
theorem ex3:jY exS [] [] [] exB=0:=by decide+kernel
theorem ex4:jY exS [] [] [] exD=15:=by decide+kernel
theorem ex5:jY exS [] [] [eA] exD=0:=by decide+kernel
theorem ex6:qB [eA,eD] (idH exD)=[idH exD,idH exA]:=by decide+kernel
theorem ex7:idE exA=0:=by decide+kernel
theorem ex8:idE exD=0:=by decide+kernel
theorem ex9:jK [eA,eD] (idH exD)=[eA,eD]∧Ql [eA,eD] (idH exD)=[]:=by
 unfold jK Ql
 rw[ex6]
 simp[eA,eD]
theorem zaF {P:Program} {t:TypeId} {n:Nat} {b:List (Nat×Nat)} {vs:List (Nat×Value)} {z:Value} (h:xI P t=some (n,b)) (a:(P.info? t).bind (·.zero)=some z) (c:Jw (b.toArray[·]?) 0 vs) (e:(xG vs).length≤z.cells.size):P.built t vs=some (xG vs++z.cells.toList.drop (xG vs).length).toArray:=by
 unfold xI at h
 unfold Program.built
 cases hi:P.info? t with
 |none=>simp[hi] at h
 |some it=>
  cases hu:P.underlying t with
  |none=>simp[hi,hu] at h
  |some d=>
   cases d<;>try(simp[hi,hu] at h;done)
   rename_i fs
   rw[hi] at a
   simp only[Option.bind_some] at a
   cases hp:fs.toList.mapM (λf=>(P.info? f.type).map λi=>(f.offset,i.size)) with
   |none=>simp[hi,hu,a,hp] at h
   |some places=>
    simp[hi,hu,a,hp] at h
    obtain⟨rfl,rfl⟩:=h
    simp only[a,hp]
    have:=Vi (places.toArray[·]?) vs [] z.cells.toList c (by rw[Array.length_toList];exact e)
    simp only[List.nil_append,Array.toArray_toList] at this
    rw[this]
theorem zfy {x I B y p:World} {H o ps ma ms g m n:Nat} {s c:Nat→Prop} {q:List zr} (b:Gd I B H s q q []) (O:Fr No x I) (z:Fr No B y) (v:∀j,poV o ma ms c j→B.heap.size≤j) (u:∀X:Nat→Prop,(∀j,poV o ma ms c j→X j)→∀C,yn x y o ma ms g c X C [] 0)
  (A:Fr No y p) (l:∀j,stV ps m n RZ0 j→y.heap.size≤j) (w:∀X:Nat→Prop,(∀j,stV ps m n RZ0 j→X j)→∀C,yM x p ps m n RZ0 X C (λ_=>[])):
  ∃T:Nat→Prop,(∀X:Nat→Prop,(∀j,T j→X j)→(∀j,X j→j<p.heap.size)→WS x p H o ps T X 0 ⟨q,q,[],[],λ_=>[]⟩)∧∀j,T j→I.heap.size≤j∧j<p.heap.size:=by
 obtain⟨css,K⟩:=b.x
 have F:=K.cl
 have E:css=[]:=List.eq_nil_of_length_eq_zero F
 subst E
 have M:=u (poV o ma ms c) (λ_ h=>h) (λ_=>[])
 have t:∀j,poV o ma ms c j→j<y.heap.size:=M.hi
 have N:=w (stV ps m n RZ0) (λ_ h=>h) (λ_ _=>[])
 have G:∀j,stV ps m n RZ0 j→j<p.heap.size:=N.hi
 have a:∀j,s j→j<B.heap.size:=b.hi
 refine⟨wT s o ma ms c ps m n RZ0,λX D Q=>⟨s,[],ma,ms,g,c,λ_=>[],m,n,RZ0,λ_ _=>[],?_,rfl⟩,λj k=>?_⟩
 ·have L:CX x p H s X q q [] []:=zmk ⟨(K.fr0 z).fr0 A,b.srt0,b.ok0,b.len0,λi d cs f r=>by simp at f⟩ O
  exact
   {ch:=L
    po:=(u X (λj k=>D j (.inr (.inl k))) _).fr0 A
    st:=w X (λj k=>D j (.inr (.inr k))) _
    cp:=λj f r=>by have:=a j f;have:=v j r;omega
    csd:=λj f r=>by have:=a j f;have:=l j r;have:=z.size;omega
    psd:=λj f r=>by have:=t j f;have:=l j r;omega
    cx:=λj k=>D j (.inl k)
    xl:=Q
    val:=.nil
    l32:=by simp
    ad:=λe P=>by cases P}
 ·rcases k with e|e|e
  ·have:=a j e;have:=z.size;have:=A.size
   exact⟨b.lo j e,by omega⟩
  ·have:=t j e;have:=A.size;have:=v j e;have:=b.fr.size
   exact⟨by omega,by omega⟩
  ·have:=l j e;have:=b.fr.size;have:=z.size
   exact⟨by omega,G j e⟩
theorem zbH {a S:List zr} {Q:StQ} {n:Nat} (d:n<65) {l:List StE} (c:Q n=l) {t:TxD} (h:jY S [] [] l t=0):Jp ⟨a,S,[],[],Q⟩ n t=0∧JJ ⟨a,S,[],[],Q⟩ n t=⟨a,S,[],[],vu Q n (l++[⟨idH t,t⟩])⟩:=by
 have hi:¬((n:Int)<0∨64<(n:Int)):=by omega
 subst c
 unfold Jp JJ
 rw[if_neg hi,if_neg hi]
 dsimp only
 rw[Int.toNat_natCast]
 have b:jY S (yd []) [] (Q n) t=0:=h
 refine⟨b,?_⟩
 unfold Qg
 rw[if_pos b]
theorem zeK {a S:List zr} {Q:StQ} {n:Nat} (f:n<65) {l:List StE} (e:Q n=l) {t:TxD} {c:Int} (d:c≠0) (h:jY S [] [] l t=c):Jp ⟨a,S,[],[],Q⟩ n t=c∧JJ ⟨a,S,[],[],Q⟩ n t=⟨a,S,[],[],Q⟩:=by
 have hi:¬((n:Int)<0∨64<(n:Int)):=by omega
 subst e
 unfold Jp JJ
 rw[if_neg hi,if_neg hi]
 dsimp only
 rw[Int.toNat_natCast]
 have b:jY S (yd []) [] (Q n) t=c:=h
 refine⟨b,?_⟩
 unfold Qg
 rw[if_neg (by rw[b];exact d),zd3]
def zjm:StQ:=λ_=>[]
def zeu:StQ:=vu zjm 3 [eA]
def zev:StQ:=vu zeu 64 [eB]
def zaf:StQ:=vu zev 3 [eA,eD]
def zdx:StQ:=vu zaf 3 []
theorem zjo:ZO zdx=[64]:=by
 have h:∀i∈List.range 65,decide (zdx i≠[])=decide (i=64):=by
  intro i _
  unfold zdx zaf zev zeu zjm vu
  by_cases h3:i=3
  ·subst h3;simp
  ·by_cases h64:i=64
   ·subst h64;simp
   ·simp[h3,h64]
 unfold ZO
 rw[List.filter_congr h]
 decide
theorem zc3:xI prog 103=some (33,[(0,1),(1,32)]):=by kernel_rfl
theorem zex (v:Int) {x:zd} (h:zX x):Jw (([(0,1),(1,32)]:List (Nat×Nat)).toArray[·]?) 0 [(0,.int .u64 v),(1,.agg (zf x).toArray)]:=by
 have h:(Value.agg (zf x).toArray).cells.size=32:=by show(zf x).toArray.size=32;simpa using zx h
 exact⟨rfl,by rw[h];rfl,trivial⟩
theorem zc2 (v:Int) (x:zd):xG [(0,.int .u64 v),(1,.agg (zf x).toArray)]=zJ ⟨v,x⟩:=by simp[xG,Value.cells,zJ,zf]
theorem ziV (w:World):(Instr.build 108 #[]).run prog w=.ok (.agg (inC xQ (.slice none 0 0)).toArray) w:=by kernel_rfl
theorem zkH (w:World):(Instr.build 103 #[(0,.int .u64 400)]).run prog w=.ok (.agg (zJ ⟨400,yO⟩).toArray) w:=by kernel_rfl
theorem zkG (w:World):(Instr.build 103 #[(0,.int .u64 300)]).run prog w=.ok (.agg (zJ ⟨300,yO⟩).toArray) w:=by kernel_rfl
theorem ziY (a b:Option Addr) (n c m d:Nat) (w:World):(Instr.build 34 #[(1,.slice a n c),(2,.slice b m d)]).run prog w=.ok (.agg [.int .u32 0,.slice a n c,.slice b m d].toArray) w:=by kernel_rfl
theorem zmi (a b:Option Addr) (n c m d:Nat) (w:World):(Instr.build 34 #[(0,.int .u32 1),(1,.slice a n c),(2,.slice b m d)]).run prog w=.ok (.agg [.int .u32 1,.slice a n c,.slice b m d].toArray) w:=by kernel_rfl
theorem zia:xI prog 95=some (33,[(0,32),(32,1)]):=by kernel_rfl
theorem zlQ:(prog.info? 95).bind (·.zero)=some (.agg (zn xQ).toArray):=by kernel_rfl
theorem zi4 {x:zd} (h:zX x):prog.built 95 [(0,.agg (zf x).toArray)]=some (zn ⟨x,0⟩).toArray:=by
 have a:(Value.agg (zf x).toArray).cells.size=32:=by show(zf x).toArray.size=32;simpa using zx h
 have e:xG [(0,.agg (zf x).toArray)]=zf x:=by simp[xG,Value.cells]
 have:=zaF (P:=prog) (t:=95) (vs:=[(0,.agg (zf x).toArray)]) zia zlQ ⟨by rw[a];rfl,trivial⟩ (by rw[e,zx h];decide)
 rw[this,e,zx h]
 rfl
theorem zh9:xI prog 108=some (34,[(0,33),(33,1)]):=by kernel_rfl
theorem zlO:(prog.info? 108).bind (·.zero)=some (.agg (inC xQ (.slice none 0 0)).toArray):=by kernel_rfl
theorem zi2 {q:zF} (h:q.ok):prog.built 108 [(0,.agg (zn q).toArray)]=some (inC q (.slice none 0 0)).toArray:=by
 have a:(Value.agg (zn q).toArray).cells.size=33:=by show(zn q).toArray.size=33;simpa using zY h
 have e:xG [(0,.agg (zn q).toArray)]=zn q:=by simp[xG,Value.cells]
 have:=zaF (P:=prog) (t:=108) (vs:=[(0,.agg (zn q).toArray)]) zh9 zlO ⟨by rw[a];rfl,trivial⟩ (by rw[e,zY h];decide)
 rw[this,e,zY h]
 rfl
theorem zcZ {w:World} {b:Nat} {o:yE} (h:w.heap[b]? =some (.cells (zJ o).toArray 103 (0,0))) (ok:o.ok):xy w (.slice (some ⟨b,0,none⟩) 1 1) [o]:=
 ⟨λx a=>by simp at a;subst a;exact ok,.inl (.inr ⟨b,0,1,rfl,le_refl _,by decide,λj u c=>by
  have:=zq h j u (by simpa using c)
  simpa using this,yG h⟩)⟩
theorem zjq {w:World} {a b:Nat} {v:Int} {p:zF} {o:yE} (c:w.heap[a]? =some (.cells (inC p (.slice none 0 0)).toArray 108 (0,0))) (e:w.heap[b]? =some (.cells (zJ o).toArray 103 (0,0))) (g:p.ok) (f:o.ok) (h:0≤v∧v≤4294967295):TxQ w ⟨v,[⟨p,[]⟩],[o]⟩ [.int .u32 v,.slice (some ⟨a,0,none⟩) 1 1,.slice (some ⟨b,0,none⟩) 1 1]:=by
 refine⟨some ⟨a,0,none⟩,1,some ⟨b,0,none⟩,1,rfl,h,?_,zcZ e f⟩
 refine⟨some ⟨a,0,none⟩,1,rfl,by unfold maxLen;simp,λi d hi=>?_⟩
 cases i with
 |zero=>
  simp at hi
  subst hi
  refine⟨a,0,inC p (.slice none 0 0),rfl,by have:=zq c;simpa using this,none,0,rfl,g,by simp,?_⟩
  exact .inl (.inl ⟨rfl,rfl,rfl⟩)
 |succ i=>simp at hi
theorem zdy {w:World} {X:Nat→Prop} {a b:Nat} {v:Int} {p:zF} {o:yE} (c:w.heap[a]? =some (.cells (inC p (.slice none 0 0)).toArray 108 (0,0))) (d:w.heap[b]? =some (.cells (zJ o).toArray 103 (0,0))) (g:p.ok) (e:o.ok) (h:0≤v∧v≤4294967295) (i:¬X a) (j:¬X b):Kept X w (λw=>TxQ w ⟨v,[⟨p,[]⟩],[o]⟩ [.int .u32 v,.slice (some ⟨a,0,none⟩) 1 1,.slice (some ⟨b,0,none⟩) 1 1]):=
 λ_ f=>zjq (f.obj c i) (f.obj d j) g e h
section
variable {w0 w w':World} {pc pp ps N N':Nat} {T X T' X':Nat→Prop} {A A':WA}
theorem qj.kept (n:qj w0 w w' pc pp ps T X N' A' T' X') (h:WS w0 w pc pp ps T X N A) {Q:World→Prop} (k:Kept X w Q):Kept X' w' Q:=
 k.step (n.fr.mono (λj a=>(h.facts.1 j a).2.2)) (λj a e=>(n.xn j e).resolve_right (by omega))
theorem qj.out (n:qj w0 w w' pc pp ps T X N' A' T' X') {b:Nat} (a:¬T b) (c:b<w.heap.size):¬T' b:=λe=>(n.tn b e).elim a (by omega)
end
def zdl (T:Nat→Prop) (w:World) (b:Nat) (cs:List Value):Prop:=w.rangeAt b 0 cs∧¬T b∧b<w.heap.size
theorem zdl.fr0 {T:Nat→Prop} {w w':World} {b:Nat} {cs:List Value} (h:zdl T w b cs) (f:Fr No w w'):zdl T w' b cs:=⟨za h.1 f id,h.2.1,lt_of_lt_of_le h.2.2 f.size⟩
theorem zdl.next {w0 w w':World} {pc pp ps N':Nat} {T X T' X':Nat→Prop} {A':WA} {b:Nat} {cs:List Value} (h:zdl T w b cs) (n:qj w0 w w' pc pp ps T X N' A' T' X'):zdl T' w' b cs:=⟨za h.1 n.fr h.2.1,n.out h.2.1 h.2.2,lt_of_lt_of_le h.2.2 n.fr.size⟩
theorem znA:Jp ⟨exS,exS,[],[],zjm⟩ 3 exA=0∧JJ ⟨exS,exS,[],[],zjm⟩ 3 exA=⟨exS,exS,[],[],zeu⟩:=zbH (n:=3) (by decide) (l:=[]) rfl ex1
theorem znB:Jp ⟨exS,exS,[],[],zeu⟩ 3 exB=14∧JJ ⟨exS,exS,[],[],zeu⟩ 3 exB=⟨exS,exS,[],[],zeu⟩:=zeK (n:=3) (by decide) (l:=[eA]) rfl (by decide) ex2
theorem znC:Jp ⟨exS,exS,[],[],zeu⟩ 64 exB=0∧JJ ⟨exS,exS,[],[],zeu⟩ 64 exB=⟨exS,exS,[],[],zev⟩:=zbH (n:=64) (by decide) (l:=[]) rfl ex3
theorem znD:Jp ⟨exS,exS,[],[],zev⟩ 4 exD=15∧JJ ⟨exS,exS,[],[],zev⟩ 4 exD=⟨exS,exS,[],[],zev⟩:=zeK (n:=4) (by decide) (l:=[]) rfl (by decide) ex4
theorem znE:Jp ⟨exS,exS,[],[],zev⟩ 3 exD=0∧JJ ⟨exS,exS,[],[],zev⟩ 3 exD=⟨exS,exS,[],[],zaf⟩:=zbH (n:=3) (by decide) (l:=[eA]) rfl ex5
theorem zjn:zaf 3=[eA,eD]:=rfl
theorem zjp:jK (zaf 3) (idH exD)=[eA,eD]∧vu zaf 3 (Ql (zaf 3) (idH exD))=zdx:=by
 rw[zjn,ex9.1,ex9.2]
 exact⟨rfl,rfl⟩
theorem zkU {w0 w:World} {pc pp ps N:Nat} {T X:Nat→Prop} (h:WS w0 w pc pp ps T X N ⟨exS,exS,[],[],zaf⟩):
  Calls prog 14 #[.pointer (some ⟨ps,0,none⟩),.int .i64 3,.agg (zf (idH exD)).toArray] w λe w'=>∃g a cs,e=.returned (.tuple #[.slice (some ⟨g,0,none⟩) 2 a,.int .i64 0])∧w'.rangeAt g 0 cs∧TxQ w' exA cs∧∃T',qj w0 w w' pc pp ps T X N ⟨exS,exS,[],[],zdx⟩ T' X:=by
 have b:idH exD∈yV ((⟨exS,exS,[],[],zaf⟩:WA).Q 3):=by
  show idH exD∈yV (zaf 3)
  rw[zjn]
  simp[yV,eD]
 refine(zkl (n:=3) h (by decide) b).mono λe w' ⟨tv,m,r,l,c,T',_,k⟩=>?_
 have o:jK ((⟨exS,exS,[],[],zaf⟩:WA).Q 3) (idH exD)=[eA,eD]:=zjp.1
 have p:vu (⟨exS,exS,[],[],zaf⟩:WA).Q 3 (Ql ((⟨exS,exS,[],[],zaf⟩:WA).Q 3) (idH exD))=zdx:=zjp.2
 rw[o] at l c
 rw[p] at k
 have j:=(c eA (by simp)).now
 have q:=(c eD (by simp)).now
 obtain⟨g,a,rfl,s,-⟩:=JB (f:=m) (L:=[eA,eD]) (i:=0) (x:=eA) (by decide) (λx d=>by
  rcases List.mem_cons.1 d with rfl|d
  ·exact(YV j).1
  ·obtain rfl:=List.mem_singleton.1 d
   exact(YV q).1) l rfl
 exact⟨g,a,m eA,r,by simpa using s,j,T',k⟩
theorem zmA {w0 w:World} {pc pp ps N:Nat} {T X:Nat→Prop} (h:WS w0 w pc pp ps T X N ⟨exS,exS,[],[],zdx⟩):
  Calls prog 13 #[.pointer (some ⟨ps,0,none⟩),.int .i64 3] w λe w'=>∃a c,e=.returned (.slice a 0 c)∧Fr No w w':=by
 refine(zlW (n:=3) h (by decide)).mono λe w' ⟨g,b,d,f⟩=>?_
 obtain⟨a,c,rfl⟩:=d.slice.arg.form
 exact⟨a,c,b,f⟩
theorem zmB {w0 w:World} {pc pp ps N:Nat} {T X:Nat→Prop} (h:WS w0 w pc pp ps T X N ⟨exS,exS,[],[],zdx⟩):
  Calls prog 21 #[.pointer (some ⟨ps,0,none⟩)] w λe w'=>∃a c,e=.returned (.slice a 1 c)∧Fr No w w':=by
 refine(ziu h).mono λe w' ⟨i,g,b,f⟩=>?_
 have d:ZO (⟨exS,exS,[],[],zdx⟩:WA).Q=[64]:=zjo
 rw[d] at b
 obtain⟨a,c,rfl⟩:=b.slice.arg.form
 exact⟨a,c,g,f⟩
theorem Vp:zX Zf:=Jt []
theorem zdN:xQ.ok:=⟨xO,by decide,by decide⟩
theorem zl4:(⟨500,Zf⟩:yE).ok:=⟨by decide,Vp⟩
theorem zjM:(⟨400,Zf⟩:yE).ok:=⟨by decide,Vp⟩
theorem zl5:(⟨400,yO⟩:yE).ok:=⟨by decide,xO⟩
theorem zl6:(⟨300,yO⟩:yE).ok:=⟨by decide,xO⟩
theorem zge:(⟨idH exA,0⟩:zF).ok:=⟨vG exA,by decide,by decide⟩
theorem zeh {w:World} (hg:vj w):Calls prog 9 #[] w λe w'=>e=.returned (.bool true)∧Fr No w w':=by
 obtain⟨dT,uT,rT⟩:=zdw
 have zh:=yR
 have zT:=show ∀w,(zeroValue 34).run prog w=.ok (.agg zft.toArray) w from jA
 have F:=J hg
 have ae:=@J (∀w:World,y7 w (.slice none 0 0) ([]:List Int).length (([]:List Int).map zM)) (λw=>.inl (.inl ⟨rfl,rfl,rfl⟩))
 have a6:=J (yr zl4)
 have a7:=J (yr zjM)
 have cp:=J (yr zl5)
 have cq:=J (yr zl6)
 have ay:=J (vo zdN (.slice none 0 0))
 have bA:=J (vo zge (.slice none 0 0))
 have bk:=J (zx (vG exA))
 have bl:=J (zx (vG exD))
 clear hg
 go_enter Tryz.func9,Tryz.ntmps9
 have⟨K0,K1,K2,K3,K4,K5,K6,K7,K8,K9,bB,bC,bD,bE,bF,bG,bH,bI,bJ,bK,bL,bM,bN,bO,bP,bQ,bR,bS,bT,bU,bV,bW,bX,bY,bZ,b1,b2,b3,b4,b5,b6,b7,b8,b9,ca⟩:=tZ45
 go_wp2_with ((first|(clear K0;go_at_call 36;refine(zbK F.o (ae.o _) (by decide)).mono ?_;rintro e w1 ⟨rfl,f1⟩;have F1:=J f1;clear f1)|(clear K3;go_at_call 35;refine(zl3 w2 (zcZ bt.o zl4) (by decide)).mono ?_;rintro e w3 ⟨pc,rfl,VC,hc⟩;have HC:=J hc;have F3:=J (F2.o.trans0 hc.fr);clear hc)|(clear K4;go_at_call 37;refine(zl1 w w3 F3.o).mono ?_;rintro e w4 ⟨rfl,f4,ma,ms,g,VG,bo,bn⟩;have F4:=J (F3.o.trans0 f4);have PV:=J bo;have PO:=J bn;have FP:=J f4;clear bo bn f4;generalize cZ:w3.heap.size=pp at*)|(clear K5;go_at_call 38;refine(zl2 w w4 F4.o).mono ?_;rintro e w5 ⟨ps,ka,ks,rfl,f5,bq,bp⟩;have F5:=J (F4.o.trans0 f5);obtain⟨T,br,ar⟩:=zfy HC.o F2.o FP.o (λj hj=>by have:=PV.o j hj;omega) PO.o f5 bq bp;have cy:=J (br T (λ_ h=>h) (λj hj=>(ar j hj).2));have S5:=J (frN w5);have I:=J (λj hj=>(ar j hj).2);clear br ar f5 bq bp HC PV PO FP)|(clear K8;go_at_call 36;refine(zbK (F.o.keep0 F6.o) (ae.o _) (by decide)).mono ?_;rintro e w7 ⟨rfl,f7⟩;have F7:=J (F6.o.trans0 f7);have S7:=J (S6.o.trans0 f7);have b:=J (f7.obj b.o id);clear f7)|(clear bL;go_at_call 15;refine(Qz (F.o.keep0 bx.o) TA.o).mono ?_;rintro e C ⟨rfl,n⟩;rw[ex7];have ct:=J (cr.o.trans0 n);have b:=J (n.obj b.o id);have c:=J (n.obj c.o id);have d:=J (n.obj d.o id);have f:=J (n.obj f.o id);have i:=J (n.obj i.o id);have k:=J (n.obj k.o id);clear n)|(clear bW;go_at_call 12;refine(zao (F.o.keep0 v.o.facts.2.2.1) v.o 3 Y.o).mono ?_;rintro e c0 ⟨rfl,cM,cS,l⟩;rw[znA.1];rw[znA.2] at l;have x:=J l.ws;have aB:=J (l.kept v.o Y.o);have aN:=J (af.o.next l);have Z:=J (l.kept v.o az.o);have ag:=J (aV.o.next l);have aC:=J (l.kept v.o aA.o);have aY:=J (aX.o.next l);clear l)|(clear bY;go_at_call 12;refine(zao (F.o.keep0 x.o.facts.2.2.1) x.o 3 Z.o).mono ?_;rintro e c3 ⟨rfl,cN,cT,m⟩;rw[znB.1];rw[znB.2] at m;have L:=J m.ws;have aD:=J (m.kept x.o aB.o);have aO:=J (aN.o.next m);have aE:=J (m.kept x.o Z.o);have aW:=J (ag.o.next m);have aF:=J (m.kept x.o aC.o);have aZ:=J (aY.o.next m);clear m)|(clear b1;go_at_call 12;refine(zao (F.o.keep0 L.o.facts.2.2.1) L.o 64 aE.o).mono ?_;rintro e c4 ⟨rfl,cO,cU,p⟩;rw[znC.1];rw[znC.2] at p;have M:=J p.ws;have aG:=J (p.kept L.o aD.o);have aP:=J (aO.o.next p);have ab:=J (p.kept L.o aF.o);have ah:=J (aZ.o.next p);clear p)|(clear b3;go_at_call 12;refine(zao (F.o.keep0 M.o.facts.2.2.1) M.o 4 ab.o).mono ?_;rintro e c7 ⟨rfl,cP,cV,q⟩;rw[znD.1];rw[znD.2] at q;have O:=J q.ws;have aH:=J (q.kept M.o aG.o);have aQ:=J (aP.o.next q);have ad:=J (q.kept M.o ab.o);have ai:=J (ah.o.next q);clear q)|(clear b5;go_at_call 12;refine(zao (F.o.keep0 O.o.facts.2.2.1) O.o 3 ad.o).mono ?_;rintro e c8 ⟨rfl,cQ,cW,r⟩;rw[znE.1];rw[znE.2] at r;have bf:=J r.ws;have aI:=J (r.kept O.o aH.o);have aR:=J (aQ.o.next r);have aJ:=J (r.kept O.o ad.o);have a1:=J (ai.o.next r);clear r)|(clear b7;go_at_call 15;refine(Qz (F.o.keep0 bf.o.facts.2.2.1) aJ.o.now).mono ?_;rintro e E ⟨rfl,P⟩;rw[ex8];have cv:=J (bf.o.fr0 P);have aK:=J (aI.o.same P.of0);have aS:=J (aR.o.fr0 P);clear P)|(clear ca;go_at_call 14;refine(zkU bg.o).mono ?_;rintro e bs ⟨g,cX,cs,rfl,hg,hq,cR,R⟩;obtain⟨ja,jc,ka,kc,cz⟩:=hq.form;subst cz;have RG:=J hg;have HQ:=J hq;have cw:=J R.ws;have aM:=J (R.kept bg.o aL.o);have aU:=J (aT.o.next R);clear hg hq R)|((with_reducible refine zt ?_);first|(clear K1;refine zg rfl (yP (t:=103) rfl rfl zc3 (zex _ Vp) (zc2 _ _) a6.o) ?_)|(clear K2;refine zg rfl (zU (t:=22) (cs:=zJ ⟨500,Zf⟩) rfl rfl qO Jo (by rw[←yu];rfl) (by decide) (by decide) a6.o) ?_;generalize cA:w1.heap.size=b0 at*;have bt:=J (yL w1 (.cells (zJ ⟨500,Zf⟩).toArray 103) cA.symm);have F2:=J (F1.o.alloc (.cells (zJ ⟨500,Zf⟩).toArray 103));generalize w1.alloc (.cells (zJ ⟨500,Zf⟩).toArray 103)=w2 at*)|(clear K6;with_reducible refine yt 37 ?_;refine zg rfl (yf (t:=108) rfl rfl (ziV _)) ?_)|(clear K7;refine zg rfl (zU (t:=32) (cs:=inC xQ (.slice none 0 0)) rfl rfl Xw Vl rfl (by decide) (by decide) ay.o) ?_;generalize cF:w5.heap.size=y at*;have b:=J (yL w5 (.cells (inC xQ (.slice none 0 0)).toArray 108) cF.symm);have F6:=J (F5.o.alloc (.cells (inC xQ (.slice none 0 0)).toArray 108));have S6:=J (S5.o.alloc (.cells (inC xQ (.slice none 0 0)).toArray 108));have cg:=@J (¬T y) (λe=>by have:=I.o _ e;have:=S5.o.size;omega);have a:=J ((frN w5).alloc (.cells (inC xQ (.slice none 0 0)).toArray 108));clear a;generalize w5.alloc (.cells (inC xQ (.slice none 0 0)).toArray 108)=w6 at*)|(clear K9;refine zg rfl (yP (t:=103) rfl rfl zc3 (zex _ Vp) (zc2 _ _) a7.o) ?_)|(clear bB;refine zg rfl (zU (t:=22) (cs:=zJ ⟨400,Zf⟩) rfl rfl qO Jo (by rw[←yu];rfl) (by decide) (by decide) a7.o) ?_;generalize cI:w7.heap.size=z at*;have c:=J (yL w7 (.cells (zJ ⟨400,Zf⟩).toArray 103) cI.symm);have F8:=J (F7.o.alloc (.cells (zJ ⟨400,Zf⟩).toArray 103));have S8:=J (S7.o.alloc (.cells (zJ ⟨400,Zf⟩).toArray 103));have ck:=@J (¬T z) (λe=>by have:=I.o _ e;have:=S7.o.size;omega);have a:=J ((frN w7).alloc (.cells (zJ ⟨400,Zf⟩).toArray 103));have b:=J (a.o.obj b.o id);clear a;generalize w7.alloc (.cells (zJ ⟨400,Zf⟩).toArray 103)=w8 at*)|(clear bC;with_reducible refine yt 42 ?_;refine zg rfl (yf (t:=34) rfl rfl (ziY _ _ _ _ _ _ _)) ?_)|(clear bE;with_reducible refine yt 43 ?_;refine zg rfl (yf (t:=108) rfl rfl (ziV _)) ?_)|(clear bF;refine zg rfl (zU (t:=32) (cs:=inC xQ (.slice none 0 0)) rfl rfl Xw Vl rfl (by decide) (by decide) ay.o) ?_;generalize cG:w9.heap.size=Q at*;have f:=J (yL w9 (.cells (inC xQ (.slice none 0 0)).toArray 108) cG.symm);have bu:=J (F9.o.alloc (.cells (inC xQ (.slice none 0 0)).toArray 108));have a8:=J (S9.o.alloc (.cells (inC xQ (.slice none 0 0)).toArray 108));have ch:=@J (¬T Q) (λe=>by have:=I.o _ e;have:=S9.o.size;omega);have a:=J ((frN w9).alloc (.cells (inC xQ (.slice none 0 0)).toArray 108));have b:=J (a.o.obj b.o id);have c:=J (a.o.obj c.o id);have d:=J (a.o.obj d.o id);clear a;generalize w9.alloc (.cells (inC xQ (.slice none 0 0)).toArray 108)=U at*)|(clear bG;with_reducible refine yt 45 ?_;refine zg rfl (yf (t:=103) rfl rfl (zkH _)) ?_)|(clear bH;refine zg rfl (zU (t:=22) (cs:=zJ ⟨400,yO⟩) rfl rfl qO Jo (by rw[←yu];rfl) (by decide) (by decide) cp.o) ?_;generalize cJ:U.heap.size=S at*;have i:=J (yL U (.cells (zJ ⟨400,yO⟩).toArray 103) cJ.symm);have bw:=J (bu.o.alloc (.cells (zJ ⟨400,yO⟩).toArray 103));have ba:=J (a8.o.alloc (.cells (zJ ⟨400,yO⟩).toArray 103));have cm:=@J (¬T S) (λe=>by have:=I.o _ e;have:=a8.o.size;omega);have a:=J ((frN U).alloc (.cells (zJ ⟨400,yO⟩).toArray 103));have b:=J (a.o.obj b.o id);have c:=J (a.o.obj c.o id);have d:=J (a.o.obj d.o id);have f:=J (a.o.obj f.o id);clear a;generalize U.alloc (.cells (zJ ⟨400,yO⟩).toArray 103)=B at*)|(clear bI;with_reducible refine yt 47 ?_;refine zg rfl (yf (t:=34) rfl rfl (zmi _ _ _ _ _ _ _)) ?_)|(clear bK;refine zn1 rfl rfl rfl LD.o rfl ?_)|(clear bN;refine zn3 rfl rfl rfl LH.o bk.o ?_)|(clear bO;with_reducible refine yt 54 ?_;refine zg rfl (Xl (t:=95) rfl rfl (zi4 (vG exA))) ?_)|(clear bP;with_reducible refine yt 55 ?_;refine zg rfl (Xl (t:=108) rfl rfl (zi2 zge)) ?_)|(clear bQ;refine zg rfl (zU (t:=32) (cs:=inC ⟨idH exA,0⟩ (.slice none 0 0)) rfl rfl Xw Vl rfl (by decide) (by decide) bA.o) ?_;generalize cH:V.heap.size=i3 at*;have u:=J (yL V (.cells (inC ⟨idH exA,0⟩ (.slice none 0 0)).toArray 108) cH.symm);have bc:=J (bb.o.alloc (.cells (inC ⟨idH exA,0⟩ (.slice none 0 0)).toArray 108));have cj:=@J (¬T i3) (λe=>by have:=I.o _ e;have:=bb.o.size;omega);have a:=J ((frN V).alloc (.cells (inC ⟨idH exA,0⟩ (.slice none 0 0)).toArray 108));have b:=J (a.o.obj b.o id);have c:=J (a.o.obj c.o id);have d:=J (a.o.obj d.o id);have f:=J (a.o.obj f.o id);have i:=J (a.o.obj i.o id);have k:=J (a.o.obj k.o id);have o:=J (a.o.obj o.o id);clear a;generalize V.alloc (.cells (inC ⟨idH exA,0⟩ (.slice none 0 0)).toArray 108)=W at*)|(clear bR;with_reducible refine yt 57 ?_;refine zg rfl (yf (t:=103) rfl rfl (zkG _)) ?_)|(clear bS;refine zg rfl (zU (t:=22) (cs:=zJ ⟨300,yO⟩) rfl rfl qO Jo (by rw[←yu];rfl) (by decide) (by decide) cq.o) ?_;generalize cK:W.heap.size=o3 at*;have aj:=J (yL W (.cells (zJ ⟨300,yO⟩).toArray 103) cK.symm);have bd:=J (bc.o.alloc (.cells (zJ ⟨300,yO⟩).toArray 103));have cn:=@J (¬T o3) (λe=>by have:=I.o _ e;have:=bc.o.size;omega);have a:=J ((frN W).alloc (.cells (zJ ⟨300,yO⟩).toArray 103));have b:=J (a.o.obj b.o id);have c:=J (a.o.obj c.o id);have d:=J (a.o.obj d.o id);have f:=J (a.o.obj f.o id);have i:=J (a.o.obj i.o id);have k:=J (a.o.obj k.o id);have o:=J (a.o.obj o.o id);have u:=J (a.o.obj u.o id);clear a;generalize W.alloc (.cells (zJ ⟨300,yO⟩).toArray 103)=D at*)|(clear bT;with_reducible refine yt 59 ?_;refine zg rfl (yf (t:=34) rfl rfl (ziY _ _ _ _ _ _ _)) ?_)|(clear bV;refine zn1 rfl rfl rfl af.o.1 rfl ?_)|(clear bX;refine qz rfl (zZ (ty:=34) rfl rfl ag.o.1 uT rT yZ) ?_)|(clear bZ;refine qz rfl (zZ (ty:=34) rfl rfl aW.o.1 uT rT yZ) ?_)|(clear b2;refine qz rfl (zZ (ty:=34) rfl rfl ah.o.1 uT rT yZ) ?_)|(clear b4;refine qz rfl (zZ (ty:=34) rfl rfl ai.o.1 uT rT yZ) ?_)|(clear b6;refine zn1 rfl rfl rfl a1.o.1 rfl ?_)|(clear b9;refine zn3 rfl rfl rfl LX.o bl.o ?_))|((with_reducible refine zv ?_);first|(clear bD;refine zi rfl (zm (w:=w8) (ty:=34) (cs:=[.int .u32 0,.slice (some ⟨y,0,none⟩) 1 1,.slice (some ⟨z,0,none⟩) 1 1]) rfl rfl rfl rfl yZ (qM rfl rfl rfl)) ?_;generalize cB:w8.heap.size=c5 at*;have d:=J (yL w8 (.cells ([.int .u32 0,.slice (some ⟨y,0,none⟩) 1 1,.slice (some ⟨z,0,none⟩) 1 1]).toArray 34) cB.symm);have F9:=J (F8.o.alloc (.cells ([.int .u32 0,.slice (some ⟨y,0,none⟩) 1 1,.slice (some ⟨z,0,none⟩) 1 1]).toArray 34));have S9:=J (S8.o.alloc (.cells ([.int .u32 0,.slice (some ⟨y,0,none⟩) 1 1,.slice (some ⟨z,0,none⟩) 1 1]).toArray 34));have cc:=@J (¬T c5) (λe=>by have:=I.o _ e;have:=S8.o.size;omega);have a:=J ((frN w8).alloc (.cells ([.int .u32 0,.slice (some ⟨y,0,none⟩) 1 1,.slice (some ⟨z,0,none⟩) 1 1]).toArray 34));have b:=J (a.o.obj b.o id);have c:=J (a.o.obj c.o id);clear a;generalize w8.alloc (.cells ([.int .u32 0,.slice (some ⟨y,0,none⟩) 1 1,.slice (some ⟨z,0,none⟩) 1 1]).toArray 34)=w9 at*)|(clear bJ;refine zi rfl (zm (w:=B) (ty:=34) (cs:=[.int .u32 1,.slice (some ⟨Q,0,none⟩) 1 1,.slice (some ⟨S,0,none⟩) 1 1]) rfl rfl rfl rfl yZ (qM rfl rfl rfl)) ?_;generalize cC:B.heap.size=c6 at*;have k:=J (yL B (.cells ([.int .u32 1,.slice (some ⟨Q,0,none⟩) 1 1,.slice (some ⟨S,0,none⟩) 1 1]).toArray 34) cC.symm);have bx:=J (bw.o.alloc (.cells ([.int .u32 1,.slice (some ⟨Q,0,none⟩) 1 1,.slice (some ⟨S,0,none⟩) 1 1]).toArray 34));have cr:=J (ba.o.alloc (.cells ([.int .u32 1,.slice (some ⟨Q,0,none⟩) 1 1,.slice (some ⟨S,0,none⟩) 1 1]).toArray 34));have cd:=@J (¬T c6) (λe=>by have:=I.o _ e;have:=ba.o.size;omega);have a:=J ((frN B).alloc (.cells ([.int .u32 1,.slice (some ⟨Q,0,none⟩) 1 1,.slice (some ⟨S,0,none⟩) 1 1]).toArray 34));have b:=J (a.o.obj b.o id);have c:=J (a.o.obj c.o id);have d:=J (a.o.obj d.o id);have f:=J (a.o.obj f.o id);have i:=J (a.o.obj i.o id);clear a;generalize B.alloc (.cells ([.int .u32 1,.slice (some ⟨Q,0,none⟩) 1 1,.slice (some ⟨S,0,none⟩) 1 1]).toArray 34)=cL at*;have LD:=J (zq d.o);have TA:=@J (TxQ cL exA [.int .u32 0,.slice (some ⟨y,0,none⟩) 1 1,.slice (some ⟨z,0,none⟩) 1 1]) (zjq b.o c.o zdN zjM (by decide)))|(clear bM;refine zob (w:=C) (cs:=zf (idH exA)) rfl rfl rfl rfl bk.o zS ?_;generalize cE:C.heap.size=h7 at*;have o:=J (yL C (.cells (zf (idH exA)).toArray 41) cE.symm);have bb:=J (ct.o.alloc (.cells (zf (idH exA)).toArray 41));have a:=J ((frN C).alloc (.cells (zf (idH exA)).toArray 41));have b:=J (a.o.obj b.o id);have c:=J (a.o.obj c.o id);have d:=J (a.o.obj d.o id);have f:=J (a.o.obj f.o id);have i:=J (a.o.obj i.o id);have k:=J (a.o.obj k.o id);clear a;generalize C.alloc (.cells (zf (idH exA)).toArray 41)=V at*;have LH:=J (zq o.o))|(clear bU;refine zi rfl (zm (w:=D) (ty:=34) (cs:=[.int .u32 0,.slice (some ⟨i3,0,none⟩) 1 1,.slice (some ⟨o3,0,none⟩) 1 1]) rfl rfl rfl rfl yZ (qM rfl rfl rfl)) ?_;generalize cD:D.heap.size=c9 at*;have au:=J (yL D (.cells ([.int .u32 0,.slice (some ⟨i3,0,none⟩) 1 1,.slice (some ⟨o3,0,none⟩) 1 1]).toArray 34) cD.symm);have cu:=J (bd.o.alloc (.cells ([.int .u32 0,.slice (some ⟨i3,0,none⟩) 1 1,.slice (some ⟨o3,0,none⟩) 1 1]).toArray 34));have cf:=@J (¬T c9) (λe=>by have:=I.o _ e;have:=bd.o.size;omega);have a:=J ((frN D).alloc (.cells ([.int .u32 0,.slice (some ⟨i3,0,none⟩) 1 1,.slice (some ⟨o3,0,none⟩) 1 1]).toArray 34));have b:=J (a.o.obj b.o id);have c:=J (a.o.obj c.o id);have d:=J (a.o.obj d.o id);have f:=J (a.o.obj f.o id);have i:=J (a.o.obj i.o id);have k:=J (a.o.obj k.o id);have o:=J (a.o.obj o.o id);have u:=J (a.o.obj u.o id);have aj:=J (a.o.obj aj.o id);clear a;generalize D.alloc (.cells ([.int .u32 0,.slice (some ⟨i3,0,none⟩) 1 1,.slice (some ⟨o3,0,none⟩) 1 1]).toArray 34)=s at*;have ax:=cu;have v:=@J (WS w s pc pp ps T T 0 ⟨exS,exS,[],[],zjm⟩) (cy.o.fr0 ax.out);have Y:=@J (Kept T s (λw=>TxQ w exA [.int .u32 0,.slice (some ⟨y,0,none⟩) 1 1,.slice (some ⟨z,0,none⟩) 1 1])) (zdy b.o c.o zdN zjM (by decide) cg.o ck.o);have az:=@J (Kept T s (λw=>TxQ w exB [.int .u32 1,.slice (some ⟨Q,0,none⟩) 1 1,.slice (some ⟨S,0,none⟩) 1 1])) (zdy f.o i.o zdN zl5 (by decide) ch.o cm.o);have aA:=@J (Kept T s (λw=>TxQ w exD [.int .u32 0,.slice (some ⟨i3,0,none⟩) 1 1,.slice (some ⟨o3,0,none⟩) 1 1])) (zdy u.o aj.o zge zl6 (by decide) cj.o cn.o);have af:=@J (zdl T s c5 [.int .u32 0,.slice (some ⟨y,0,none⟩) 1 1,.slice (some ⟨z,0,none⟩) 1 1]) (⟨zq d.o,cc.o,yG d.o⟩);have aV:=@J (zdl T s c6 [.int .u32 1,.slice (some ⟨Q,0,none⟩) 1 1,.slice (some ⟨S,0,none⟩) 1 1]) (⟨zq k.o,cd.o,yG k.o⟩);have aX:=@J (zdl T s c9 [.int .u32 0,.slice (some ⟨i3,0,none⟩) 1 1,.slice (some ⟨o3,0,none⟩) 1 1]) (⟨zq au.o,cf.o,yG au.o⟩))|(clear b8;refine zob (w:=E) (cs:=zf (idH exD)) rfl rfl rfl rfl bl.o zS ?_;generalize bm:E.heap.size=cY at*;have a:=J ((frN E).alloc (.cells (zf (idH exD)).toArray 41));have av:=J (yL E (.cells (zf (idH exD)).toArray 41) bm.symm);generalize E.alloc (.cells (zf (idH exD)).toArray 41)=da at*;have bg:=J (cv.o.fr0 a.o);have aL:=J (aK.o.same a.o.of0);have aT:=J (aS.o.fr0 a.o);have LX:=J (zq av.o))));go_frame)
 have FD:=J (frN bs).drew
 have WD:=J (cw.o.fr0 FD.o)
 have H:=J (za RG.o FD.o id)
 have G:=J (za aU.o.1 FD.o id)
 have bz:=J (HQ.o.keep FD.o)
 have cb:=J (aM.o.now.keep FD.o)
 refine wrLx [ff,ff,ff,ff,ff,ff,ff,ff,ff,ff,ff,ff,tt,ff,ff,ff,tt,ff,ff,ff,ff,ff,tt,ff,ff,ff,ff] (λw'=>w'.rangeAt g 0 [.int .u32 exA.ver,.slice ja exA.ins.length jc,.slice ka exA.outs.length kc]∧w'.rangeAt c5 0 [.int .u32 0,.slice (some ⟨y,0,none⟩) 1 1,.slice (some ⟨z,0,none⟩) 1 1]) ?_ (λK hK=>?_)
 ·exact⟨H.o,G.o⟩
 generalize bs.drew=wd at*
 repeat((first|(refine zj rfl ?_;constructor;constructor;(focus(first|exact yK (ty:=34) rfl (λw h=>h.1) uT rT yZ|exact yK (ty:=34) rfl (λw h=>h.2) uT rT yZ|(rintro w' ⟨s1,s2⟩;go_simp;(try with_reducible rfl);done))))|(refine zl rfl ?_));try simp only[Act.put,pA,pB,pC])
 (refine zE rfl (λK' hK'=>?_))
 go_simp
 refine(zik wd bz.o cb.o (by decide) (by decide)).mono ?_
 rintro e db ⟨rfl,an⟩
 have bh:=J (WD.o.fr0 an)
 have ak:=J an
 clear an
 refine nXt hK' ?_ λhS=>?_
 ·exact⟨za H.o ak.o id,za G.o ak.o id⟩
 try simp only[Act.put,pA,pB,pC]
 repeat((first|(refine zj rfl ?_;constructor;constructor;(focus(first|(rintro w' ⟨s1,s2⟩;go_simp;(try with_reducible rfl);done))))|(refine zl rfl ?_));try simp only[Act.put,pA,pB,pC])
 (refine zE rfl (λK' hK'=>?_))
 go_simp
 refine(zmA bh.o).mono ?_
 rintro e dc ⟨aa,ac,rfl,ao⟩
 have bj:=J (bh.o.fr0 ao)
 have al:=J (ak.o.trans0 ao)
 clear ao
 refine nXt hK' ?_ λhS=>?_
 ·exact⟨za H.o al.o id,za G.o al.o id⟩
 try simp only[Act.put,pA,pB,pC]
 repeat((first|(refine zj rfl ?_;constructor;constructor;(focus(first|(rintro w' ⟨s1,s2⟩;go_simp;(try with_reducible rfl);done))))|(refine zl rfl ?_));try simp only[Act.put,pA,pB,pC])
 (refine zE rfl (λK' hK'=>?_))
 go_simp
 refine(zmB bj.o).mono ?_
 rintro e dd ⟨sa,sc,rfl,aq⟩
 have cx:=J (bj.o.fr0 aq)
 have aw:=J (al.o.trans0 aq)
 clear aq
 refine nXt hK' ?_ λhS=>?_
 ·exact⟨za H.o aw.o id,za G.o aw.o id⟩
 try simp only[Act.put,pA,pB,pC]
 repeat((first|(refine zj rfl ?_;constructor;constructor;(focus(first|(rintro w' ⟨s1,s2⟩;go_simp;(try with_reducible rfl);done))))|(refine zl rfl ?_));try simp only[Act.put,pA,pB,pC])
 refine zL (hK.out _ _ ?_)
 go_wp2_with fail
 go_ret
 exact⟨rfl,cx.o.facts.2.2.1⟩
def vw (pc pp ps:Nat):List Value:=[.pointer (some ⟨pc,0,none⟩),.pointer (some ⟨pp,0,none⟩),.pointer (some ⟨ps,0,none⟩)]
theorem zdi (w:World):(zeroValue 29).run prog w=.ok (.agg #[.pointer none,.pointer none,.pointer none]) w:=by kernel_rfl
theorem ziZ (a b c:Option Addr) (w:World):(Instr.build 29 #[(0,.pointer a),(1,.pointer b),(2,.pointer c)]).run prog w=.ok (.agg [.pointer a,.pointer b,.pointer c].toArray) w:=by kernel_rfl
theorem Zq:(prog.info? 29).map (·.size)=some 3:=by kernel_rfl
def zfI (first:List yE):List zr:=jR [] (ZJ yO first)
theorem zbo {u w:World} (S:Fr No u w) {v:Value} {first:List yE} (V:xy w v first) (hN:first.length≤256):
  Calls prog 10 #[v] w λe w'=>∃c d ps T,e=.returned (.agg (vw c d ps).toArray)∧(∀X:Nat→Prop,(∀j,T j→X j)→(∀j,X j→T j∨j<w.heap.size)→WS u w' c d ps T X 0 ⟨zfI first,zfI first,[],[],λ_=>[]⟩)∧(∀j,T j→w.heap.size≤j)∧Fr No w w':=by
 have zw:=zdi
 have x:=J S
 have B:=J ((frN w).alloc (.cells #[.pointer none,.pointer none,.pointer none] 29))
 have Y:=J (ye w (.cells #[.pointer none,.pointer none,.pointer none] 29))
 have HC:=J (zl3 _ (V.keep B.o) hN)
 clear V S
 go_enter Tryz.func10,Tryz.ntmps10
 have⟨K0,K1,K2,K3,K4⟩:=tZ5
 go_wp2_with ((first|(clear K0;go_at_call 35;generalize G:w.heap.size=f at*;generalize r:w.alloc (.cells #[.pointer none,.pointer none,.pointer none] 29)=w1 at*;have R:=@J (w1.heap.size=f+1) (by rw[←r,←G];simp);clear r;refine HC.o.mono ?_;rintro e W ⟨c,rfl,VC,A⟩;have GC:=J A;have C:=J (B.o.trans0 A.fr);have Z:=J (A.fr.obj Y.o id);clear A)|(clear K1;go_at_call 37;refine(zl1 u W (x.o.trans0 C.o)).mono ?_;rintro e w4 ⟨rfl,y,ma,ms,g,VG,o,n⟩;have L:=J (C.o.trans0 y);have Q:=J o;have O:=J n;have M:=J y;have I:=J (y.obj Z.o id);clear o n y;generalize ab:W.heap.size=d at*)|(clear K2;go_at_call 38;refine(zl2 u w4 (x.o.trans0 L.o)).mono ?_;rintro e H ⟨ps,ka,ks,rfl,l,q,p⟩;have D:=J (L.o.trans0 l);obtain⟨T,s,m⟩:=zfy GC.o (x.o.trans0 B.o) M.o (λj a=>by have:=Q.o j a;omega) O.o l q p;have E:=J s;have k:=J m;have Z5:=@J (f<H.heap.size) (by have:=D.o.size;have:=R.o;have:=C.o.size;have z:=yG (l.obj I.o id);exact z);have K:=J (l.obj I.o id);clear s m l q p GC Q O M)|((with_reducible refine zt ?_);clear K3;refine zg rfl (yf (t:=29) rfl rfl (ziZ _ _ _ _)) ?_)|((with_reducible refine zv ?_);clear K4;refine zi rfl (zK (ty:=29) (b:=f) (off:=0) (cs:=[.pointer (some ⟨c,0,none⟩),.pointer (some ⟨d,0,none⟩),.pointer (some ⟨ps,0,none⟩)]) rfl rfl rfl (zV K.o (le_refl 3)) Zq (qM rfl rfl rfl)) ?_));go_frame)
 have BE:=ZL (cs:=[.pointer (some ⟨c,0,none⟩),.pointer (some ⟨d,0,none⟩),.pointer (some ⟨ps,0,none⟩)]) K.o rfl
 have F:=zu f [.pointer (some ⟨c,0,none⟩),.pointer (some ⟨d,0,none⟩),.pointer (some ⟨ps,0,none⟩)] 0 H
 have HW:=E.o
 have N:∀j,T j→f+1≤j:=λj a=>by have:=(k.o j a).1;have:=R.o;omega
 have aa:u.heap.size≤f:=by have:=x.o.size;omega
 have WE:=λ(X:Nat→Prop) (z:∀j,T j→X j) (h2:∀j,X j→T j∨j<w.heap.size)=>
  have U:∀j,X j→j<H.heap.size:=λj a=>(h2 j a).elim (λe=>(k.o j e).2) (λe=>by have:=D.o.size;omega)
  (HW (λj=>X j∨j=f) (λj h=>.inl (z j h)) (λj a=>a.elim (U j) (λe=>by rw[e];exact Z5.o))).frV (X':=X) F (λj a e=>by have:=N j a;omega) (λj e=>by omega) (λj e=>.inr e) (λj _ e=>.inl e) z (λj a=>lt_of_lt_of_le (U j a) F.size)
 refine bodyPost_ret (v:=.agg [.pointer (some ⟨c,0,none⟩),.pointer (some ⟨d,0,none⟩),.pointer (some ⟨ps,0,none⟩)].toArray) (results_cell_row (P:=prog) (fn:=Tryz.f10) rfl _ _ f 29 _ (0,0) _ rfl BE Tryz.underlying29 rfl Zq) rfl ⟨c,d,ps,T,rfl,WE,λj a=>by have:=N j a;omega,D.o.trans F (λi hi e=>by omega)⟩
section
variable {w0 w w':World} {pc pp ps N N':Nat} {T X T' X':Nat→Prop} {A A':WA}
end
def FlA (w0 w:World) (c7 pc pp ps:Nat) (T X:Nat→Prop) (N:Nat) (A:WA):Prop:=
 WS w0 w pc pp ps T X N A∧(∀j,X j→w0.heap.size≤j)∧¬T c7∧w.heap[c7]? =some (.cells (vw pc pp ps).toArray 29 (0,0))
section
variable {w0 w w':World} {c7 pc pp ps N N':Nat} {T X T' X':Nat→Prop} {A A':WA}
theorem FlA.fr0 (h:FlA w0 w c7 pc pp ps T X N A) (f:Fr No w w'):FlA w0 w' c7 pc pp ps T X N A:=⟨h.1.fr0 f,h.2.1,h.2.2.1,f.obj h.2.2.2 id⟩
theorem FlA.next (h:FlA w0 w c7 pc pp ps T X N A) (n:qj w0 w w' pc pp ps T X N' A' T' X'):FlA w0 w' c7 pc pp ps T' X' N' A':=
 ⟨n.ws,λj a=>(n.xn j a).elim (h.2.1 j) (λe=>le_trans h.1.facts.2.2.1.size e),n.out h.2.2.1 (yG h.2.2.2),n.fr.obj h.2.2.2 h.2.2.1⟩
theorem FlA.cells (h:FlA w0 w c7 pc pp ps T X N A):w.cell? ⟨c7,0,none⟩=some (.pointer (some ⟨pc,0,none⟩))∧w.cell? ⟨c7,1,none⟩=some (.pointer (some ⟨pp,0,none⟩))∧w.cell? ⟨c7,2,none⟩=some (.pointer (some ⟨ps,0,none⟩)):=by
 have:=zq h.2.2.2
 exact⟨by simpa using this 0 _ rfl,by simpa using this 1 _ rfl,by simpa using this 2 _ rfl⟩
theorem FlA.fr (h:FlA w0 w c7 pc pp ps T X N A):Fr No w0 w:=h.1.facts.2.2.1
end
def yU (e:Int) (tv lv:Value):List Value:=[.int .i64 e,tv,lv]
theorem JF (w:World):(zeroValue 60).run prog w=.ok (.agg (yU 0 (.slice none 0 0) (.slice none 0 0)).toArray) w:=by kernel_rfl
theorem xM:(prog.info? 60).map (·.size)=some 3:=by kernel_rfl
section
variable {w0 w w' w3 w5 w6:World} {pc pp ps N:Nat} {T X T' X':Nat→Prop} {A A':WA} {c:Nat}
theorem qj.more (n:qj w0 w w' pc pp ps T X N A' T' X') {N':Nat} (h:N≤N'):qj w0 w w' pc pp ps T X N' A' T' X':={n with ws:=n.ws.more h}
theorem WS.into (h:WS w0 w pc pp ps T X N A) (b:Fr No w w3) (f:w.heap.size≤c) (d:c<w3.heap.size):WS w0 w3 pc pp ps T (λj=>X j∨j=c) N A:=
 h.frV b (λ_ _=>id) (λ_ h=>h.elim) (λ_ h=>h.elim) (λj a e=>e.resolve_right (by omega)) (λj a=>.inl (h.facts.1 j a).2.2) (λj a=>a.elim (λe=>lt_of_lt_of_le (h.facts.2.1 j e) b.size) (λe=>by omega))
theorem Kept.into {Q:World→Prop} (k:Kept X w Q) (a:Fr No w w3) (b:w.heap.size≤c):Kept (λj=>X j∨j=c) w3 Q:=k.step a.of0 (λj d e=>e.resolve_right (by omega))
theorem qj.ans (n:qj w0 w3 w5 pc pp ps T (λj=>X j∨j=c) N A' T' X') {f:Nat} (h:WS w0 w pc pp ps T X f A) (b:Fr No w w3) (k:w.heap.size≤c) (g:c<w3.heap.size) (d:Fr (λj=>j=c) w5 w6):qj w0 w w6 pc pp ps T X N A' T' X':=by
 have i:=h.facts.2.2.1.size
 refine⟨n.ws.frV d (λj a e=>?_) (λj e=>by omega) (λj e=>n.xx j (.inr e)) (λ_ _ h=>h) (λj a=>(n.ws.facts.1 j a).2.2) (λj a=>lt_of_lt_of_le (n.ws.facts.2.1 j a) d.size),((b.of0:Fr T w w3).trans n.fr (λ_ _ h=>h)).trans d (λj a e=>by omega),λj a=>(n.tn j a).imp_right (λe=>le_trans b.size e),λj a=>(n.xn j a).elim (λe=>e.elim .inl (λe=>.inr (by omega))) (λe=>.inr (le_trans b.size e)),λj a=>n.xx j (.inl a)⟩
 subst e
 exact(n.tn j a).elim (λe=>by have:=(h.facts.1 j e).2.1;omega) (λe=>by omega)
end
theorem xX (w:World) (d b a:Obj):(((w.alloc d).alloc b).alloc a).heap[w.heap.size]? =some d∧(((w.alloc d).alloc b).alloc a).heap[w.heap.size+1]? =some b∧(((w.alloc d).alloc b).alloc a).heap[w.heap.size+1+1]? =some a∧Fr No w (((w.alloc d).alloc b).alloc a)∧w.heap.size+1+1<(((w.alloc d).alloc b).alloc a).heap.size:=by
 refine⟨Jj (Jj (ye w d) b) a,Jj (yL _ b (by simp)) a,yL _ a (by simp),(((frN w).alloc d).alloc b).alloc a,by simp⟩
theorem qF {X:Nat→Prop} {w:World} {a:qZ} {cs:List Value} (k:Kept X w (λw=>qS w a cs)):∃d bcs,cs=Yh a.kind a.src d a.id bcs∧Y3 a.src∧zX a.id∧d.length=3∧bcs.length=3∧Kept X w (λw=>TxQ w a.tx d)∧Kept X w (λw=>jB w a.blk bcs):=by
 obtain⟨t,b,rfl,o,p,j,q⟩:=k.now
 have h:∀w',Fr X w w'→TxQ w' a.tx t∧jB w' a.blk b:=λw' f=>by
  obtain⟨s,r,e,-,-,g,i⟩:=k w' f
  simp only[Yh,List.cons.injEq,true_and] at e
  obtain⟨l,m⟩:=List.append_inj e (by rw[j.len3,g.len3])
  have n:=List.append_cancel_left m
  subst l
  subst n
  exact⟨g,i⟩
 exact⟨t,b,rfl,o,p,j.len3,q.len3,λw' f=>(h w' f).1,λw' f=>(h w' f).2⟩
theorem XA (e:Int) (w:World):(Instr.build 60 #[(0,.int .i64 e)]).run prog w=.ok (.agg (yU e (.slice none 0 0) (.slice none 0 0)).toArray) w:=by kernel_rfl
theorem zgG (e:Int) (a:Option Addr) (n c:Nat) (w:World):(Instr.build 60 #[(0,.int .i64 e),(1,.slice a n c)]).run prog w=.ok (.agg (yU e (.slice a n c) (.slice none 0 0)).toArray) w:=by kernel_rfl
theorem zkE (a:Option Addr) (n c:Nat) (w:World):(Instr.build 60 #[(2,.slice a n c)]).run prog w=.ok (.agg (yU 0 (.slice none 0 0) (.slice a n c)).toArray) w:=by kernel_rfl
def Jx (w:World) (v:Value) (l:List Nat):Prop:=y7 w v l.length (l.map iV)
def ZW (X:Nat→Prop) (w:World) (tv lv:Value) (ts:List TxD) (is:List Nat):Prop:=Kept X w (λw=>vC w tv ts)∧Kept X w (λw=>Jx w lv is)
theorem zhd (w:World):vC w (.slice none 0 0) []:=⟨none,0,rfl,zero_le _,λi d h=>by simp at h⟩
theorem zjC (w:World):Jx w (.slice none 0 0) []:=(World.ownsRow_nil w 0 3 1).slice.arg
theorem JP {X:Nat→Prop} {w:World}:ZW X w (.slice none 0 0) (.slice none 0 0) [] []:=⟨λw' _=>zhd w',λw' _=>zjC w'⟩
theorem zlG {X:Nat→Prop} {w:World} {B:Nat} {v:Value} {l:List StE} {k:StE→List Value} (n:w.ownsRow B 34 3 v l.length (l.flatMap k)) (p:∀j,X j→j<B) (m:∀e∈l,Kept X w (λw=>TxQ w e.tx (k e))) (r:l.length≤maxLen):Kept X w (λw=>vC w v (l.map (·.tx))):=λw' f=>by
 have b:=zb n f (λj q e=>by have:=(n.lt j q).1;have:=p j e;omega)
 obtain⟨a,c,rfl⟩:=b.slice.arg.form
 refine⟨a,c,by rw[length_map],by rw[length_map];exact r,λi d hi=>?_⟩
 rw[List.getElem?_map] at hi
 obtain⟨e,h,rfl⟩:=Option.map_eq_some_iff.1 hi
 obtain⟨g,o,t,s,-⟩:=JB (f:=k) (by decide) (λe h=>(m e h).now.len3) b h
 cases t
 exact⟨g,0,k e,rfl,by rw[Nat.zero_add];exact s,m e (mem_of_getElem? h) w' f⟩
theorem zjD {X:Nat→Prop} {w:World} {B:Nat} {v:Value} {l:List Nat} (a:w.ownsRow B 3 1 v l.length (l.map iV)) (b:∀j,X j→j<B):Kept X w (λw=>Jx w v l):=λw' f=>
 (zb a f (λj d e=>by have:=(a.lt j d).1;have:=b j e;omega)).slice.arg
section
variable {w0 w:World} {pc pp ps N:Nat} {T X:Nat→Prop} {A:WA}
theorem znU (F:vj w0) (h:WS w0 w pc pp ps T X N A) {a:qZ} {cs:List Value} (E:Kept X w (λw=>qS w a cs)) (G:a.kind=0):
  Calls prog 20 #[.agg (vw pc pp ps).toArray,.agg cs.toArray] w λe w'=>e=.returned (.agg (yU (Jp A a.src a.tx) (.slice none 0 0) (.slice none 0 0)).toArray)∧∃T' X',qj w0 w w' pc pp ps T X N (JJ A a.src a.tx) T' X'∧ZW X' w' (.slice none 0 0) (.slice none 0 0) [] []:=by
 obtain⟨l,C,D,m,s⟩:=xX w (.cells (vw pc pp ps).toArray 29) (.cells cs.toArray 57) (.cells (yU 0 (.slice none 0 0) (.slice none 0 0)).toArray 60)
 obtain⟨aa,bcs,g,j,i,f,p,kt,kb⟩:=qF E
 have d:=J (h.into (c:=w.heap.size+1+1) m (by omega) s)
 have y:=J (kt.into (c:=w.heap.size+1+1) m (by omega))
 have k:=J (jD (q:=w.heap.size+1) (by rw[←g];exact zq C) f i)
 have S:=J k.o.2.2.1
 have Y:=k.o.1
 have cS:=k.o.2.1
 have p0:=by simpa using zq l 0 _ rfl
 have p1:=by simpa using zq l 1 _ rfl
 have p2:=by simpa using zq l 2 _ rfl
 have u:=J D
 have I:=J m
 have B:=J s
 have n:=@J (w.heap.size≤w.heap.size+1+1) (by omega)
 have V:=J f
 have z:=J h
 have K:=J (F.keep0 d.o.facts.2.2.1)
 have zA:=JF
 clear h F E g j i f p kt kb l C D m s k
 rw[G] at Y
 clear G
 go_enter Tryz.func20,Tryz.ntmps20
 have⟨L,M,O,Q⟩:=tZ4
 go_wp2_with ((first|((with_reducible refine zt ?_);first|(clear L;refine zn1 rfl rfl rfl S.o V.o ?_;generalize w.heap.size+1+1=o at d y u B n⊢;generalize (((w.alloc (.cells (vw pc pp ps).toArray 29)).alloc (.cells cs.toArray 57)).alloc (.cells (yU 0 (.slice none 0 0) (.slice none 0 0)).toArray 60))=w3 at*)|(clear O;refine zg rfl (yf (t:=60) rfl rfl (XA _)) ?_))|(clear M;go_at_call 12;refine(zao K.o d.o a.src y.o).mono ?_;rintro e w5 ⟨rfl,U,W,r⟩;have R:=J r;have x:=J (r.fr.obj u.o (λe=>by have:=(z.o.facts.1 _ e).2.1;have:=n.o;omega));clear r)|((with_reducible refine zv ?_);clear Q;refine zi rfl (zK (ty:=60) (b:=o) (off:=0) (cs:=yU (Jp A a.src a.tx) (.slice none 0 0) (.slice none 0 0)) rfl rfl rfl (zV x.o (le_refl 3)) xM (qM rfl rfl rfl)) ?_));go_frame)
 have H:=ZL (cs:=yU (Jp A a.src a.tx) (.slice none 0 0) (.slice none 0 0)) x.o rfl
 have Z:=zu o (yU (Jp A a.src a.tx) (.slice none 0 0) (.slice none 0 0)) 0 w5
 refine bodyPost_ret (v:=.agg (yU (Jp A a.src a.tx) (.slice none 0 0) (.slice none 0 0)).toArray) (results_cell_row (P:=prog) (fn:=Tryz.f20) rfl _ _ o 60 _ (0,0) _ rfl H Tryz.underlying60 rfl xM) rfl ⟨rfl,U,W,R.o.ans z.o I.o n.o B.o Z,JP⟩
theorem znt (hg:vj w0) (h:WS w0 w pc pp ps T X N A) {a:qZ} {cs:List Value} (R:Kept X w (λw=>qS w a cs)) (S:a.kind=1) {n:Nat} (U:a.src=(n:Int)) (hn:n<65) (k:a.id∈yV (A.Q n)):
  Calls prog 20 #[.agg (vw pc pp ps).toArray,.agg cs.toArray] w λe w'=>∃tv,e=.returned (.agg (yU 0 tv (.slice none 0 0)).toArray)∧∃T' X',qj w0 w w' pc pp ps T X N {A with Q:=vu A.Q n (Ql (A.Q n) a.id)} T' X'∧ZW X' w' tv (.slice none 0 0) ((jK (A.Q n) a.id).map (·.tx)) []:=by
 obtain⟨r,L,M,z,F⟩:=xX w (.cells (vw pc pp ps).toArray 29) (.cells cs.toArray 57) (.cells (yU 0 (.slice none 0 0) (.slice none 0 0)).toArray 60)
 obtain⟨aa,bcs,i,m,g,o,B,kt,kb⟩:=qF R
 have d:=J (h.into (c:=w.heap.size+1+1) z (by omega) F)
 have p:=J (jD (q:=w.heap.size+1) (by rw[←i];exact zq L) o g)
 have RH:=J p.o.2.2.2.1
 have cK:=p.o.1
 have cS:=p.o.2.1
 have p0:=by simpa using zq r 0 _ rfl
 have p1:=by simpa using zq r 1 _ rfl
 have p2:=by simpa using zq r 2 _ rfl
 have G:=J M
 have W:=J z
 have K:=J F
 have x:=@J (w.heap.size≤w.heap.size+1+1) (by omega)
 have Z:=J (zx g)
 have I:=J h
 have zA:=JF
 clear h hg R i m g o B kt kb r L M z F p
 rw[S] at cK
 clear S
 rw[U] at cS
 have u:=J k
 clear U k
 go_enter Tryz.func20,Tryz.ntmps20
 have⟨K0,K1,K2,K3⟩:=tZ4
 go_wp2_with ((first|((with_reducible refine zt ?_);first|(clear K0;refine zn3 rfl rfl rfl RH.o Z.o ?_;generalize w.heap.size+1+1=y at d G K x⊢;generalize (((w.alloc (.cells (vw pc pp ps).toArray 29)).alloc (.cells cs.toArray 57)).alloc (.cells (yU 0 (.slice none 0 0) (.slice none 0 0)).toArray 60))=w3 at*)|(clear K2;refine zg rfl (yf (t:=60) rfl rfl (zgG _ _ _ _)) ?_))|(clear K1;go_at_call 14;refine(zkl d.o hn u.o).mono ?_;rintro e w5 ⟨tv,tc,rfl,C,l,T5,t5,E⟩;have N5:=J E;have H:=J (E.fr.obj G.o (λe=>by have:=(I.o.facts.1 _ e).2.1;have:=x.o;omega));have HR:=J C;have Y:=J l;obtain⟨s,f,D⟩:=C.slice.arg.form;subst D;clear E C l)|((with_reducible refine zv ?_);clear K3;refine zi rfl (zK (ty:=60) (b:=y) (off:=0) (cs:=yU (0) (.slice s (jK (A.Q n) a.id).length f) (.slice none 0 0)) rfl rfl rfl (zV H.o (le_refl 3)) xM (qM rfl rfl rfl)) ?_));go_frame)
 have V:=ZL (cs:=yU (0) (.slice s (jK (A.Q n) a.id).length f) (.slice none 0 0)) H.o rfl
 have O:=zu y (yU (0) (.slice s (jK (A.Q n) a.id).length f) (.slice none 0 0)) 0 w5
 refine bodyPost_ret (v:=.agg (yU (0) (.slice s (jK (A.Q n) a.id).length f) (.slice none 0 0)).toArray) (results_cell_row (P:=prog) (fn:=Tryz.f20) rfl _ _ y 60 _ (0,0) _ rfl V Tryz.underlying60 rfl xM) rfl ⟨_,rfl,T5,_,N5.o.ans I.o W.o x.o K.o O,⟨(zlG HR.o (λj hj=>(d.o.facts.2.1 j hj)) Y.o (le_trans (List.length_filter_le _ _) (le_trans (d.o.facts.2.2.2.2.2.2 n).len (by decide)))).step (O.mono (λj e=>.inr e)) (λ_ _ h=>h),JP.2⟩⟩
theorem zns (Z:vj w0) (h:WS w0 w pc pp ps T X N A) {a:qZ} {cs:List Value} (G:Kept X w (λw=>qS w a cs)) (H:a.kind=1) (j:qt A.Q a.src a.id=false):
  Calls prog 20 #[.agg (vw pc pp ps).toArray,.agg cs.toArray] w λe w'=>e=.returned (.agg (yU 9 (.slice none 0 0) (.slice none 0 0)).toArray)∧∃T' X',qj w0 w w' pc pp ps T X N A T' X'∧ZW X' w' (.slice none 0 0) (.slice none 0 0) [] []:=by
 obtain⟨m,E,F,s,y⟩:=xX w (.cells (vw pc pp ps).toArray 29) (.cells cs.toArray 57) (.cells (yU 0 (.slice none 0 0) (.slice none 0 0)).toArray 60)
 obtain⟨aa,bcs,i,f,d,k,x,kt,kb⟩:=qF G
 have g:=J (h.into (c:=w.heap.size+1+1) s (by omega) y)
 have l:=J (jD (q:=w.heap.size+1) (by rw[←i];exact zq E) k d)
 have U:=J l.o.2.2.2.1
 have W:=l.o.1
 have cS:=l.o.2.1
 have p0:=by simpa using zq m 0 _ rfl
 have p1:=by simpa using zq m 1 _ rfl
 have p2:=by simpa using zq m 2 _ rfl
 have z:=J F
 have K:=J s
 have D:=J y
 have C:=@J (w.heap.size≤w.heap.size+1+1) (by omega)
 have L:=J (zx d)
 have o:=J d
 have p:=J f
 have V:=J h
 have zA:=JF
 clear h Z G i f d k x kt kb m E F s y l
 rw[H] at W
 clear H
 have n:=J j
 clear j
 go_enter Tryz.func20,Tryz.ntmps20
 have⟨M,O,Q,R⟩:=tZ4
 go_wp2_with ((first|((with_reducible refine zt ?_);first|(clear M;refine zn3 rfl rfl rfl U.o L.o ?_;generalize w.heap.size+1+1=r at g z D C⊢;generalize (((w.alloc (.cells (vw pc pp ps).toArray 29)).alloc (.cells cs.toArray 57)).alloc (.cells (yU 0 (.slice none 0 0) (.slice none 0 0)).toArray 60))=w3 at*)|(clear Q;refine zg rfl (yf (t:=60) rfl rfl (zgG _ _ _ _)) ?_))|(clear O;go_at_call 14;refine(zkj g.o p.o o.o n.o).mono ?_;rintro e w5 ⟨rfl,u⟩;have S:=J (g.o.idle u);have B:=J (u.obj z.o id);clear u)|((with_reducible refine zv ?_);clear R;refine zi rfl (zK (ty:=60) (b:=r) (off:=0) (cs:=yU (9) (.slice none 0 0) (.slice none 0 0)) rfl rfl rfl (zV B.o (le_refl 3)) xM (qM rfl rfl rfl)) ?_));go_frame)
 have I:=ZL (cs:=yU (9) (.slice none 0 0) (.slice none 0 0)) B.o rfl
 have Y:=zu r (yU (9) (.slice none 0 0) (.slice none 0 0)) 0 w5
 refine bodyPost_ret (v:=.agg (yU (9) (.slice none 0 0) (.slice none 0 0)).toArray) (results_cell_row (P:=prog) (fn:=Tryz.f20) rfl _ _ r 60 _ (0,0) _ rfl I Tryz.underlying60 rfl xM) rfl ⟨rfl,_,_,S.o.ans V.o K.o C.o D.o Y,JP⟩
theorem znV (hg:vj w0) (h:WS w0 w pc pp ps T X N A) {a:qZ} {cs:List Value} (M:Kept X w (λw=>qS w a cs)) (O:a.kind=2):
  Calls prog 20 #[.agg (vw pc pp ps).toArray,.agg cs.toArray] w λe w'=>∃B,e=.returned (.agg (yU 0 (.slice none 0 0) B).toArray)∧∃T' X',qj w0 w w' pc pp ps T X N {A with Q:=Jb A.Q a.id 65} T' X'∧ZW X' w' (.slice none 0 0) B [] (jh A.Q a.id 65):=by
 obtain⟨n,I,K,u,D⟩:=xX w (.cells (vw pc pp ps).toArray 29) (.cells cs.toArray 57) (.cells (yU 0 (.slice none 0 0) (.slice none 0 0)).toArray 60)
 obtain⟨aa,bcs,i,k,d,l,x,kt,kb⟩:=qF M
 have g:=J (h.into (c:=w.heap.size+1+1) u (by omega) D)
 have m:=J (jD (q:=w.heap.size+1) (by rw[←i];exact zq I) l d)
 have RH:=J m.o.2.2.2.1
 have cK:=m.o.1
 have cS:=m.o.2.1
 have p0:=by simpa using zq n 0 _ rfl
 have p1:=by simpa using zq n 1 _ rfl
 have p2:=by simpa using zq n 2 _ rfl
 have E:=J K
 have S:=J u
 have H:=J D
 have r:=@J (w.heap.size≤w.heap.size+1+1) (by omega)
 have U:=J (zx d)
 have p:=J d
 have G:=J h
 have zA:=JF
 clear h hg M i k d l x kt kb n I K u D m
 rw[O] at cK
 clear O
 go_enter Tryz.func20,Tryz.ntmps20
 have⟨W,Y,Z,K3⟩:=tZ4
 go_wp2_with ((first|((with_reducible refine zt ?_);first|(clear W;refine zn3 rfl rfl rfl RH.o U.o ?_;generalize w.heap.size+1+1=s at g E H r⊢;generalize (((w.alloc (.cells (vw pc pp ps).toArray 29)).alloc (.cells cs.toArray 57)).alloc (.cells (yU 0 (.slice none 0 0) (.slice none 0 0)).toArray 60))=w3 at*)|(clear Z;refine zg rfl (yf (t:=60) rfl rfl (zkE _ _ _ _)) ?_))|(clear Y;go_at_call 23;refine(zmX g.o p.o).mono ?_;rintro e w5 ⟨B,rfl,y,T5,C⟩;have N5:=J C;have F:=J (C.fr.obj E.o (λe=>by have:=(G.o.facts.1 _ e).2.1;have:=r.o;omega));have V:=J y;obtain⟨o,f,z⟩:=y.slice.arg.form;subst z;clear C y)|((with_reducible refine zv ?_);clear K3;refine zi rfl (zK (ty:=60) (b:=s) (off:=0) (cs:=yU (0) (.slice none 0 0) (.slice o (jh A.Q a.id 65).length f)) rfl rfl rfl (zV F.o (le_refl 3)) xM (qM rfl rfl rfl)) ?_));go_frame)
 have R:=ZL (cs:=yU (0) (.slice none 0 0) (.slice o (jh A.Q a.id 65).length f)) F.o rfl
 have L:=zu s (yU (0) (.slice none 0 0) (.slice o (jh A.Q a.id 65).length f)) 0 w5
 refine bodyPost_ret (v:=.agg (yU (0) (.slice none 0 0) (.slice o (jh A.Q a.id 65).length f)).toArray) (results_cell_row (P:=prog) (fn:=Tryz.f20) rfl _ _ s 60 _ (0,0) _ rfl R Tryz.underlying60 rfl xM) rfl ⟨_,rfl,T5,_,N5.o.ans G.o S.o r.o H.o L,⟨JP.1,(zjD V.o (λj hj=>(g.o.facts.2.1 j hj))).step (L.mono (λj e=>.inr e)) (λ_ _ h=>h)⟩⟩
theorem znW (F:vj w0) (h:WS w0 w pc pp ps T X N A) (hN:N≤800) {a:qZ} {cs:List Value} (E:Kept X w (λw=>qS w a cs)) (G:a.kind=3):
  Calls prog 20 #[.agg (vw pc pp ps).toArray,.agg cs.toArray] w λe w'=>e=.returned (.agg (yU (Zg A.S (yd A.bs) A.L a.tx) (.slice none 0 0) (.slice none 0 0)).toArray)∧∃T' X',qj w0 w w' pc pp ps T X (N+1) {A with L:=Zh A.S (yd A.bs) A.L a.tx 0} T' X'∧ZW X' w' (.slice none 0 0) (.slice none 0 0) [] []:=by
 obtain⟨l,C,D,m,s⟩:=xX w (.cells (vw pc pp ps).toArray 29) (.cells cs.toArray 57) (.cells (yU 0 (.slice none 0 0) (.slice none 0 0)).toArray 60)
 obtain⟨aa,bcs,g,j,i,f,p,kt,kb⟩:=qF E
 have d:=J (h.into (c:=w.heap.size+1+1) m (by omega) s)
 have y:=J (kt.into (c:=w.heap.size+1+1) m (by omega))
 have k:=J (jD (q:=w.heap.size+1) (by rw[←g];exact zq C) f i)
 have U:=J k.o.2.2.1
 have Z:=k.o.1
 have cS:=k.o.2.1
 have p0:=by simpa using zq l 0 _ rfl
 have p1:=by simpa using zq l 1 _ rfl
 have p2:=by simpa using zq l 2 _ rfl
 have u:=J D
 have I:=J m
 have B:=J s
 have n:=@J (w.heap.size≤w.heap.size+1+1) (by omega)
 have W:=J f
 have z:=J h
 have K:=J (F.keep0 d.o.facts.2.2.1)
 have zA:=JF
 clear h F E g j i f p kt kb l C D m s k
 rw[G] at Z
 clear G
 go_enter Tryz.func20,Tryz.ntmps20
 have⟨M,O,Q,R⟩:=tZ4
 go_wp2_with ((first|((with_reducible refine zt ?_);first|(clear M;refine zn1 rfl rfl rfl U.o W.o ?_;generalize w.heap.size+1+1=o at d y u B n⊢;generalize (((w.alloc (.cells (vw pc pp ps).toArray 29)).alloc (.cells cs.toArray 57)).alloc (.cells (yU 0 (.slice none 0 0) (.slice none 0 0)).toArray 60))=w3 at*)|(clear Q;refine zg rfl (yf (t:=60) rfl rfl (XA _)) ?_))|(clear O;go_at_call 16;refine(ziP K.o d.o hN y.o).mono ?_;rintro e w5 ⟨gv,rfl,-,V,Y,r⟩;have S:=J r;have x:=J (r.fr.obj u.o (λe=>by have:=(z.o.facts.1 _ e).2.1;have:=n.o;omega));clear r)|((with_reducible refine zv ?_);clear R;refine zi rfl (zK (ty:=60) (b:=o) (off:=0) (cs:=yU (Zg A.S (yd A.bs) A.L a.tx) (.slice none 0 0) (.slice none 0 0)) rfl rfl rfl (zV x.o (le_refl 3)) xM (qM rfl rfl rfl)) ?_));go_frame)
 have H:=ZL (cs:=yU (Zg A.S (yd A.bs) A.L a.tx) (.slice none 0 0) (.slice none 0 0)) x.o rfl
 have fE:=zu o (yU (Zg A.S (yd A.bs) A.L a.tx) (.slice none 0 0) (.slice none 0 0)) 0 w5
 refine bodyPost_ret (v:=.agg (yU (Zg A.S (yd A.bs) A.L a.tx) (.slice none 0 0) (.slice none 0 0)).toArray) (results_cell_row (P:=prog) (fn:=Tryz.f20) rfl _ _ o 60 _ (0,0) _ rfl H Tryz.underlying60 rfl xM) rfl ⟨rfl,V,Y,S.o.ans z.o I.o n.o B.o fE,JP⟩
end
section
variable {w0 wb w w':World} {pc pp ps N:Nat} {T X X1:Nat→Prop} {A:WA} {S1:List zr} {bs1:List yx}
theorem WM.frm (h:WM w0 wb w pc pp ps T X N A S1 bs1 X1):Fr T wb w:=by
 obtain⟨b,css,ma,ms,g,c,a,d,e,R,CS,h⟩:=h
 exact h.fr
theorem WM.fr0 (h:WM w0 wb w pc pp ps T X N A S1 bs1 X1) (f:Fr No w w'):WM w0 wb w' pc pp ps T X N A S1 bs1 X1:=by
 obtain⟨b,css,ma,ms,g,c,a,e,i,R,CS,h⟩:=h
 exact⟨b,css,ma,ms,g,c,a,e,i,R,CS,
  {h with
   ch:=h.ch.frV f (λ_ _=>id) (λ_ h=>h.elim) (λ_ h=>h.elim) (λ_ _ h=>h)
   po:=h.po.frV f (λ_ _=>id) (λ_ h=>h.elim) (λ_ h=>h.elim) (λ_ _ h=>h) h.po.sub
   st:=h.st.frV f (λ_ _=>id) (λ_ h=>h.elim) (λ_ h=>h.elim) (λ_ _ h=>h) h.st.sub
   xl:=λj d=>lt_of_lt_of_le (h.xl j d) f.size
   fr:=h.fr.trans (f.of0:Fr T w w') (λ_ _ h=>h)}⟩
theorem zkJ {b:qA} {t:Int} {v:Value} {a:Option Addr} {c:Nat} (h:jB w b [.int .u64 t,v,.slice a b.txs.length c]):vC w (.slice a b.txs.length c) b.txs:=by
 obtain⟨g,i,j,k,e,_,_,f⟩:=h
 simp only[zhp,List.cons.injEq,and_true] at e
 obtain⟨-,-,d⟩:=e
 injection d with e21 _ e23
 subst e21;subst e23
 exact f
end
section
variable {w0 w:World} {pc pp ps N:Nat} {T X:Nat→Prop} {A:WA}
theorem znu (I:vj w0) (h:WS w0 w pc pp ps T X N A) (hB:A.bs.length≤200) {a:qZ} {cs:List Value} (H:Kept X w (λw=>qS w a cs)) (K:a.kind=4) (s:¬vZ (yd A.bs) A.S A.bs a.blk=0):
  Calls prog 20 #[.agg (vw pc pp ps).toArray,.agg cs.toArray] w λe w'=>e=.returned (.agg (yU (vZ (yd A.bs) A.S A.bs a.blk) (.slice none 0 0) (.slice none 0 0)).toArray)∧∃T' X',qj w0 w w' pc pp ps T X N A T' X'∧ZW X' w' (.slice none 0 0) (.slice none 0 0) [] []:=by
 obtain⟨m,F,G,n,x⟩:=xX w (.cells (vw pc pp ps).toArray 29) (.cells cs.toArray 57) (.cells (yU 0 (.slice none 0 0) (.slice none 0 0)).toArray 60)
 obtain⟨ab,bcs,g,j,i,k,f,kt,M⟩:=qF H
 have d:=J (h.into (c:=w.heap.size+1+1) n (by omega) x)
 have B:=J (M.into (c:=w.heap.size+1+1) n (by omega))
 have l:=J (jD (q:=w.heap.size+1) (by rw[←g];exact zq F) k i)
 have RB:=J l.o.2.2.2.2
 have cK:=l.o.1
 have cS:=l.o.2.1
 have p0:=by simpa using zq m 0 _ rfl
 have p1:=by simpa using zq m 1 _ rfl
 have p2:=by simpa using zq m 2 _ rfl
 have y:=J G
 have R:=J n
 have D:=J x
 have p:=@J (w.heap.size≤w.heap.size+1+1) (by omega)
 have Q:=J f
 have C:=J h
 have S:=J I
 have zA:=JF
 clear h I H g j i k f kt M m F G n x l
 rw[K] at cK
 clear K
 have o:=J (zjb S.o d.o hB B.o.now)
 rw[show Xh (yd A.bs) A.S A.bs a.blk=A.S from if_neg s,show Yo (yd A.bs) A.S A.bs a.blk=A.bs from if_neg s] at o
 generalize vZ (yd A.bs) A.S A.bs a.blk=E at*
 have aa:(E==0)=false:=by simpa using s
 go_enter Tryz.func20,Tryz.ntmps20
 have⟨U,V,W,Y⟩:=tZ4
 go_wp2_with ((first|((with_reducible refine zt ?_);first|(clear U;refine zn5 rfl rfl rfl RB.o Q.o ?_;generalize w.heap.size+1+1=r at d B y D p o⊢;generalize (((w.alloc (.cells (vw pc pp ps).toArray 29)).alloc (.cells cs.toArray 57)).alloc (.cells (yU 0 (.slice none 0 0) (.slice none 0 0)).toArray 60))=w3 at*)|(clear W;refine zg rfl (yf (t:=60) rfl rfl (XA _)) ?_))|(clear V;go_at_call 51;refine o.o.mono ?_;rintro e w5 ⟨rfl,X1,L⟩;obtain⟨T5,X5,u⟩:=L.still d.o.facts.2.2.2.1;have Z:=J u;have z:=J (u.fr.obj y.o (λe=>by have:=(C.o.facts.1 _ e).2.1;have:=p.o;omega));clear u L)|((with_reducible refine zv ?_);clear Y;refine zi rfl (zK (ty:=60) (b:=r) (off:=0) (cs:=yU (E) (.slice none 0 0) (.slice none 0 0)) rfl rfl rfl (zV z.o (le_refl 3)) xM (qM rfl rfl rfl)) ?_));go_frame)
 have O:=ZL (cs:=yU (E) (.slice none 0 0) (.slice none 0 0)) z.o rfl
 have fE:=zu r (yU (E) (.slice none 0 0) (.slice none 0 0)) 0 w5
 refine bodyPost_ret (v:=.agg (yU (E) (.slice none 0 0) (.slice none 0 0)).toArray) (results_cell_row (P:=prog) (fn:=Tryz.f20) rfl _ _ r 60 _ (0,0) _ rfl O Tryz.underlying60 rfl xM) rfl ⟨rfl,T5,X5,Z.o.ans C.o R.o p.o D.o fE,JP⟩
theorem znv (Q:vj w0) (h:WS w0 w pc pp ps T X N A) (hB:A.bs.length≤200) (hN:N≤1000) (f:52≤N) {a:qZ} {cs:List Value} (O:Kept X w (λw=>qS w a cs)) (R:a.kind=4) (s:vZ (yd A.bs) A.S A.bs a.blk=0):
  Calls prog 20 #[.agg (vw pc pp ps).toArray,.agg cs.toArray] w λe w'=>e=.returned (.agg (yU 0 (.slice none 0 0) (.slice none 0 0)).toArray)∧∃T' X',qj w0 w w' pc pp ps T X N {A with S:=(doR (yd A.bs) A.S a.blk).S,bs:=A.bs++[(doR (yd A.bs) A.S a.blk).d],L:=Qe (doR (yd A.bs) A.S a.blk).S (yd (A.bs++[(doR (yd A.bs) A.S a.blk).d])) A.L [] 0} T' X'∧ZW X' w' (.slice none 0 0) (.slice none 0 0) [] []:=by
 obtain⟨p,K,M,r,D⟩:=xX w (.cells (vw pc pp ps).toArray 29) (.cells cs.toArray 57) (.cells (yU 0 (.slice none 0 0) (.slice none 0 0)).toArray 60)
 obtain⟨aa,bcs,i,l,j,m,g,kt,U⟩:=qF O
 have d:=J (h.into (c:=w.heap.size+1+1) r (by omega) D)
 have H:=J (U.into (c:=w.heap.size+1+1) r (by omega))
 have n:=J (jD (q:=w.heap.size+1) (by rw[←i];exact zq K) m j)
 have RB:=J n.o.2.2.2.2
 have cK:=n.o.1
 have cS:=n.o.2.1
 have V:=by simpa using zq p 0 _ rfl
 have W:=by simpa using zq p 1 _ rfl
 have p2:=by simpa using zq p 2 _ rfl
 have E:=J M
 have F3:=J r
 have I:=J D
 have z:=@J (w.heap.size≤w.heap.size+1+1) (by omega)
 have Z:=J g
 have o:=J h
 have G:=J Q
 have zA:=JF
 clear h Q O i l j m g kt U p K M r D n
 rw[R] at cK
 clear R
 have x:=J (zjb G.o d.o hB H.o.now)
 rw[show Xh (yd A.bs) A.S A.bs a.blk=(doR (yd A.bs) A.S a.blk).S from if_pos s,show Yo (yd A.bs) A.S A.bs a.blk=A.bs++[(doR (yd A.bs) A.S a.blk).d] from if_pos s,s] at x
 have y:=J f
 clear s f
 go_enter Tryz.func20,Tryz.ntmps20
 have⟨K0,K1,K2,K3,K4⟩:=tZ5
 go_wp2_with ((first|((with_reducible refine zt ?_);first|(clear K0;refine zn5 rfl rfl rfl RB.o Z.o ?_;generalize w.heap.size+1+1=B at d H E I z x⊢;generalize (((w.alloc (.cells (vw pc pp ps).toArray 29)).alloc (.cells cs.toArray 57)).alloc (.cells (yU 0 (.slice none 0 0) (.slice none 0 0)).toArray 60))=w3 at*)|(clear K3;refine zg rfl (yf (t:=60) rfl rfl (XA _)) ?_))|(clear K1;go_at_call 51;refine x.o.mono ?_;rintro e w5 ⟨rfl,X1,u⟩;have HM:=J u;have r0:=u.frm.cell V (λe=>absurd (o.o.facts.1 _ e).2.1 (Nat.lt_irrefl _));have r1:=u.frm.cell W (λe=>absurd (o.o.facts.1 _ e).2.1 (Nat.lt_irrefl _));clear u V W p2)|(clear K2;go_at_call 52;refine(zg4 G.o HM.o hN (λw' _=>zhd w') (by decide)).mono ?_;rintro e w6 ⟨⟨gv,rfl⟩,N6,T5,X5,k,C⟩;have N5:=J (C.more (N':=N) (by have:=d.o.facts.2.2.2.2.1;have:=y.o;simp only[List.length_nil] at k;omega));have F:=J (C.fr.obj E.o (λe=>by have:=(o.o.facts.1 _ e).2.1;have:=z.o;omega));clear C k r0 r1)|((with_reducible refine zv ?_);clear K4;refine zi rfl (zK (ty:=60) (b:=B) (off:=0) (cs:=yU (0) (.slice none 0 0) (.slice none 0 0)) rfl rfl rfl (zV F.o (le_refl 3)) xM (qM rfl rfl rfl)) ?_));go_frame)
 have Y:=ZL (cs:=yU (0) (.slice none 0 0) (.slice none 0 0)) F.o rfl
 have fE:=zu B (yU (0) (.slice none 0 0) (.slice none 0 0)) 0 w6
 refine bodyPost_ret (v:=.agg (yU (0) (.slice none 0 0) (.slice none 0 0)).toArray) (results_cell_row (P:=prog) (fn:=Tryz.f20) rfl _ _ B 60 _ (0,0) _ rfl Y Tryz.underlying60 rfl xM) rfl ⟨rfl,T5,X5,N5.o.ans o.o F3.o z.o I.o fE,JP⟩
theorem znw (Z:vj w0) (h:WS w0 w pc pp ps T X N A) {a:qZ} {cs:List Value} (G:Kept X w (λw=>qS w a cs)) (H:a.kind=5) (f:A.bs=[]):
  Calls prog 20 #[.agg (vw pc pp ps).toArray,.agg cs.toArray] w λe w'=>e=.returned (.agg (yU 9 (.slice none 0 0) (.slice none 0 0)).toArray)∧∃U X',qj w0 w w' pc pp ps T X N A U X'∧ZW X' w' (.slice none 0 0) (.slice none 0 0) [] []:=by
 obtain⟨l,D,E,o,s⟩:=xX w (.cells (vw pc pp ps).toArray 29) (.cells cs.toArray 57) (.cells (yU 0 (.slice none 0 0) (.slice none 0 0)).toArray 60)
 obtain⟨ab,bcs,g,j,i,k,p,kt,kb⟩:=qF G
 have d:=J (h.into (c:=w.heap.size+1+1) o (by omega) s)
 have m:=J (jD (q:=w.heap.size+1) (by rw[←g];exact zq D) k i)
 have W:=m.o.1
 have cS:=m.o.2.1
 have p0:=by simpa using zq l 0 _ rfl
 have p1:=by simpa using zq l 1 _ rfl
 have p2:=by simpa using zq l 2 _ rfl
 have u:=J E
 have K:=J o
 have C:=J s
 have B:=@J (w.heap.size≤w.heap.size+1+1) (by omega)
 have V:=J h
 have zA:=JF
 clear h Z G g j i k p kt kb l D E o s m
 rw[H] at W
 clear H
 have zB:=YZ
 have y:=J (zjh d.o f)
 clear f
 go_enter Tryz.func20,Tryz.ntmps20
 have⟨M,O,Q,R⟩:=tZ4
 go_wp2_with ((first|(clear M;go_at_call 53;generalize w.heap.size+1+1=n at d u C B y⊢;generalize (((w.alloc (.cells (vw pc pp ps).toArray 29)).alloc (.cells cs.toArray 57)).alloc (.cells (yU 0 (.slice none 0 0) (.slice none 0 0)).toArray 60))=w3 at*;refine y.o.mono ?_;rintro e r ⟨rfl,F⟩;have L:=J F;clear F)|((with_reducible refine zv ?_);first|(clear O;refine zi rfl (zm (w:=r) (ty:=55) (cs:=Jv) rfl rfl rfl rfl JQ (qM rfl rfl rfl)) ?_;have z:=J (L.o.alloc (.cells Jv.toArray 55));generalize r.heap.size=aa at⊢;generalize r.alloc (.cells Jv.toArray 55)=w6 at*;have S:=J (d.o.idle z.o);have x:=J (z.o.obj u.o id))|(clear R;refine zi rfl (zK (ty:=60) (b:=n) (off:=0) (cs:=yU (9) (.slice none 0 0) (.slice none 0 0)) rfl rfl rfl (zV x.o (le_refl 3)) xM (qM rfl rfl rfl)) ?_))|((with_reducible refine zt ?_);clear Q;refine zg rfl (yf (t:=60) rfl rfl (XA _)) ?_));go_frame)
 have I:=ZL (cs:=yU (9) (.slice none 0 0) (.slice none 0 0)) x.o rfl
 have Y:=zu n (yU (9) (.slice none 0 0) (.slice none 0 0)) 0 w6
 refine bodyPost_ret (v:=.agg (yU (9) (.slice none 0 0) (.slice none 0 0)).toArray) (results_cell_row (P:=prog) (fn:=Tryz.f20) rfl _ _ n 60 _ (0,0) _ rfl I Tryz.underlying60 rfl xM) rfl ⟨rfl,_,_,S.o.ans V.o K.o B.o C.o Y,JP⟩
theorem znx (hg:vj w0) (h:WS w0 w pc pp ps T X N A) {bs:List yx} {d:yx} (n:A.bs=bs++[d]) (hB:bs.length≤200) (hT:d.blk.txs.length≤20) (hN:N≤1000) (m:52≤N) {a:qZ} {cs:List Value} (ha:Kept X w (λw=>qS w a cs)) (hk:a.kind=5):
  Calls prog 20 #[.agg (vw pc pp ps).toArray,.agg cs.toArray] w λe w'=>e=.returned (.agg (yU 0 (.slice none 0 0) (.slice none 0 0)).toArray)∧∃T' X',qj w0 w w' pc pp ps T X N {A with S:=xU d.chg A.S,bs:=bs,L:=Qe (xU d.chg A.S) (yd bs) A.L d.blk.txs 0} T' X'∧ZW X' w' (.slice none 0 0) (.slice none 0 0) [] []:=by
 obtain⟨z,b1,b2,M,V⟩:=xX w (.cells (vw pc pp ps).toArray 29) (.cells cs.toArray 57) (.cells (yU 0 (.slice none 0 0) (.slice none 0 0)).toArray 60)
 obtain⟨ab,bcs,o,r,p,s,O,kt,kb⟩:=qF ha
 have i:=J (h.into (c:=w.heap.size+1+1) M (by omega) V)
 have H:=J (jD (q:=w.heap.size+1) (by rw[←o];exact zq b1) s p)
 have cK:=H.o.1
 have cS:=H.o.2.1
 have p0:=by simpa using zq z 0 _ rfl
 have p1:=by simpa using zq z 1 _ rfl
 have p2:=by simpa using zq z 2 _ rfl
 have W:=J b2
 have F3:=J M
 have Z3:=J V
 have I:=@J (w.heap.size≤w.heap.size+1+1) (by omega)
 have y:=J h
 have G0:=J hg
 have zA:=JF
 clear h hg ha o r p s O kt kb z b1 b2 M V H
 rw[hk] at cK
 clear hk
 have zB:=YZ
 have Z:=J (zmq i.o n hB)
 have D:=J m
 have HT:=J hT
 clear n m hT
 go_enter Tryz.func20,Tryz.ntmps20
 have⟨K0,K1,K2,K3,K4⟩:=tZ5
 go_wp2_with ((first|(clear K0;go_at_call 53;generalize w.heap.size+1+1=K at i W Z3 I Z⊢;generalize (((w.alloc (.cells (vw pc pp ps).toArray 29)).alloc (.cells cs.toArray 57)).alloc (.cells (yU 0 (.slice none 0 0) (.slice none 0 0)).toArray 60))=w3 at*;refine Z.o.mono ?_;rintro e u ⟨aa,X1,rfl,B,j⟩;obtain⟨C,g,k,l,rfl⟩:=j.now.form;have F:=J B;have E:=J j;have r0:=B.frm.cell p0 (λe=>absurd (y.o.facts.1 _ e).2.1 (Nat.lt_irrefl _));have r1:=B.frm.cell p1 (λe=>absurd (y.o.facts.1 _ e).2.1 (Nat.lt_irrefl _));clear B j p0 p1 p2)|(clear K2;go_at_call 52;refine(zg4 G0.o G.o hN HX.o (by have:=HT.o;omega)).mono ?_;rintro e w7 ⟨⟨gv,rfl⟩,N6,T5,X5,Q,R⟩;have N5:=J (R.more (N':=N) (by have:=i.o.facts.2.2.2.2.1;have:=D.o;have:=HT.o;omega));have Y:=J (R.fr.obj W.o (λe=>by have:=(y.o.facts.1 _ e).2.1;have:=I.o;omega));clear R Q t0 t1 ct)|((with_reducible refine zv ?_);first|(clear K1;refine zi rfl (zm (w:=u) (ty:=55) (cs:=[.int .u64 d.blk.tag,.slice C d.blk.pay.length g,.slice k d.blk.txs.length l]) rfl rfl rfl rfl JQ (qM rfl rfl rfl)) ?_;have RN:=J (zy u [.int .u64 d.blk.tag,.slice C d.blk.pay.length g,.slice k d.blk.txs.length l] 55);have x:=J ((frN u).alloc (.cells ([.int .u64 d.blk.tag,.slice C d.blk.pay.length g,.slice k d.blk.txs.length l]:List Value).toArray 55));generalize u.heap.size=U at RN⊢;generalize u.alloc (.cells ([.int .u64 d.blk.tag,.slice C d.blk.pay.length g,.slice k d.blk.txs.length l]:List Value).toArray 55)=w6 at*;have G:=J (F.o.fr0 x.o);have HX:=@J (Kept X1 w6 (λw=>vC w (.slice k d.blk.txs.length l) d.blk.txs)) (λw' f=>zkJ ((E.o.same x.o.of0) w' f));have t0:=x.o.cell r0 id;have t1:=x.o.cell r1 id;have ct:w6.cell? ⟨U,2,none⟩=some (.slice k d.blk.txs.length l):=(by simpa using RN.o 2 _ rfl);clear r0 r1)|(clear K4;refine zi rfl (zK (ty:=60) (b:=K) (off:=0) (cs:=yU (0) (.slice none 0 0) (.slice none 0 0)) rfl rfl rfl (zV Y.o (le_refl 3)) xM (qM rfl rfl rfl)) ?_))|((with_reducible refine zt ?_);clear K3;refine zg rfl (yf (t:=60) rfl rfl (XA _)) ?_));go_frame)
 have BE:=ZL (cs:=yU (0) (.slice none 0 0) (.slice none 0 0)) Y.o rfl
 have fE:=zu K (yU (0) (.slice none 0 0) (.slice none 0 0)) 0 w7
 refine bodyPost_ret (v:=.agg (yU (0) (.slice none 0 0) (.slice none 0 0)).toArray) (results_cell_row (P:=prog) (fn:=Tryz.f20) rfl _ _ K 60 _ (0,0) _ rfl BE Tryz.underlying60 rfl xM) rfl ⟨rfl,T5,X5,N5.o.ans y.o F3.o I.o Z3.o fE,JP⟩
theorem znX (K:vj w0) (h:WS w0 w pc pp ps T X N A) {a:qZ} {cs:List Value} (z:Kept X w (λw=>qS w a cs)) (L:¬a.kind=0) (M:¬a.kind=1) (O:¬a.kind=2) (Q:¬a.kind=3) (R:¬a.kind=4) (S:¬a.kind=5):
  Calls prog 20 #[.agg (vw pc pp ps).toArray,.agg cs.toArray] w λe w'=>e=.returned (.agg (yU 0 (.slice none 0 0) (.slice none 0 0)).toArray)∧∃G X',qj w0 w w' pc pp ps T X N A G X'∧ZW X' w' (.slice none 0 0) (.slice none 0 0) [] []:=by
 obtain⟨k,x,y,n,p⟩:=xX w (.cells (vw pc pp ps).toArray 29) (.cells cs.toArray 57) (.cells (yU 0 (.slice none 0 0) (.slice none 0 0)).toArray 60)
 obtain⟨V,bcs,f,i,g,j,o,kt,U⟩:=qF z
 have d:=J (h.into (c:=w.heap.size+1+1) n (by omega) p)
 have l:=J (jD (q:=w.heap.size+1) (by rw[←f];exact zq x) j g)
 have W:=l.o.1
 have Y:=l.o.2.1
 have p0:=by simpa using zq k 0 _ rfl
 have p1:=by simpa using zq k 1 _ rfl
 have p2:=by simpa using zq k 2 _ rfl
 have r:=J y
 have D:=J n
 have u:=J p
 have t:=@J (w.heap.size≤w.heap.size+1+1) (by omega)
 have H:=J h
 have zA:=JF
 clear h K z f i g j o kt U k x y n p l
 have Z:(a.kind==0)=false:=by simpa using L
 have e1:(a.kind==1)=false:=by simpa using M
 have e2:(a.kind==2)=false:=by simpa using O
 have e3:(a.kind==3)=false:=by simpa using Q
 have e4:(a.kind==4)=false:=by simpa using R
 have e5:(a.kind==5)=false:=by simpa using S
 go_enter Tryz.func20,Tryz.ntmps20
 have E:=tru
 go_wp2_with ((with_reducible refine zv ?_);clear E;generalize w.heap.size+1+1=m at d r u t⊢;generalize (((w.alloc (.cells (vw pc pp ps).toArray 29)).alloc (.cells cs.toArray 57)).alloc (.cells (yU 0 (.slice none 0 0) (.slice none 0 0)).toArray 60))=B at*;have F:=J (d.o.idle (frN B));have s:=J r.o;refine zi rfl (zK (ty:=60) (b:=m) (off:=0) (cs:=yU (0) (.slice none 0 0) (.slice none 0 0)) rfl rfl rfl (zV s.o (le_refl 3)) xM (qM rfl rfl rfl)) ?_;go_frame)
 have C:=ZL (cs:=yU (0) (.slice none 0 0) (.slice none 0 0)) s.o rfl
 have I:=zu m (yU (0) (.slice none 0 0) (.slice none 0 0)) 0 B
 refine bodyPost_ret (v:=.agg (yU (0) (.slice none 0 0) (.slice none 0 0)).toArray) (results_cell_row (P:=prog) (fn:=Tryz.f20) rfl _ _ m 60 _ (0,0) _ rfl C Tryz.underlying60 rfl xM) rfl ⟨rfl,_,_,F.o.ans H.o D.o t.o u.o I,JP⟩
end
noncomputable def doA (A:WA) (a:qZ):WA:=
 if a.kind=0 then JJ A a.src a.tx
 else if a.kind=1 then(if qt A.Q a.src a.id=true then {A with Q:=vu A.Q a.src.toNat (Ql (A.Q a.src.toNat) a.id)} else A)
 else if a.kind=2 then {A with Q:=Jb A.Q a.id 65}
 else if a.kind=3 then {A with L:=Zh A.S (yd A.bs) A.L a.tx 0}
 else if a.kind=4 then(if vZ (yd A.bs) A.S A.bs a.blk=0 then {A with S:=(doR (yd A.bs) A.S a.blk).S,bs:=A.bs++[(doR (yd A.bs) A.S a.blk).d],L:=Qe (doR (yd A.bs) A.S a.blk).S (yd (A.bs++[(doR (yd A.bs) A.S a.blk).d])) A.L [] 0} else A)
 else if a.kind=5 then(match A.bs.getLast? with
  |none=>A
  |some d=>{A with S:=xU d.chg A.S,bs:=A.bs.dropLast,L:=Qe (xU d.chg A.S) (yd A.bs.dropLast) A.L d.blk.txs 0})
 else A
noncomputable def doE (A:WA) (a:qZ):Int:=
 if a.kind=0 then Jp A a.src a.tx
 else if a.kind=1 then(if qt A.Q a.src a.id=true then 0 else 9)
 else if a.kind=3 then Zg A.S (yd A.bs) A.L a.tx
 else if a.kind=4 then vZ (yd A.bs) A.S A.bs a.blk
 else if a.kind=5 then(if A.bs=[] then 9 else 0)
 else 0
def doT (A:WA) (a:qZ):List TxD:=if a.kind=1∧qt A.Q a.src a.id=true then(jK (A.Q a.src.toNat) a.id).map (·.tx) else[]
def doI (A:WA) (a:qZ):List Nat:=if a.kind=2 then jh A.Q a.id 65 else[]
section
variable {w0 w:World} {pc pp ps N:Nat} {T X:Nat→Prop} {A:WA}
theorem zny (l:vj w0) (h:WS w0 w pc pp ps T X N A) (y:N≤800) (q:52≤N) (t:A.bs.length≤200) (z:∀d∈A.bs,d.blk.txs.length≤20) {a:qZ} {cs:List Value} (k:Kept X w (λw=>qS w a cs)):
  Calls prog 20 #[.agg (vw pc pp ps).toArray,.agg cs.toArray] w λe w'=>∃tv u,e=.returned (.agg (yU (doE A a) tv u).toArray)∧∃b X',qj w0 w w' pc pp ps T X (N+1) (doA A a) b X'∧ZW X' w' tv u (doT A a) (doI A a):=by
 by_cases k0:a.kind=0
 ·refine(znU l h k k0).mono λe w' ⟨g,b,X',n,i⟩=>?_
  have j:doE A a=Jp A a.src a.tx:=by simp[doE,k0]
  have c:doA A a=JJ A a.src a.tx:=by simp[doA,k0]
  have m:doT A a=[]:=by simp[doT,k0]
  have o:doI A a=[]:=by simp[doI,k0]
  rw[j,c,m,o]
  exact⟨_,_,g,b,X',n.more (by omega),i⟩
 by_cases k1:a.kind=1
 ·have o:doI A a=[]:=by simp[doI,k1]
  cases hm:qt A.Q a.src a.id with
  |false=>
   have j:doE A a=9:=by simp[doE,k1,hm]
   have c:doA A a=A:=by simp[doA,k1,hm]
   have m:doT A a=[]:=by simp[doT,hm]
   rw[j,c,m,o]
   exact(zns l h k k1 hm).mono λe w' ⟨g,b,X',n,i⟩=>⟨_,_,g,b,X',n.more (by omega),i⟩
  |true=>
   have s:=hm
   unfold qt at s
   obtain⟨C,D,x⟩:=of_decide_eq_true s
   obtain⟨n,v⟩:∃n:Nat,a.src=(n:Int):=⟨a.src.toNat,(Int.toNat_of_nonneg C).symm⟩
   have p:a.src.toNat=n:=by rw[v,Int.toNat_natCast]
   rw[p] at x
   have j:doE A a=0:=by simp[doE,k1,hm]
   have c:doA A a={A with Q:=vu A.Q n (Ql (A.Q n) a.id)}:=by simp[doA,k1,hm,p]
   have m:doT A a=(jK (A.Q n) a.id).map (·.tx):=by simp[doT,k1,hm,p]
   rw[j,c,m,o]
   exact(znt l h k k1 v (by omega) x).mono λe w' ⟨tv,g,b,X',n,i⟩=>⟨_,_,g,b,X',n.more (by omega),i⟩
 by_cases k2:a.kind=2
 ·have j:doE A a=0:=by simp[doE,k2]
  have c:doA A a={A with Q:=Jb A.Q a.id 65}:=by simp[doA,k2]
  have m:doT A a=[]:=by simp[doT,k2]
  have o:doI A a=jh A.Q a.id 65:=by simp[doI,k2]
  rw[j,c,m,o]
  exact(znV l h k k2).mono λe w' ⟨u,g,b,X',n,i⟩=>⟨_,_,g,b,X',n.more (by omega),i⟩
 have m:doT A a=[]:=by simp[doT,k1]
 have o:doI A a=[]:=by simp[doI,k2]
 rw[m,o]
 by_cases k3:a.kind=3
 ·have j:doE A a=Zg A.S (yd A.bs) A.L a.tx:=by simp[doE,k3]
  have c:doA A a={A with L:=Zh A.S (yd A.bs) A.L a.tx 0}:=by simp[doA,k3]
  rw[j,c]
  exact(znW l h y k k3).mono λe w' ⟨g,b,X',n,i⟩=>⟨_,_,g,b,X',n,i⟩
 by_cases k4:a.kind=4
 ·have j:doE A a=vZ (yd A.bs) A.S A.bs a.blk:=by simp[doE,k4]
  rw[j]
  by_cases hE:vZ (yd A.bs) A.S A.bs a.blk=0
  ·have c:doA A a={A with S:=(doR (yd A.bs) A.S a.blk).S,bs:=A.bs++[(doR (yd A.bs) A.S a.blk).d],L:=Qe (doR (yd A.bs) A.S a.blk).S (yd (A.bs++[(doR (yd A.bs) A.S a.blk).d])) A.L [] 0}:=by simp[doA,k4,hE]
   rw[c,hE]
   exact(znv l h t (by omega) q k k4 hE).mono λe w' ⟨g,b,X',n,i⟩=>⟨_,_,g,b,X',n.more (by omega),i⟩
  ·have c:doA A a=A:=by simp[doA,k4,hE]
   rw[c]
   exact(znu l h t k k4 hE).mono λe w' ⟨g,b,X',n,i⟩=>⟨_,_,g,b,X',n.more (by omega),i⟩
 by_cases k5:a.kind=5
 ·cases hl:A.bs.getLast? with
  |none=>
   have f:A.bs=[]:=List.getLast?_eq_none_iff.1 hl
   have j:doE A a=9:=by simp[doE,k5,f]
   have c:doA A a=A:=by simp[doA,k5,f]
   rw[j,c]
   exact(znw l h k k5 f).mono λe w' ⟨g,b,X',n,i⟩=>⟨_,_,g,b,X',n.more (by omega),i⟩
  |some d=>
   obtain⟨bs,f⟩:=List.getLast?_eq_some_iff.1 hl
   have B:A.bs.dropLast=bs:=by rw[f,List.dropLast_concat]
   have r:bs.length≤200:=by rw[f,List.length_append] at t;omega
   have j:doE A a=0:=by simp[doE,k5,f]
   have c:doA A a={A with S:=xU d.chg A.S,bs:=bs,L:=Qe (xU d.chg A.S) (yd bs) A.L d.blk.txs 0}:=by
    unfold doA
    rw[if_neg k0,if_neg k1,if_neg k2,if_neg k3,if_neg k4,if_pos k5,hl]
    dsimp only
    rw[B]
   rw[j,c]
   exact(znx l h f r (z d (by rw[f];simp)) (by omega) q k k5).mono λe w' ⟨g,b,X',n,i⟩=>⟨_,_,g,b,X',n.more (by omega),i⟩
 ·have j:doE A a=0:=by simp[doE,k0,k1,k3,k4,k5]
  have c:doA A a=A:=by simp[doA,k0,k1,k2,k3,k4,k5]
  rw[j,c]
  exact(znX l h k k0 k1 k2 k3 k4 k5).mono λe w' ⟨g,b,X',n,i⟩=>⟨_,_,g,b,X',n.more (by omega),i⟩
theorem zkS (K:List zd) (S:List zr) (b:qA):(doR K S b).d.blk=b:=by
 unfold doR
 repeat' split
 all_goals rfl
theorem zad (A:WA) (a:qZ):(doA A a).bs.length≤A.bs.length+1∧∀d∈(doA A a).bs,d∈A.bs∨d.blk=a.blk:=by
 have same:∀B:WA,B.bs=A.bs→B.bs.length≤A.bs.length+1∧∀d∈B.bs,d∈A.bs∨d.blk=a.blk:=λB h=>by rw[h];exact⟨by omega,λd b=>.inl b⟩
 unfold doA
 split
 ·refine same _ ?_
  unfold JJ
  split<;>rfl
 split
 ·split<;>exact same _ rfl
 split
 ·exact same _ rfl
 split
 ·exact same _ rfl
 split
 ·split
  ·refine⟨by simp,λd b=>?_⟩
   rcases List.mem_append.1 b with b|b
   ·exact .inl b
   ·rw[List.mem_singleton.1 b,zkS]
    exact .inr rfl
  ·exact same _ rfl
 split
 ·split
  ·exact same _ rfl
  ·exact⟨by show A.bs.dropLast.length≤_;rw[List.length_dropLast];omega,λd b=>.inl (List.dropLast_subset _ b)⟩
 ·exact same _ rfl
end
theorem Jx.keep {w w':World} {v:Value} {l:List Nat} (h:Jx w v l) (f:Fr No w w'):Jx w' v l:=y7.keep h f
theorem Jx.at_ {w:World} {v:Value} {l:List Nat} (h:Jx w v l) {i s:Nat} (g:l[i]? =some s):∃b off c,v=.slice (some ⟨b,off,none⟩) l.length c∧w.cell? ⟨b,off+i,none⟩=some (.int .i64 s):=by
 have a:y7 w v l.length (l.map iV):=h
 rw[List.map_eq_flatMap] at a
 obtain⟨b,off,c,e,d,-⟩:=y7.elem (f:=λi=>[iV i]) (by decide) (λ_ _=>rfl) a g
 exact⟨b,off,c,e,by simpa[iV] using d 0 _ rfl⟩
theorem zdQ (w:World) {u v:Value} {a d:List Nat} (E:Jx w u a) (F:Jx w v d) (hN:a.length≤100000) (_:d.length≤100000):
  Calls prog 22 #[u,v] w λe w'=>∃b,e=.returned (.bool b)∧(b=true↔a=d)∧Fr No w w':=by
 obtain⟨ua,uc,rfl⟩:=y7.form E
 obtain⟨va,vc,rfl⟩:=y7.form F
 have Z:=J E
 have HV:=J F
 clear E F
 by_cases hlen:a.length=d.length
 ·have j1:(a.length:Int)=(d.length:Int):=by omega
  have o:=J hlen
  clear hlen
  go_enter Tryz.func22,Tryz.ntmps22
  go_wp2
  go_loopw [13] (λM wr=>∃n:Nat,M=.int .i64 n∧n≤a.length∧a.take n=d.take n∧Fr No w wr) (λM _=>a.length-(intOf M).toNat)
  case atStart=>exact⟨0,rfl,zero_le _,by simp,Fr.refl _ _⟩
  case round=>
   obtain⟨n,rfl,hn,p,fr⟩:=hrel
   have g:=J fr
   have Q:=J p
   clear fr p
   by_cases h:n<a.length
   ·have i1:(n:Int)<(a.length:Int):=by omega
    have L:(n:Int)<(d.length:Int):=by omega
    obtain⟨x,I⟩:∃x,a[n]? =some x:=⟨_,getElem?_eq_getElem h⟩
    obtain⟨y,hy⟩:∃y,d[n]? =some y:=⟨_,getElem?_eq_getElem (by rw[←o.o];exact h)⟩
    obtain⟨bx,O,cx,G,q⟩:=(Z.o.keep g.o).at_ I
    cases G
    obtain⟨i,P,cy,H,r⟩:=(HV.o.keep g.o).at_ hy
    cases H
    have R1:=J q
    have R2:=J r
    have S:=@J (a.take (n+1)=a.take n++[x]) (by rw[List.take_add_one,I];rfl)
    have U:=@J (d.take (n+1)=d.take n++[y]) (by rw[List.take_add_one,hy];rfl)
    clear q r I hy
    have j:Fr No wr wr.drew:=by(repeat(first|with_reducible exact Fr.refl _ _|with_reducible assumption|with_reducible refine Fr.drew ?_|with_reducible refine Fr.drewN ?_ _|with_reducible refine Fr.alloc ?_ _|with_reducible refine Fr.setCell ?_ _ (.inl (by simp<;>omega)) _))
    have s:=J (λ(W:World) (f:Fr No wr W)=>(⟨f.cell R1.o id,f.cell R2.o id⟩:W.cell? ⟨bx,O+n,none⟩=some (.int .i64 x)∧W.cell? ⟨i,P+n,none⟩=some (.int .i64 y)))
    by_cases hxk:(x:Int)=(y:Int)
    ·have D:=@J (a.take (n+1)=d.take (n+1)) (by rw[S.o,U.o,Q.o,show x=y by omega])
     have hb:decide ((x:Int)=(y:Int))=true:=by simpa using hxk
     go_wp2
     refine wrLx [ff,ff,ff,ff,ff,ff,ff,ff,ff] (λW=>W.cell? ⟨bx,O+n,none⟩=some (.int .i64 x)∧W.cell? ⟨i,P+n,none⟩=some (.int .i64 y)) ?_ (λK hK=>?_)
     ·exact s.o _ j
     repeat((first|(refine zj rfl ?_;constructor;constructor;(focus(rintro w' ⟨s1,s2⟩;go_simp;(try with_reducible rfl);done)))|(refine zl rfl ?_));try simp only[Act.put,pA,pB,pC])
     refine zL (hK.out _ _ ?_)
     have t:=J j
     clear j s
     go_wp2
     go_roundw
     case rel=>exact⟨n+1,by simp,by omega,D.o,g.o.trans0 t.o⟩
     case measure=>show a.length-(n+1)<a.length-n;omega
    ·have C:=@J (a≠d) (λe=>hxk (by
      have V:=S.o
      have Y:=U.o
      rw[e] at V
      rw[V] at Y
      have h3:=congrArg List.getLast? Y
      have h4:x=y:=by simpa using h3
      omega))
     go_wp2
     refine wrLx [ff,ff,ff,ff,ff,ff,ff,ff,ff] (λW=>W.cell? ⟨bx,O+n,none⟩=some (.int .i64 x)∧W.cell? ⟨i,P+n,none⟩=some (.int .i64 y)) ?_ (λK hK=>?_)
     ·exact s.o _ j
     repeat((first|(refine zj rfl ?_;constructor;constructor;(focus(rintro w' ⟨s1,s2⟩;go_simp;(try with_reducible rfl);done)))|(refine zl rfl ?_));try simp only[Act.put,pA,pB,pC])
     refine zL (hK.out _ _ ?_)
     have t:=J j
     clear j s
     go_wp2
     go_ret
     exact⟨false,rfl,by simp[C.o],g.o.trans0 t.o⟩
   ·have i1:¬(n:Int)<(a.length:Int):=by omega
    have L:n=a.length:=by omega
    have m:a=d:=by have:=Q.o;rw[L,List.take_length,o.o,List.take_length] at this;exact this
    have z:=J m
    clear m L
    go_wp2
    go_ret
    first|exact⟨true,rfl,by simp[z.o],g.o⟩|exact .inr ⟨rfl,z.o,g.o⟩|exact .inl ⟨rfl,z.o,g.o⟩
 ·have j1:¬(a.length:Int)=(d.length:Int):=by omega
  have C:=@J (a≠d) (λe=>hlen (by rw[e]))
  clear hlen
  go_enter Tryz.func22,Tryz.ntmps22
  go_wp2
  go_ret
  exact⟨false,rfl,by simp[C.o],Fr.refl _ _⟩
section
variable {w0 w w' w4:World} {c7 pc pp ps N N' B c:Nat} {T X T' X':Nat→Prop} {A A':WA} {R:Nat→Value} {K:Nat→List zd} {v v4:Value}
variable {c5:Nat} {x:zd} {l:List Nat}
section
variable {k n:Nat} {ty:TypeId} {u:Value} {xs:List Value}
end
end
theorem vC.form {w:World} {v:Value} {l:List TxD} (h:vC w v l):∃a c,v=.slice a l.length c:=by
 obtain⟨a,c,e,-⟩:=h
 exact⟨a,c,e⟩
theorem zil (w:World) {u v:Value} {l:List TxD} (q:vC w u l) (r:vC w v l) (hN:l.length≤100000) (G:∀t∈l,t.ins.length≤1000∧t.outs.length≤1000):
  Calls prog 54 #[u,v] w λe w'=>e=.returned (.bool true)∧Fr No w w':=by
 obtain⟨dT,M,L⟩:=zdw
 obtain⟨ua,uc,rfl⟩:=q.form
 obtain⟨va,vc,rfl⟩:=r.form
 have P:=J q
 have Q:=J r
 have O:=J G
 clear q r G
 go_enter Tryz.func54,Tryz.ntmps54
 go_wp2
 go_loopw [13] (λs wr=>∃n:Nat,s=.int .i64 n∧n≤l.length∧Fr No w wr) (λs _=>l.length-(intOf s).toNat)
 case atStart=>exact⟨0,rfl,zero_le _,Fr.refl _ _⟩
 case round=>
  obtain⟨n,rfl,hn,fr⟩:=hrel
  have m:=J fr
  clear fr
  by_cases p:n<l.length
  ·have Y:(n:Int)<(l.length:Int):=by omega
   obtain⟨t,o⟩:∃x,l[n]? =some x:=⟨_,getElem?_eq_getElem p⟩
   obtain⟨bx,H,cx,xs,j,g,a⟩:=(P.o.keep0 m.o).at_ o
   obtain⟨d,I,cy,y,k,i,b⟩:=(Q.o.keep0 m.o).at_ o
   obtain⟨rfl,-,rfl⟩:=Yz j
   obtain⟨rfl,-,rfl⟩:=Yz k
   have E:=J (O.o t (mem_of_getElem? o))
   have U:=J a
   have V:=J b
   have R:=@J (xs.length=3) (by obtain⟨_,_,_,_,rfl,_⟩:=a;rfl)
   have S:=@J (y.length=3) (by obtain⟨_,_,_,_,rfl,_⟩:=b;rfl)
   have c:=@J (Fr No wr wr.drew) ((frN wr).drew)
   have D:=@J (∀W,Fr No wr W→W.rangeAt bx (H+n*3) xs∧W.rangeAt d (I+n*3) y) (λW f=>⟨za g f _root_.id,za i f _root_.id⟩)
   clear g i a b j k o
   go_wp2_with fail
   refine wrLx [ff,ff,ff,ff,ff,ff,ff,ff,tt,ff] (λW=>W.rangeAt bx (H+n*3) xs∧W.rangeAt d (I+n*3) y) ?_ (λK hK=>?_)
   ·exact D.o _ c.o
   generalize wr.drew=z at*
   repeat((first|(refine zj rfl ?_;constructor;constructor;(focus(first|exact yK (ty:=34) rfl (λw h=>h.1) M L (by rw[R.o];exact yZ)|exact yK (ty:=34) rfl (λw h=>h.2) M L (by rw[S.o];exact yZ)|(rintro w' ⟨Z,s2⟩;go_simp;(try with_reducible rfl);done))))|(refine zl rfl ?_));try simp only[Act.put,pA,pB,pC])
   (refine zE rfl (λK' hK'=>?_))
   go_simp
   refine(zka z (U.o.keep c.o) (V.o.keep c.o) E.o.1 E.o.2).mono ?_
   rintro e w5 ⟨rfl,F⟩
   have C:=J F
   clear F
   refine nXt hK' ?_ λhS=>?_
   ·exact D.o _ (c.o.trans0 C.o)
   try simp only[Act.put,pA,pB,pC]
   repeat((first|(refine zj rfl ?_;constructor;constructor;(focus(first|(rintro w' ⟨Z,s2⟩;go_simp;(try with_reducible rfl);done))))|(refine zl rfl ?_));try simp only[Act.put,pA,pB,pC])
   refine zL (hK.out _ _ ?_)
   go_wp2_with fail
   go_roundw
   case rel=>exact⟨n+1,by go_num,by omega,m.o.trans0 (c.o.trans0 C.o)⟩
   case measure=>simp[intOf];omega
  ·have Y:¬(n:Int)<(l.length:Int):=by omega
   go_wp2
   go_ret
   exact⟨rfl,m.o⟩
theorem zkC (w:World) {e:Int} {tv M o n:Value} {a:List TxD} {is:List Nat} (C:vC w tv a) (D:vC w o a) (E:Jx w M is) (F:Jx w n is) (hN:a.length≤100000) (K:is.length≤100000) (I:∀t∈a,t.ins.length≤1000∧t.outs.length≤1000):
  Calls prog 24 #[.agg (yU e tv M).toArray,.agg (yU e o n).toArray] w λr w'=>r=.returned (.bool true)∧Fr No w w':=by
 obtain⟨j,k,rfl⟩:=C.form
 obtain⟨f,g,rfl⟩:=D.form
 obtain⟨h,i,rfl⟩:=y7.form E
 obtain⟨c,d,rfl⟩:=y7.form F
 have G:Fr No w (w.alloc (.cells #[.int .i64 e,.slice j a.length k,.slice h is.length i] 60)):=(frN w).alloc _
 have m:Fr No (w.alloc (.cells #[.int .i64 e,.slice j a.length k,.slice h is.length i] 60)) ((w.alloc (.cells #[.int .i64 e,.slice j a.length k,.slice h is.length i] 60)).alloc (.cells #[.int .i64 e,.slice f a.length g,.slice c is.length d] 60)):=(frN _).alloc _
 obtain⟨x,y,z,-⟩:=J1 w (.int .i64 e) (.slice j a.length k) (.slice h is.length i) 60
 obtain⟨p,q,s,-⟩:=J1 (w.alloc (.cells #[.int .i64 e,.slice j a.length k,.slice h is.length i] 60)) (.int .i64 e) (.slice f a.length g) (.slice c is.length d) 60
 rw[show(w.alloc (.cells #[.int .i64 e,.slice j a.length k,.slice h is.length i] 60)).heap.size=w.heap.size+1 by simp] at p q s
 have O:=J (m.cell x _root_.id)
 have P:=J (m.cell y _root_.id)
 have Q:=J (m.cell z _root_.id)
 have R:=J p
 have S:=J q
 have U:=J s
 have l:=J (G.trans0 m)
 have W:=J (C.keep0 l.o)
 have Y:=J (D.keep0 l.o)
 have Z:=J (E.keep l.o)
 have H4:=J (F.keep l.o)
 have HI:=J I
 clear G m x y z p q s C D E F I
 show Calls prog 24 #[.agg #[.int .i64 e,.slice j a.length k,.slice h is.length i],.agg #[.int .i64 e,.slice f a.length g,.slice c is.length d]] w _
 go_enter Tryz.func24,Tryz.ntmps24
 have x:=O.o
 have y:=P.o
 have p:=R.o
 have q:=S.o
 have⟨K0,K1⟩:=tZ2
 go_wp2_with ((first|(clear K0;go_at_call 54;generalize ((w.alloc (.cells #[.int .i64 e,.slice j a.length k,.slice h is.length i] 60)).alloc (.cells #[.int .i64 e,.slice f a.length g,.slice c is.length d] 60))=w2 at*;refine(zil w2 W.o Y.o hN HI.o).mono ?_;rintro e' w5 ⟨rfl,u⟩;have v:=J u;have z:=u.cell Q.o _root_.id;have s:=u.cell U.o _root_.id;clear u)|(clear K1;go_at_call 22;refine(zdQ w5 (Z.o.keep v.o) (H4.o.keep v.o) K K).mono ?_;rintro e' w6 ⟨b,rfl,L,H⟩;obtain rfl:b=true:=L.2 rfl;have V:=J (v.o.trans0 H);clear H L));go_frame)
 go_ret
 exact⟨rfl,l.o.trans0 V.o⟩
def zdo (Q:StQ) (s:Int):List zd:=if 0≤s∧s<65 then yV (Q s.toNat) else[]
section
variable {w0 w w':World} {c7 pc pp ps N N':Nat} {T X T' X':Nat→Prop} {A A' B:WA}
theorem ziR (w:World) (p:Nat) {s:Int} (h:¬(0≤s∧s<65)):Calls prog 13 #[.pointer (some ⟨p,0,none⟩),.int .i64 s] w λe w'=>e=.returned (.slice none 0 0)∧Fr No w w':=by
 by_cases h0:s<0
 ·go_enter Tryz.func13,Tryz.ntmps13
  go_wp2
  go_ret
  exact⟨rfl,Fr.refl _ _⟩
 ·have a:(64:Int)<s:=by omega
  clear h
  go_enter Tryz.func13,Tryz.ntmps13
  go_wp2
  go_ret
  exact⟨rfl,Fr.refl _ _⟩
theorem zdn (h:WS w0 w pc pp ps T X N A) (s:Int):
  Calls prog 13 #[.pointer (some ⟨ps,0,none⟩),.int .i64 s] w λe w'=>∃a,e=.returned a∧y3 w' a (zdo A.Q s)∧w'.ownsRow w.heap.size 41 32 a (zdo A.Q s).length ((zdo A.Q s).flatMap zf)∧Fr No w w':=by
 unfold zdo
 by_cases hs:0≤s∧s<65
 ·rw[if_pos hs]
  obtain⟨n,rfl⟩:∃n:Nat,s=(n:Int):=Int.eq_ofNat_of_zero_le hs.1
  rw[Int.toNat_natCast]
  refine(zlW h (n:=n) (by omega)).mono ?_
  rintro e w' ⟨a,b,c,f⟩
  exact⟨a,b,⟨h.ids n,c.slice.arg⟩,c,f⟩
 ·rw[if_neg hs]
  refine(ziR w ps hs).mono ?_
  rintro e w' ⟨b,f⟩
  have d:w'.ownsRow w.heap.size 41 32 (.slice none 0 0) ([]:List zd).length (([]:List zd).flatMap zf):=World.ownsRow_nil _ _ _ _
  exact⟨_,b,⟨λ_ h=>(by cases h),d.slice.arg⟩,d,f⟩
theorem ziS (h:WS w0 w pc pp ps T X N A) (s:Int):(zdo A.Q s).length≤4:=by
 unfold zdo
 split
 ·rw[J2];exact(h.facts.2.2.2.2.2.2 _).len
 ·simp
theorem FlA.other {c g i k M:Nat} {T2:Nat→Prop} (h:FlA w0 w c7 pc pp ps T X N A) (b:FlA w0 w c g i k T2 X M B) (f:∀j,T2 j→¬T j) (d:¬T c) (n:qj w0 w w' pc pp ps T X N' A' T' X'):FlA w0 w' c g i k T2 X' M B∧(∀j,T2 j→¬T' j)∧¬T' c:=by
 refine⟨⟨b.1.frV n.fr f (λj a=>(h.1.facts.1 j a).1) (λj a=>(h.1.facts.1 j a).2.2) (λj a e=>(n.xn j e).resolve_right (by omega)) (λj a=>n.xx j (b.1.facts.1 j a).2.2) n.ws.facts.2.1,λj a=>(n.xn j a).elim (h.2.1 j) (λe=>le_trans h.fr.size e),b.2.2.1,n.fr.obj b.2.2.2 d⟩,λj a e=>?_,n.out d (yG b.2.2.2)⟩
 exact(n.tn j e).elim (f j a) (λe=>by have:=(b.1.facts.1 j a).2.1;omega)
def Alk (s:Int) (A B:WA):Prop:=A.S=B.S∧A.bs=B.bs∧A.L=B.L∧(0≤s→A.Q s.toNat=B.Q s.toNat)
theorem Alk.all {s:Int} (h:Alk s A B):zdo A.Q s=zdo B.Q s:=by
 unfold zdo
 split
 ·rename_i h1;rw[h.2.2.2 h1.1]
 ·rfl
theorem Alk.skip {s:Int} (h:Alk s A B) {a:qZ} (b:a.kind=0∨a.kind=1) (k:a.src≠s):Alk s (doA A a) B:=by
 obtain⟨e,f,g,i⟩:=h
 have c:∀l,0≤a.src→Alk s {A with Q:=vu A.Q a.src.toNat l} B:=λl j=>⟨e,f,g,λd=>by
  show vu A.Q a.src.toNat l s.toNat=_
  rw[qD _ _ (by omega)]
  exact i d⟩
 have same:Alk s A B:=⟨e,f,g,i⟩
 unfold doA
 rcases b with b|b
 ·rw[if_pos b]
  unfold JJ
  split
  ·exact same
  ·exact c _ (by omega)
 ·rw[if_neg (by omega),if_pos b]
  split
  ·rename_i hm
   unfold qt at hm
   exact c _ (of_decide_eq_true hm).1
  ·exact same
theorem zhZ {s:Int} (h:0≤s→A.Q s.toNat=B.Q s.toNat) (x:zd):qt A.Q s x=qt B.Q s x:=by
 unfold qt
 by_cases hs:0≤s
 ·rw[h hs]
 ·rw[decide_eq_false (by intro c;exact hs c.1),decide_eq_false (by intro c;exact hs c.1)]
theorem Alk.step {s:Int} (h:Alk s A B) {a:qZ} (r:¬((a.kind=0∨a.kind=1)∧a.src≠s)):Alk s (doA A a) (doA B a)∧(a.kind≠2→doE A a=doE B a∧doT A a=doT B a∧doI A a=doI B a):=by
 obtain⟨u,S,l,L,Q⟩:=A
 obtain⟨k,y,v,x,f⟩:=B
 obtain⟨o,p,q,b⟩:=h
 dsimp only at o p q b
 subst o p q
 by_cases k0:a.kind=0
 ·have m:a.src=s:=by
   refine Classical.byContradiction λc=>r ⟨.inl k0,c⟩
  subst m
  have i:∀g:¬(a.src<0∨64<a.src),Q a.src.toNat=f a.src.toNat:=λg=>b (by omega)
  refine⟨?_,λ_=>⟨?_,?_,?_⟩⟩
  ·simp only[doA,if_pos k0,JJ]
   split
   ·exact⟨rfl,rfl,rfl,b⟩
   ·rename_i g
    refine⟨rfl,rfl,rfl,λ_=>?_⟩
    show vu Q _ _ _=vu f _ _ _
    rw[xB,xB,i g]
  ·simp only[doE,if_pos k0,Jp]
   split
   ·rfl
   ·rename_i g
    rw[i g]
  ·simp[doT,k0]
  ·simp[doI,k0]
 by_cases k1:a.kind=1
 ·have m:a.src=s:=by
   refine Classical.byContradiction λc=>r ⟨.inr k1,c⟩
  subst m
  have j:=zhZ (A:=⟨u,S,l,L,Q⟩) (B:=⟨k,S,l,L,f⟩) b a.id
  dsimp only at j
  have t:qt Q a.src a.id=true→0≤a.src:=λe=>(of_decide_eq_true e).1
  refine⟨?_,λ_=>⟨?_,?_,?_⟩⟩
  ·simp only[doA,if_neg k0,if_pos k1]
   rw[←j]
   split
   ·rename_i e
    refine⟨rfl,rfl,rfl,λ_=>?_⟩
    show vu Q _ _ _=vu f _ _ _
    rw[xB,xB,b (t e)]
   ·exact⟨rfl,rfl,rfl,b⟩
  ·simp only[doE,if_neg k0,if_pos k1,←j]
  ·unfold doT
   dsimp only
   rw[←j]
   split
   ·rename_i e
    rw[b (t e.2)]
   ·rfl
  ·simp[doI,k1]
 by_cases k2:a.kind=2
 ·refine⟨?_,λc=>absurd k2 c⟩
  simp only[doA,if_neg k0,if_neg k1,if_pos k2]
  refine⟨rfl,rfl,rfl,λn=>?_⟩
  show Jb Q a.id 65 s.toNat=Jb f a.id 65 s.toNat
  unfold Jb
  rw[b n]
 refine⟨?_,λ_=>⟨?_,?_,?_⟩⟩
 ·simp only[doA,if_neg k0,if_neg k1,if_neg k2]
  split
  ·exact⟨rfl,rfl,rfl,b⟩
  split
  ·split
   ·exact⟨rfl,rfl,rfl,b⟩
   ·exact⟨rfl,rfl,rfl,b⟩
  split
  ·cases hb:l.getLast? with
   |none=>exact⟨rfl,rfl,rfl,b⟩
   |some d=>exact⟨rfl,rfl,rfl,b⟩
  ·exact⟨rfl,rfl,rfl,b⟩
 ·simp only[doE,if_neg k0,if_neg k1]
 ·simp[doT,k1]
 ·simp[doI,k2]
theorem zhD (h:WS w0 w pc pp ps T X N A) (a:qZ):(doT A a).length≤4∧∀t∈doT A a,t.ins.length≤1000∧t.outs.length≤1000:=by
 unfold doT
 split
 ·have d:=h.facts.2.2.2.2.2.2 a.src.toNat
  refine⟨by rw[length_map];exact le_trans (List.length_filter_le _ _) d.len,λt b=>?_⟩
  obtain⟨e,f,rfl⟩:=List.mem_map.1 b
  have:=(JM (d.ent e (List.mem_filter.1 f).1).1).1
  have c:=y5.1 this
  exact⟨by have:=c.2.1;omega,by have:=c.2.2;omega⟩
 ·exact⟨by simp,λt b=>(by cases b)⟩
end
theorem zhA:∃d,prog.underlying 29=some d∧d.isRow=true:=vK (by kernel_rfl)
theorem FlA.keptQ {a w:World} {b d g ps N:Nat} {T X:Nat→Prop} {A:WA} (h:FlA a w b d g ps T X N A) {Q:World→Prop} (c:∀w',Fr No a w'→Q w'):Kept X w Q:=λ_ f=>
 c _ (h.fr.trans f (λi hi e=>by have:=h.2.1 i e;omega))
theorem zkP:∃d,prog.underlying 60=some d∧d.isRow=true:=vK (by kernel_rfl)
theorem zdf {m f d q r:World} {k l ps N b c:Nat} {T X:Nat→Prop} {A:WA} (h:WS m f k l ps T X N A) (n:Fr No f d) (s:f.heap.size≤b) (v:b<d.heap.size) (t:f.heap.size≤c) (w:c<d.heap.size) (o:Fr (λj=>j=b) d q) (p:Fr (λj=>j=c) q r):
  WS m r k l ps T (λj=>X j∨j=b∨j=c) N A:=by
 have u:=h.facts.2.2.1.size
 have g:WS m d k l ps T (λj=>X j∨j=b∨j=c) N A:=h.frV n (λ_ _=>id) (λ_ h=>h.elim) (λ_ h=>h.elim) (λj a e=>e.resolve_right (λe=>by omega)) (λj a=>.inl (h.facts.1 j a).2.2) (λj a=>a.elim (λe=>lt_of_lt_of_le (h.facts.2.1 j e) n.size) (λe=>by omega))
 have i:=g.frV (X':=λj=>X j∨j=b∨j=c) o (λj a e=>by have:=(h.facts.1 j a).2.1;omega) (λj e=>by omega) (λj e=>.inr (.inl e)) (λ_ _ e=>e) (λj a=>(g.facts.1 j a).2.2) (λj a=>lt_of_lt_of_le (g.facts.2.1 j a) o.size)
 exact i.frV p (λj a e=>by have:=(h.facts.1 j a).2.1;omega) (λj e=>by omega) (λj e=>.inr (.inr e)) (λ_ _ e=>e) (λj a=>(i.facts.1 j a).2.2) (λj a=>lt_of_lt_of_le (i.facts.2.1 j a) p.size)
structure zee (w0 w:World) (c7 pc pp ps:Nat) (T:Nat→Prop) (A:WA) (c8 qc qp qs:Nat) (T2:Nat→Prop) (B:WA) (X:Nat→Prop) (N:Nat) (s:Int) (k:Nat):Prop where
 l:FlA w0 w c7 pc pp ps T X N A
 r:FlA w0 w c8 qc qp qs T2 X N B
 d:∀j,T j→¬T2 j
 t7:¬T2 c7
 t8:¬T c8
 alk:Alk s A B
 bl:A.bs.length≤k
 bt:∀d∈A.bs,d.blk.txs.length≤20
theorem zee.fr0 {j w w':World} {a c d ps b e g i N k:Nat} {T T2 X:Nat→Prop} {A B:WA} {s:Int} (h:zee j w a c d ps T A b e g i T2 B X N s k) (f:Fr No w w'):zee j w' a c d ps T A b e g i T2 B X N s k:={h with l:=h.l.fr0 f,r:=h.r.fr0 f}
theorem zhn {w:World} (hg:vj w) {v1 v2:Value} {first:List yE} {l:List qZ} (s:Int) (hl:xy w v1 first) (hx:Yl w v2 l):
  Calls prog 5 #[v1,v2,.int .i64 s] w λe w'=>e=.returned (.bool true)∧Fr No w w':=by
 obtain⟨dA,uA,rA⟩:=zcD
 obtain⟨dW,uW,rW⟩:=zhA
 obtain⟨dN,uN,rN⟩:=zkP
 have zw:=zdi
 have zA:=zdh
 have zN:=JF
 obtain⟨fa,fc,rfl⟩:=hl.2.form
 obtain⟨la,lc,rfl⟩:=hx.form
 have HG:=J hg
 have HL:=J hl
 have HX:=J hx
 have a6:=J (zeh hg)
 clear hg hl hx
 go_enter Tryz.func5,Tryz.ntmps5
 have⟨K0,K1⟩:=tZ2
 go_wp2_with ((first|(clear K0;go_at_call 9;refine a6.o.mono ?_;rintro e w1 ⟨rfl,f1⟩;have F1:=J f1;clear f1)|(clear K1;go_at_call 19;refine(zeB w1 (HL.o.keep F1.o) (HX.o.keep0 F1.o)).mono ?_;rintro e w2 ⟨⟨g,rfl,aT,hz⟩,f2⟩;have a1:=J aT;have GZ:=J hz;have F2:=J (F1.o.trans0 f2);clear aT hz f2));go_frame)
 ·go_ret
  exact⟨rfl,F2.o⟩
 have ad:=J (GZ.o (by rcases a1.o with h|h;exact h;exfalso;omega))
 clear GZ
 have bo:=ad.o.2.1
 have⟨K0,K1,K2,K3⟩:=tZ4
 go_wp2_with ((first|(clear K0;go_at_call 10;refine(zbo F2.o (HL.o.keep F2.o) ad.o.1).mono ?_;rintro e w3 ⟨pc,pp,ps,T,rfl,ak,aj,f2⟩;have W2:=J (ak T (λ_ h=>h) (λ_ h=>.inl h));have F3:=J (F2.o.trans0 f2);clear ak aj f2)|(clear K1;go_at_call 10;refine(zbo F3.o (HL.o.keep F3.o) ad.o.1).mono ?_;rintro e w4 ⟨qc,qp,qs,T2,rfl,ak,aj,f4⟩;have V4:=J (ak (λj=>T j∨T2 j) (λ_ h=>.inr h) (λj hj=>hj.elim (λe=>.inr (W2.o.facts.1 j e).2.1) .inl));have W4:=J (W2.o.frV (X':=λj=>T j∨T2 j) f4 (λ_ _=>id) (λ_ h=>h.elim) (λ_ h=>h.elim) (λj hj e=>e.elim id (λe=>absurd (aj j e) (by omega))) (λj e=>.inl e) (λj e=>e.elim (λe=>lt_of_lt_of_le (W2.o.facts.2.1 j e) f4.size) (λe=>(V4.o.facts.1 j (by exact e)).2.1)));have DJ:=@J (∀j,T j→¬T2 j) (λj h e=>by have:=aj j e;have:=(W2.o.facts.1 j h).2.1;omega);have FA:=J (((frN w4).alloc (.cells #[.pointer none,.pointer none,.pointer none] 29)).alloc (.cells #[.pointer none,.pointer none,.pointer none] 29));have B7:=J (Jj (ye w4 (.cells #[.pointer none,.pointer none,.pointer none] 29)) (.cells #[.pointer none,.pointer none,.pointer none] 29));have B8:=J (yL (w4.alloc (.cells #[.pointer none,.pointer none,.pointer none] 29)) (.cells #[.pointer none,.pointer none,.pointer none] 29) (n:=w4.heap.size+1) (by simp));have Z4:=@J (w4.heap.size+1<((w4.alloc (.cells #[.pointer none,.pointer none,.pointer none] 29)).alloc (.cells #[.pointer none,.pointer none,.pointer none] 29)).heap.size) (by simp);clear ak aj f4)|((with_reducible refine zv ?_);first|(clear K2;generalize aU:w4.heap.size=o at B7 B8 Z4⊢;have C7:=J aU;clear aU;generalize ((w4.alloc (.cells #[.pointer none,.pointer none,.pointer none] 29)).alloc (.cells #[.pointer none,.pointer none,.pointer none] 29))=w5 at*;refine zi rfl (zK (ty:=29) (b:=o) (off:=0) (cs:=vw pc pp ps) rfl rfl rfl (zV B7.o (le_refl 3)) Zq (qM rfl rfl rfl)) ?_;have S6:=J (zu o (vw pc pp ps) 0 w5);have aM:=J (ZL (cs:=vw pc pp ps) B7.o rfl);have av:=J (S6.o.obj B8.o (by omega));generalize w5.setCells o 0 (vw pc pp ps)=w6 at*)|(clear K3;refine zi rfl (zK (ty:=29) (b:=o+1) (off:=0) (cs:=vw qc qp qs) rfl rfl rfl (zV av.o (le_refl 3)) Zq (qM rfl rfl rfl)) ?_;have S7:=J (zu (o+1) (vw qc qp qs) 0 w6);have aO:=J (ZL (cs:=vw qc qp qs) av.o rfl);have aN:=J (S7.o.obj aM.o (by omega));generalize w6.setCells (o+1) 0 (vw qc qp qs)=w7 at*)));go_frame)
 have X0:=@J (∀j,(T j∨T2 j)∨j=o∨j=o+1→w.heap.size≤j) (λj hj=>by
  have h4:=W4.o.facts.2.2.1.size
  have:=C7.o
  rcases hj with(e|e)|e
  ·exact(W4.o.facts.1 j e).1
  ·exact(V4.o.facts.1 j e).1
  ·omega)
 have aS:=@J (zee w w7 o pc pp ps T ⟨zfI first,zfI first,[],[],λ_=>[]⟩ (o+1) qc qp qs T2 ⟨zfI first,zfI first,[],[],λ_=>[]⟩ (λj=>(T j∨T2 j)∨j=o∨j=o+1) 52 s 0) ({l:=(⟨(zdf W4.o FA.o (by have:=C7.o;omega) (by have:=Z4.o;omega) (by have:=C7.o;omega) Z4.o S6.o S7.o).more (by decide),X0.o,λe=>by have:=(W4.o.facts.1 _ e).2.1;have:=C7.o;omega,aN.o⟩),r:=(⟨(zdf V4.o FA.o (by have:=C7.o;omega) (by have:=Z4.o;omega) (by have:=C7.o;omega) Z4.o S6.o S7.o).more (by decide),X0.o,λe=>by have:=(V4.o.facts.1 _ e).2.1;have:=C7.o;omega,aO.o⟩),d:=DJ.o,t7:=(λe=>by have:=(V4.o.facts.1 _ e).2.1;have:=C7.o;omega),t8:=(λe=>by have:=(W4.o.facts.1 _ e).2.1;have:=C7.o;omega),alk:=⟨rfl,rfl,rfl,λ_=>rfl⟩,bl:=le_refl _,bt:=(λd hd=>by cases hd)})
 clear X0 W4 V4 FA C7 Z4 S6 S7 DJ aN aO B7 B8 aM av W2
 generalize zfI first=S at*
 generalize o+1=c8 at*
 go_loopw [25] (λiv wr=>∃(k:Nat) (T T2 X:Nat→Prop) (A B:WA),iv=.int .i64 k∧k≤l.length∧zee w wr o pc pp ps T A c8 qc qp qs T2 B X (52+k) s k) (λiv _=>l.length-(intOf iv).toNat)
 case atStart=>exact⟨0,_,_,_,_,_,rfl,zero_le _,aS.o⟩
 case round=>
  clear aS
  obtain⟨k,T,T2,X,A,B,rfl,hk,aV⟩:=hrel
  have TW:=J aV
  clear aV
  by_cases bj:k<l.length
  ·have i1:(k:Int)<(l.length:Int):=by omega
   obtain⟨a,hx⟩:∃a,l[k]? =some a:=⟨_,getElem?_eq_getElem bj⟩
   have ar:=J (ad.o.2.2 a (mem_of_getElem? hx))
   obtain⟨bb,off,bn,cs,bk,hr,hq⟩:=HX.o.at_ hx
   cases bk
   have R1:=J (za hr TW.o.l.fr id)
   have CL:=J hq.len
   have C1:=J (zcs hq)
   have CE:=@J (∃r,cs=.int .i64 a.kind::.int .i64 a.src::r) (by obtain⟨t,b,rfl,-⟩:=hq;exact⟨_,rfl⟩)
   have QK:=@J (∀w',Fr No w w'→qS w' a cs) (λw' f=>hq.keep f)
   have FA:=J ((frN wr).alloc (.cells cs.toArray 57))
   have RN:=J (zy wr cs 57)
   have i:=J (TW.o.fr0 FA.o)
   have RW:=J (zq i.o.l.2.2.2)
   have x:=@J (k<60) (by have:=ad.o.2.1;omega)
   have TN:=@J ((∀j,T j→j<wr.heap.size)∧∀j,T2 j→j<wr.heap.size) (⟨λj e=>(TW.o.l.1.facts.1 j e).2.1,λj e=>(TW.o.r.1.facts.1 j e).2.1⟩)
   clear hx hr hq
   have⟨K0,K1,K2,K3,K4,K5⟩:=tZ6
   go_upto_region 10 with((first|((with_reducible refine zt ?_);first|(clear K0;refine zg rfl (zZ (ty:=57) rfl rfl R1.o uA rA (by rw[CL.o];exact qX)) ?_)|(clear K2;refine zg rfl (zZ (ty:=29) (cs:=vw pc pp ps) rfl rfl RW.o uW rW Zq) ?_)|(clear K3;refine zg rfl (zZ (ty:=57) rfl rfl RN.o uA rA (by rw[CL.o];exact qX)) ?_))|((with_reducible refine zv ?_);first|(clear K1;refine zi rfl (zm (w:=wr) (ty:=57) (cs:=cs) rfl rfl rfl (by rw[CL.o];rfl) (by rw[CL.o];exact qX) C1.o) ?_;generalize wr.heap.size=R at RN TN⊢;generalize wr.alloc (.cells cs.toArray 57)=w1 at*)|(clear K5;refine zi rfl (zm (w:=w5) (ty:=60) (cs:=yU (doE A a) (.slice ra (doT A a).length rc) (.slice sa (doI A a).length sc)) rfl rfl rfl rfl xM (qM rfl rfl rfl)) ?_;have RX:=J (zy w5 (yU (doE A a) (.slice ra (doT A a).length rc) (.slice sa (doI A a).length sc)) 60);have FX:=J ((frN w5).alloc (.cells (yU (doE A a) (.slice ra (doT A a).length rc) (.slice sa (doI A a).length sc)).toArray 60));generalize w5.heap.size=aq at RX N2⊢;generalize w5.alloc (.cells (yU (doE A a) (.slice ra (doT A a).length rc) (.slice sa (doI A a).length sc)).toArray 60)=w6 at*;have aQ:=J (aW.o.fr0 FX.o);have p:=J (aY.o.fr0 FX.o);have an:=J (za a7.o FX.o id);have aK:=@J (ZW X5 w6 (.slice ra (doT A a).length rc) (.slice sa (doI A a).length sc) (doT A a) (doI A a)) (⟨aJ.o.1.same FX.o.of0,aJ.o.2.same FX.o.of0⟩)))|(clear K4;go_at_call 20;refine(zny HG.o i.o.l.1 (by have:=x.o;omega) (by omega) (by have:=i.o.bl;have:=x.o;omega) i.o.bt (i.o.l.keptQ QK.o)).mono ?_;rintro e w5 ⟨tv,lv,rfl,T5,X5,n5,ao⟩;obtain⟨ra,rc,aA⟩:=ao.1.now.form;obtain⟨sa,sc,aB⟩:=y7.form ao.2.now;subst aA aB;have ot:=i.o.l.other i.o.r (λj e t=>i.o.d j t e) i.o.t8 n5;have aY:=J ot.1;have D5:=@J (∀j,T5 j→¬T2 j) (λj e t=>ot.2.1 j t e);have az:=J ot.2.2;have aW:=J (i.o.l.next n5);have a7:=J (za RN.o n5.fr (λe=>by have:=TN.o.1 _ e;omega));have aJ:=J ao;have N2:=@J (∀j,T2 j→j<w5.heap.size) (λj e=>(ot.1.1.facts.1 j e).2.1);clear n5 ao ot));go_frame)
   obtain⟨r0,ai⟩:=CE.o
   have cK:w6.cell? ⟨R,0,none⟩=some (.int .i64 a.kind):=by simpa using an.o 0 (.int .i64 a.kind) (by rw[ai];rfl)
   have cS:w6.cell? ⟨R,1,none⟩=some (.int .i64 a.src):=by simpa using an.o 1 (.int .i64 a.src) (by rw[ai];rfl)
   clear ai
   go_cut [45] from 32 to 45 (λbm wc=>bm=.bool (decide ((a.kind=0∨a.kind=1)∧a.src≠s))∧wc=w6)
   case first=>
    by_cases k1:a.kind≤1
    ·by_cases k0:0≤a.kind
     ·by_cases ks:a.src=s
      ·have E:=@J (decide ((a.kind=0∨a.kind=1)∧a.src≠s)=false) (decide_eq_false (λc=>c.2 ks))
       go_wp2_with fail
       go_meet
       case rel=>exact⟨by rw[E.o],rfl⟩
      ·have E:=@J (decide ((a.kind=0∨a.kind=1)∧a.src≠s)=true) (decide_eq_true ⟨by omega,ks⟩)
       go_wp2_with fail
       go_meet
       case rel=>exact⟨by rw[E.o];simpa using ks,rfl⟩
     ·have E:=@J (decide ((a.kind=0∨a.kind=1)∧a.src≠s)=false) (decide_eq_false (λc=>by omega))
      go_wp2_with fail
      go_meet
      case rel=>exact⟨by rw[E.o],rfl⟩
    ·have E:=@J (decide ((a.kind=0∨a.kind=1)∧a.src≠s)=false) (decide_eq_false (λc=>by omega))
     go_wp2_with fail
     go_meet
     case rel=>exact⟨by rw[E.o],rfl⟩
   case rest=>
    clear cK cS
    obtain⟨bh,hw⟩:=hcut
    rw[hw]
    clear hw
    subst bh
    by_cases sk:(a.kind=0∨a.kind=1)∧a.src≠s
    ·rw[decide_eq_true sk]
     have G:=J (i.o.alk.skip sk.1 sk.2)
     clear sk
     go_wp2_with fail
     go_roundw
     case rel=>exact⟨k+1,T5,T2,X5,_,_,by go_num,by omega,
      {l:=aQ.o
       r:=⟨p.o.1.more (by omega),p.o.2⟩
       d:=D5.o
       t7:=i.o.t7
       t8:=az.o
       alk:=G.o
       bl:=by have:=(zad A a).1;have:=i.o.bl;omega
       bt:=λd hd=>((zad A a).2 d hd).elim (i.o.bt d) (λe=>by rw[e];exact ar.o)}⟩
     case measure=>simp[intOf];omega
    ·rw[decide_eq_false sk]
     have G:=J (i.o.alk.step sk)
     clear sk
     have bc:=J (zq p.o.2.2.2)
     have BB:=@J (B.bs.length≤k∧∀d∈B.bs,d.blk.txs.length≤20) (by rw[←i.o.alk.2.1];exact⟨i.o.bl,i.o.bt⟩)
     have NQ:=@J (¬T2 R∧¬T2 aq) (⟨λe=>by have:=TN.o.2 _ e;omega,λe=>by have:=N2.o _ e;omega⟩)
     have⟨K0,K1,K2,K3⟩:=tZ4
     go_upto_region 12 with((first|((with_reducible refine zt ?_);first|(clear K0;refine zg rfl (zZ (ty:=29) (cs:=vw qc qp qs) rfl rfl bc.o uW rW Zq) ?_)|(clear K1;refine zg rfl (zZ (ty:=57) rfl rfl an.o uA rA (by rw[CL.o];exact qX)) ?_))|(clear K2;go_at_call 20;refine(zny HG.o p.o.1 (by have:=x.o;omega) (by omega) (by have:=BB.o.1;have:=x.o;omega) BB.o.2 (p.o.keptQ QK.o)).mono ?_;rintro e w8 ⟨tv,lv,rfl,T8,X8,n8,ao⟩;obtain⟨z,C,aA⟩:=ao.1.now.form;obtain⟨D,F,aB⟩:=y7.form ao.2.now;subst aA aB;have ot:=p.o.other aQ.o D5.o i.o.t7 n8;have aX:=J ot.1;have D8:=J ot.2.1;have aR:=J ot.2.2;have aZ:=J (p.o.next n8);have a8:=J (za an.o n8.fr NQ.o.1);have bd:=J (za RX.o n8.fr NQ.o.2);have aH:=@J (ZW X8 w8 (.slice ra (doT A a).length rc) (.slice sa (doI A a).length sc) (doT A a) (doI A a)) (⟨aK.o.1.step (n8.fr.mono (λj e=>(p.o.1.facts.1 j e).2.2)) (λj hj e=>(n8.xn j e).resolve_right (by omega)),aK.o.2.step (n8.fr.mono (λj e=>(p.o.1.facts.1 j e).2.2)) (λj hj e=>(n8.xn j e).resolve_right (by omega))⟩);have aL:=J ao;clear n8 ao ot)|((with_reducible refine zv ?_);clear K3;refine zi rfl (zm (w:=w8) (ty:=60) (cs:=yU (doE B a) (.slice z (doT B a).length C) (.slice D (doI B a).length F)) rfl rfl rfl rfl xM (qM rfl rfl rfl)) ?_;have RY:=J (zy w8 (yU (doE B a) (.slice z (doT B a).length C) (.slice D (doI B a).length F)) 60);have FY:=J ((frN w8).alloc (.cells (yU (doE B a) (.slice z (doT B a).length C) (.slice D (doI B a).length F)).toArray 60));generalize w8.heap.size=aG at RY⊢;generalize w8.alloc (.cells (yU (doE B a) (.slice z (doT B a).length C) (.slice D (doI B a).length F)).toArray 60)=w9 at*));go_frame)
     have FD:=J (FY.o.trans0 (frN w9).drew)
     have ba:=J (za a8.o FD.o id)
     have bf:=J (za bd.o FD.o id)
     have bg:=J (za RY.o (frN w9).drew id)
     have m:=J (aX.o.fr0 FD.o)
     have v:=J (aZ.o.fr0 FD.o)
     have aI:=@J (vC w9.drew (.slice ra (doT A a).length rc) (doT A a)∧Jx w9.drew (.slice sa (doI A a).length sc) (doI A a)) (⟨aH.o.1.now.keep0 FD.o,aH.o.2.now.keep FD.o⟩)
     have au:=@J (vC w9.drew (.slice z (doT B a).length C) (doT B a)∧Jx w9.drew (.slice D (doI B a).length F) (doI B a)) (⟨aL.o.1.now.keep0 FD.o,aL.o.2.now.keep FD.o⟩)
     have SM:=J (zhD i.o.l.1 a)
     have aP:=@J (w9.drew.cell? ⟨R,0,none⟩=some (.int .i64 a.kind)) (by
      obtain⟨r0,ai⟩:=CE.o
      simpa using ba.o 0 (.int .i64 a.kind) (by rw[ai];rfl))
     have y:=@J (∀W,Fr No w9.drew W→W.cell? ⟨R,0,none⟩=some (.int .i64 a.kind)∧W.rangeAt aq 0 (yU (doE A a) (.slice ra (doT A a).length rc) (.slice sa (doI A a).length sc))∧W.rangeAt aG 0 (yU (doE B a) (.slice z (doT B a).length C) (.slice D (doI B a).length F))∧W.cell? ⟨o,1,none⟩=some (.pointer (some ⟨pp,0,none⟩))∧W.cell? ⟨o,2,none⟩=some (.pointer (some ⟨ps,0,none⟩))∧W.cell? ⟨c8,1,none⟩=some (.pointer (some ⟨qp,0,none⟩))∧W.cell? ⟨c8,2,none⟩=some (.pointer (some ⟨qs,0,none⟩))) (λW f=>⟨f.cell aP.o id,za bf.o f id,za bg.o f id,(m.o.fr0 f).cells.2.1,(m.o.fr0 f).cells.2.2,(v.o.fr0 f).cells.2.1,(v.o.fr0 f).cells.2.2⟩)
     have FZ:=J (frN w9.drew)
     have AQ:=J (G.o.1.all)
     have AP:=J (G.o.1.2.2.1)
     have LQ:=J (ziS m.o.1 s)
     have LP:=@J ((xq (doA A a).L).length≤32) (by unfold xq;rw[length_map];exact m.o.1.facts.2.2.2.2.1)
     have al:=J m.o.1.pids
     clear aP
     have DI:=@J ((doI A a).length≤100000) (by
      unfold doI
      split
      ·exact le_trans (zc6 _ _ _) (by decide)
      ·simp)
     by_cases k2:a.kind=2
     ·rw[k2] at y
      clear k2
      refine wrLx [ff,ff,ff,ff,ff,ff,tt,ff,ff,ff,ff,ff,ff,tt,ff,ff,ff,tt,tt,ff,ff,ff,ff,ff,tt,ff,ff,tt,tt,ff,ff] (λW=>W.cell? ⟨R,0,none⟩=some (.int .i64 2)∧W.rangeAt aq 0 (yU (doE A a) (.slice ra (doT A a).length rc) (.slice sa (doI A a).length sc))∧W.rangeAt aG 0 (yU (doE B a) (.slice z (doT B a).length C) (.slice D (doI B a).length F))∧W.cell? ⟨o,1,none⟩=some (.pointer (some ⟨pp,0,none⟩))∧W.cell? ⟨o,2,none⟩=some (.pointer (some ⟨ps,0,none⟩))∧W.cell? ⟨c8,1,none⟩=some (.pointer (some ⟨qp,0,none⟩))∧W.cell? ⟨c8,2,none⟩=some (.pointer (some ⟨qs,0,none⟩))) ?_ (λK hK=>?_)
      ·exact y.o _ FZ.o
      repeat((first|(refine zj rfl ?_;constructor;constructor;(focus(rintro w' ⟨U,V,Y,Z,s4,s5,s6⟩;go_simp;(try with_reducible rfl);done)))|(refine zl rfl ?_));try simp only[Act.put,pA,pB,pC])
      (refine zE rfl (λK' hK'=>?_))
      go_simp
      refine(zdn (m.o.fr0 FZ.o).1 s).mono ?_
      rintro e wa ⟨va,rfl,P,-,ae⟩
      obtain⟨xa,xc,aC⟩:=P.2.form
      subst aC
      have IA:=J P
      have H:=J (FZ.o.trans0 ae)
      clear P ae
      refine nXt hK' ?_ λhS=>?_
      ·exact y.o _ H.o
      try simp only[Act.put,pA,pB,pC]
      repeat((first|(refine zj rfl ?_;constructor;constructor;(focus(rintro w' ⟨U,V,Y,Z,s4,s5,s6⟩;go_simp;(try with_reducible rfl);done)))|(refine zl rfl ?_));try simp only[Act.put,pA,pB,pC])
      (refine zE rfl (λK' hK'=>?_))
      go_simp
      refine(zdn (v.o.fr0 H.o).1 s).mono ?_
      rintro e wb ⟨vb,rfl,q,-,N⟩
      rw[←AQ.o] at q
      obtain⟨xb,xd,aD⟩:=q.2.form
      subst aD
      have IB:=J q
      have aa:=J (H.o.trans0 N)
      have ax:=J (IA.o.keep N)
      clear q N
      refine nXt hK' ?_ λhS=>?_
      ·exact y.o _ aa.o
      try simp only[Act.put,pA,pB,pC]
      repeat((first|(refine zj rfl ?_;constructor;constructor;(focus(rintro w' ⟨U,V,Y,Z,s4,s5,s6⟩;go_simp;(try with_reducible rfl);done)))|(refine zl rfl ?_));try simp only[Act.put,pA,pB,pC])
      (refine zE rfl (λK' hK'=>?_))
      go_simp
      refine(Yc wb ax.o IB.o (by have:=LQ.o;omega) (by have:=LQ.o;omega)).mono ?_
      rintro e wc ⟨b,rfl,hb,af⟩
      obtain rfl:b=true:=hb.2 rfl
      have I:=J (aa.o.trans0 af)
      clear hb af
      refine nXt hK' ?_ λhS=>?_
      ·exact y.o _ I.o
      try simp only[Act.put,pA,pB,pC]
      repeat((first|(refine zj rfl ?_;constructor;constructor;(focus(rintro w' ⟨U,V,Y,Z,s4,s5,s6⟩;go_simp;(try with_reducible rfl);done)))|(refine zl rfl ?_));try simp only[Act.put,pA,pB,pC])
      (refine zE rfl (λK' hK'=>?_))
      go_simp
      refine(zbc (m.o.fr0 I.o).1 (by have:=x.o;omega)).mono ?_
      rintro e wd ⟨vd,rfl,Q,ag⟩
      obtain⟨xe,xf,aE⟩:=Q.slice.arg.form
      subst aE
      have ID:=@J (y3 wd _ (xq (doA A a).L)) (⟨al.o,Q.slice.arg⟩)
      have L:=J (I.o.trans0 ag)
      clear Q ag
      refine nXt hK' ?_ λhS=>?_
      ·exact y.o _ L.o
      try simp only[Act.put,pA,pB,pC]
      repeat((first|(refine zj rfl ?_;constructor;constructor;(focus(rintro w' ⟨U,V,Y,Z,s4,s5,s6⟩;go_simp;(try with_reducible rfl);done)))|(refine zl rfl ?_));try simp only[Act.put,pA,pB,pC])
      (refine zE rfl (λK' hK'=>?_))
      go_simp
      refine(zbc (v.o.fr0 L.o).1 (by have:=x.o;omega)).mono ?_
      rintro e we ⟨ve,rfl,u,O⟩
      rw[←AP.o] at u
      obtain⟨xg,xh,aF⟩:=u.slice.arg.form
      subst aF
      have IE:=@J (y3 we _ (xq (doA A a).L)) (⟨al.o,u.slice.arg⟩)
      have ay:=J (ID.o.keep O)
      have ab:=J (L.o.trans0 O)
      clear u O
      refine nXt hK' ?_ λhS=>?_
      ·exact y.o _ ab.o
      try simp only[Act.put,pA,pB,pC]
      repeat((first|(refine zj rfl ?_;constructor;constructor;(focus(rintro w' ⟨U,V,Y,Z,s4,s5,s6⟩;go_simp;(try with_reducible rfl);done)))|(refine zl rfl ?_));try simp only[Act.put,pA,pB,pC])
      (refine zE rfl (λK' hK'=>?_))
      go_simp
      refine(Yc we ay.o IE.o (by have:=LP.o;omega) (by have:=LP.o;omega)).mono ?_
      rintro e wg ⟨b,rfl,hb,ah⟩
      obtain rfl:b=true:=hb.2 rfl
      have M:=J (ab.o.trans0 ah)
      clear hb ah
      refine nXt hK' ?_ λhS=>?_
      ·exact y.o _ M.o
      try simp only[Act.put,pA,pB,pC]
      repeat((first|(refine zj rfl ?_;constructor;constructor;(focus(rintro w' ⟨U,V,Y,Z,s4,s5,s6⟩;go_simp;(try with_reducible rfl);done)))|(refine zl rfl ?_));try simp only[Act.put,pA,pB,pC])
      refine zL (hK.out _ _ ?_)
      go_wp2_with fail
      go_roundw
      case rel=>exact⟨k+1,T5,T8,X8,_,_,by go_num,by omega,
       {l:=m.o.fr0 M.o
        r:=v.o.fr0 M.o
        d:=D8.o
        t7:=aR.o
        t8:=az.o
        alk:=G.o.1
        bl:=by have:=(zad A a).1;have:=i.o.bl;omega
        bt:=λd hd=>((zad A a).2 d hd).elim (i.o.bt d) (λe=>by rw[e];exact ar.o)}⟩
      case measure=>simp[intOf];omega
     ·obtain⟨e1,e2,e3⟩:=G.o.2 k2
      rw[←e1,←e2,←e3] at y
      rw[←e2,←e3] at au
      have kb:(a.kind !=2)=true:=by simpa using k2
      clear e1 e2 e3
      refine wrLx [ff,ff,ff,ff,ff,ff,tt,ff,ff,ff,ff,ff,ff,tt,ff,ff,ff,tt,tt,ff,ff,ff,ff,ff,tt,ff,ff,tt,tt,ff,ff] (λW=>W.cell? ⟨R,0,none⟩=some (.int .i64 a.kind)∧W.rangeAt aq 0 (yU (doE A a) (.slice ra (doT A a).length rc) (.slice sa (doI A a).length sc))∧W.rangeAt aG 0 (yU (doE A a) (.slice z (doT A a).length C) (.slice D (doI A a).length F))∧W.cell? ⟨o,1,none⟩=some (.pointer (some ⟨pp,0,none⟩))∧W.cell? ⟨o,2,none⟩=some (.pointer (some ⟨ps,0,none⟩))∧W.cell? ⟨c8,1,none⟩=some (.pointer (some ⟨qp,0,none⟩))∧W.cell? ⟨c8,2,none⟩=some (.pointer (some ⟨qs,0,none⟩))) ?_ (λK hK=>?_)
      ·exact y.o _ FZ.o
      repeat((first|(refine zj rfl ?_;constructor;constructor;(focus(first|exact yK (ty:=60) rfl (λw h=>h.2.1) uN rN xM|exact yK (ty:=60) rfl (λw h=>h.2.2.1) uN rN xM|(rintro w' ⟨U,V,Y,Z,s4,s5,s6⟩;go_simp;(try with_reducible rfl);done))))|(refine zl rfl ?_));try simp only[Act.put,pA,pB,pC])
      (refine zE rfl (λK' hK'=>?_))
      go_simp
      refine(zkC _ aI.o.1 au.o.1 aI.o.2 au.o.2 (by have:=SM.o.1;omega) DI.o SM.o.2).mono ?_
      rintro e wy ⟨rfl,fy⟩
      have aw:=@J (Fr No w9.drew wy) (fy)
      clear fy
      refine nXt hK' ?_ λhS=>?_
      ·exact y.o _ aw.o
      try simp only[Act.put,pA,pB,pC]
      repeat((first|(refine zj rfl ?_;constructor;constructor;(focus(rintro w' ⟨U,V,Y,Z,s4,s5,s6⟩;go_simp;(try with_reducible rfl);done)))|(refine zl rfl ?_));try simp only[Act.put,pA,pB,pC])
      (refine zE rfl (λK' hK'=>?_))
      go_simp
      refine(zdn (m.o.fr0 aw.o).1 s).mono ?_
      rintro e wa ⟨va,rfl,P,-,ae⟩
      obtain⟨xa,xc,aC⟩:=P.2.form
      subst aC
      have IA:=J P
      have H:=J (aw.o.trans0 ae)
      clear P ae
      refine nXt hK' ?_ λhS=>?_
      ·exact y.o _ H.o
      try simp only[Act.put,pA,pB,pC]
      repeat((first|(refine zj rfl ?_;constructor;constructor;(focus(rintro w' ⟨U,V,Y,Z,s4,s5,s6⟩;go_simp;(try with_reducible rfl);done)))|(refine zl rfl ?_));try simp only[Act.put,pA,pB,pC])
      (refine zE rfl (λK' hK'=>?_))
      go_simp
      refine(zdn (v.o.fr0 H.o).1 s).mono ?_
      rintro e wb ⟨vb,rfl,q,-,N⟩
      rw[←AQ.o] at q
      obtain⟨xb,xd,aD⟩:=q.2.form
      subst aD
      have IB:=J q
      have aa:=J (H.o.trans0 N)
      have ax:=J (IA.o.keep N)
      clear q N
      refine nXt hK' ?_ λhS=>?_
      ·exact y.o _ aa.o
      try simp only[Act.put,pA,pB,pC]
      repeat((first|(refine zj rfl ?_;constructor;constructor;(focus(rintro w' ⟨U,V,Y,Z,s4,s5,s6⟩;go_simp;(try with_reducible rfl);done)))|(refine zl rfl ?_));try simp only[Act.put,pA,pB,pC])
      (refine zE rfl (λK' hK'=>?_))
      go_simp
      refine(Yc wb ax.o IB.o (by have:=LQ.o;omega) (by have:=LQ.o;omega)).mono ?_
      rintro e wc ⟨b,rfl,hb,af⟩
      obtain rfl:b=true:=hb.2 rfl
      have I:=J (aa.o.trans0 af)
      clear hb af
      refine nXt hK' ?_ λhS=>?_
      ·exact y.o _ I.o
      try simp only[Act.put,pA,pB,pC]
      repeat((first|(refine zj rfl ?_;constructor;constructor;(focus(rintro w' ⟨U,V,Y,Z,s4,s5,s6⟩;go_simp;(try with_reducible rfl);done)))|(refine zl rfl ?_));try simp only[Act.put,pA,pB,pC])
      (refine zE rfl (λK' hK'=>?_))
      go_simp
      refine(zbc (m.o.fr0 I.o).1 (by have:=x.o;omega)).mono ?_
      rintro e wd ⟨vd,rfl,Q,ag⟩
      obtain⟨xe,xf,aE⟩:=Q.slice.arg.form
      subst aE
      have ID:=@J (y3 wd _ (xq (doA A a).L)) (⟨al.o,Q.slice.arg⟩)
      have L:=J (I.o.trans0 ag)
      clear Q ag
      refine nXt hK' ?_ λhS=>?_
      ·exact y.o _ L.o
      try simp only[Act.put,pA,pB,pC]
      repeat((first|(refine zj rfl ?_;constructor;constructor;(focus(rintro w' ⟨U,V,Y,Z,s4,s5,s6⟩;go_simp;(try with_reducible rfl);done)))|(refine zl rfl ?_));try simp only[Act.put,pA,pB,pC])
      (refine zE rfl (λK' hK'=>?_))
      go_simp
      refine(zbc (v.o.fr0 L.o).1 (by have:=x.o;omega)).mono ?_
      rintro e we ⟨ve,rfl,u,O⟩
      rw[←AP.o] at u
      obtain⟨xg,xh,aF⟩:=u.slice.arg.form
      subst aF
      have IE:=@J (y3 we _ (xq (doA A a).L)) (⟨al.o,u.slice.arg⟩)
      have ay:=J (ID.o.keep O)
      have ab:=J (L.o.trans0 O)
      clear u O
      refine nXt hK' ?_ λhS=>?_
      ·exact y.o _ ab.o
      try simp only[Act.put,pA,pB,pC]
      repeat((first|(refine zj rfl ?_;constructor;constructor;(focus(rintro w' ⟨U,V,Y,Z,s4,s5,s6⟩;go_simp;(try with_reducible rfl);done)))|(refine zl rfl ?_));try simp only[Act.put,pA,pB,pC])
      (refine zE rfl (λK' hK'=>?_))
      go_simp
      refine(Yc we ay.o IE.o (by have:=LP.o;omega) (by have:=LP.o;omega)).mono ?_
      rintro e wg ⟨b,rfl,hb,ah⟩
      obtain rfl:b=true:=hb.2 rfl
      have M:=J (ab.o.trans0 ah)
      clear hb ah
      refine nXt hK' ?_ λhS=>?_
      ·exact y.o _ M.o
      try simp only[Act.put,pA,pB,pC]
      repeat((first|(refine zj rfl ?_;constructor;constructor;(focus(rintro w' ⟨U,V,Y,Z,s4,s5,s6⟩;go_simp;(try with_reducible rfl);done)))|(refine zl rfl ?_));try simp only[Act.put,pA,pB,pC])
      refine zL (hK.out _ _ ?_)
      go_wp2_with fail
      go_roundw
      case rel=>exact⟨k+1,T5,T8,X8,_,_,by go_num,by omega,
       {l:=m.o.fr0 M.o
        r:=v.o.fr0 M.o
        d:=D8.o
        t7:=aR.o
        t8:=az.o
        alk:=G.o.1
        bl:=by have:=(zad A a).1;have:=i.o.bl;omega
        bt:=λd hd=>((zad A a).2 d hd).elim (i.o.bt d) (λe=>by rw[e];exact ar.o)}⟩
      case measure=>simp[intOf];omega
  ·have i1:¬(k:Int)<(l.length:Int):=by omega
   go_wp2_with fail
   go_ret
   exact⟨rfl,TW.o.l.fr⟩
end Go.Proofs.YtdkkjchclkjleaaGreatDoor
