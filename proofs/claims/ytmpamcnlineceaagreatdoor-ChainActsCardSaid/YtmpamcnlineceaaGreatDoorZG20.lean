/- As TreeM, where each effect may lay down more of the world that is kept from there on. -/
import Derived.Test.YtmpamcnlineceaaGreatDoorZG3
import Derived.Test.YtmpamcnlineceaaGreatDoorZG19
set_option linter.unusedVariables false
set_option linter.unusedSimpArgs false
set_option linter.unnecessarySimpa false
set_option linter.all false
set_option maxRecDepth 20000
set_option maxHeartbeats 16000000
namespace Go
section
variable {P:Program} {ops:Array Oper}
def YB (P:Program) (ops:Array Oper) (Q:Act→World→Prop) (m:Nat):Nat→(World→Prop)→List Nat→Act→World→Prop
 |0,_,_,a,w=>Q a w
 |n+1,S,L,a,w=>
  (∃i o v,i∈L∧i≠m∧m∈L∧qR ops L i=true∧ops[i]? =some o∧YieldsIf P ops S o v a∧YB P ops Q m n S (L.erase i) (a.put o.dst v) w)∨
  (∀j∈L,qR ops L j=true→∃o,ops[j]? =some o∧Region.wanted o (yielded ops a.tmps)=true∧o.wp P a w (λa' w'=>∃S':World→Prop,(∀u,S' u→S u)∧(j≠m→S' w')∧YB P ops Q m n S' (L.erase j) a' w') NoQ)
theorem Qf {S S':World→Prop} {Q:Exit→Act→World→Prop} {m:Nat} (c:∀u,S' u→S u):∀(n:Nat) (listed:Array Bool) (a:Act) (w:World),vZ P ops Q S' m n listed a w→vZ P ops Q S m n listed a w
 |0,_,_,_,h=>h
 |n+1,_,_,_,h=>⟨h.1,λi hi=>wpOp_mono (λd w' b=>⟨λe=>c _ (b.1 e),Qf c n _ d w' b.2⟩) (h.2 i hi)⟩
theorem zcP {m:Nat} (hok:Zz ops=true) (R:Xl ops m=true) {Q:Exit→Act→World→Prop} (hQ:∀c a d v w,Q (.panic c) (Act.put a d v) w→Q (.panic c) a w):
  ∀(n:Nat) (S:World→Prop) (listed:Array Bool) (a:Act) (w:World),listed.size=ops.size→jU ops listed→(unl ops listed).length=n→(m∈unl ops listed→S w)→
   YB P ops (Q .normal) m n S (unl ops listed) a w→vZ P ops Q S m n listed a w:=by
 simp only[Zz,Bool.and_eq_true] at hok
 obtain⟨⟨⟨av,ai⟩,af⟩,ak⟩:=hok
 have ah:=Region.noSelect_spec av
 have ad:∀(i:Nat) (C:Oper),ops[i]? =some C→∀e∈C.after,Region.binds .any e=true→e.on<ops.size:=λi C g e y G=>by
  have B:=List.all_eq_true.1 ak i (List.mem_range.2 (Array.getElem?_eq_some_iff.1 g).1)
  rw[g] at B
  have h3:=Array.all_eq_true'.1 B e y
  simpa only[G,Bool.not_true,Bool.false_or,decide_eq_true_eq] using h3
 have Z:∀i j,i<ops.size→Region.waitsFor .any ops i j=true→j<i:=λi j hi hw=>by
  obtain⟨C,g,e,y,G,ae⟩:=Region.waitsFor_spec hw
  have h4:=List.all_eq_true.1 (List.all_eq_true.1 af i (List.mem_range.2 hi)) j (List.mem_range.2 (ae▸ad i C g e y G))
  simpa[hw] using h4
 intro n
 induction n with
 |zero=>
  intro S listed a w l hc p hS H
  have ab:unl ops listed=[]:=List.eq_nil_of_length_eq_zero p
  refine⟨?_,H⟩
  by_cases hr:Region.ready .any ops listed=[]
  ·exact hr
  ·obtain⟨j,t⟩:=List.exists_mem_of_ne_nil _ hr
   obtain⟨I,o,ho,_⟩:=mem_ready.1 t
   have:j∈unl ops listed:=List.mem_filter.2 ⟨List.mem_range.2 (Array.getElem?_eq_some_iff.1 ho).1,by rw[I];rfl⟩
   rw[ab] at this
   cases this
 |succ n ih=>
  intro S listed a w l hc p hS H
  have b:∀ {j},j∈unl ops listed↔j<ops.size∧listed.getD j true=false:=fun {j}=>by
   unfold unl
   rw[List.mem_filter,List.mem_range]
   simp
  have T:∀ {j},j∈Region.ready .any ops listed→j∈unl ops listed:=fun {j} t=>by
   obtain⟨I,o,ho,_⟩:=mem_ready.1 t
   exact b.2 ⟨(Array.getElem?_eq_some_iff.1 ho).1,I⟩
  have next:∀(S:World→Prop) j,j∈Region.ready .any ops listed→∀F w',(j≠m→m∈unl ops listed→S w')→YB P ops (Q .normal) m n S ((unl ops listed).erase j) F w'→vZ P ops Q S m n (listed.setIfInBounds j true) F w':=λS j Y F w' D E=>by
   have t:=T Y
   refine ih S _ F w' (by simp[l]) (hc.set Y) ?_ (λhm=>?_) (by rw[vW l];exact E)
   ·rw[vW l,List.length_erase_of_mem t,p]
    rfl
   ·rw[vW l] at hm
    by_cases e:j=m
    ·subst e
     exact absurd hm (List.Nodup.not_mem_erase ((Yi (ops:=ops) listed).imp (λh=>Nat.ne_of_lt h)))
    ·exact D e (List.mem_of_mem_erase hm)
  have f:∀j,j∈Region.ready .any ops listed→∀k,k∈unl ops listed→Region.waitsFor .any ops j k=false:=λj t k z=>by
   obtain⟨_,oj,s,V⟩:=mem_ready.1 t
   refine xD s λe y G aj=>?_
   have M:=V e y G
   rw[aj] at M
   have B:=(b.1 z).2
   have aq:k<listed.size:=by rw[l];exact(b.1 z).1
   simp[aq] at M B
   rw[M] at B
   cases B
  have q:∀i,i∈unl ops listed→qR ops (unl ops listed) i=true→i∈Region.ready .any ops listed:=λi hi N=>by
   have W:=b.1 hi
   obtain⟨C,g⟩:∃o,ops[i]? =some o:=⟨_,Array.getElem?_eq_getElem W.1⟩
   refine mem_ready.2 ⟨W.2,C,g,λe y G=>?_⟩
   have M:=ad i C g e y G
   cases E:listed.getD e.on true with
   |true=>
    have:e.on<listed.size:=by rw[l];exact M
    simp[this] at E⊢
    exact E
   |false=>
    have B:=List.all_eq_true.1 N e.on (b.2 ⟨M,E⟩)
    have h3:Region.waitsFor .any ops i e.on=true:=by
     unfold Region.waitsFor
     rw[g]
     exact Array.any_eq_true'.2 ⟨e,y,by simp[G]⟩
    rw[h3] at B
    cases B
  have A:∀j,j∈Region.ready .any ops listed→qR ops (unl ops listed) j=true:=λj t=>
   List.all_eq_true.2 λk z=>by rw[f j t k z];rfl
  rcases H with⟨i,C,v,hi,him,hmL,N,g,hy,E⟩|H
  ·have O:=q i hi N
   refine ZJ R g him ah (λc a w=>hQ c a C.dst v w) n listed a w l hc (λj oj s an aw au=>?_) O hy (hS hmL) (next S i O _ _ (λ_ _=>hS hmL) E)
   have al:=b.2 ⟨(Array.getElem?_eq_some_iff.1 s).1,aw⟩
   exact qf ai g s (λe=>an e.symm) (xD s au) (f i O j al)
  ·have ar:Region.ready .any ops listed≠[]:=by
    obtain⟨i,L,hiL⟩:∃i L,unl ops listed=i::L:=by
     cases hu:unl ops listed with
     |nil=>rw[hu] at p;cases p
     |cons i L=>exact⟨i,L,rfl⟩
    have ag:=Yi (ops:=ops) listed
    have X:i∈unl ops listed:=by rw[hiL];simp
    have aa:∀k,k∈unl ops listed→i≤k:=λk z=>by
     rw[hiL] at z ag
     rcases List.mem_cons.1 z with rfl|z
     ·exact Nat.le_refl _
     ·exact Nat.le_of_lt ((List.pairwise_cons.1 ag).1 k z)
    have:=q i X (List.all_eq_true.2 λk z=>by
     cases hw:Region.waitsFor .any ops i k with
     |false=>rfl
     |true=>have M:=Z i k (b.1 X).1 hw;have B:=aa k z;omega)
    exact λI=>by rw[I] at this;cases this
   refine⟨λI=>absurd I ar,λj t=>?_⟩
   obtain⟨oj,s,ax,ay⟩:=H j (T t) (A j t)
   unfold wpOp
   rw[s]
   simp only[ax,if_true]
   refine .inl ?_
   have U:=Oper.wp_mono (K':=λF w'=>((listed.setIfInBounds j true).getD m false=false→S w')∧vZ P ops Q S m n (listed.setIfInBounds j true) F w') (λF w' ⟨S',hs,D,E⟩=>⟨λhf=>hs _ (D (λe=>by
    subst e
    have ao:j<listed.size:=by rw[l];exact(b.1 (T t)).1
    simp[ao] at hf)),Qf hs _ _ _ _ (next S' j t F w' (λe _=>D e) E)⟩) ay
   unfold Oper.wp at U⊢
   generalize (execOp a.eval oj).run P w=r at*
   cases r with
   |ok m w'=>
    cases m<;>simp only[Oper.upon] at U⊢ <;>first
     |exact U
     |exact Calls.mono U (λe az y=>by
       cases e with
       |returned u=>exact y
       |panicked c=>exact y.elim
       |outgrown=>obtain⟨_,_,hf⟩:=y;exact hf.elim)
   |halt x w'=>cases x<;>simp only[Oper.upon] at U⊢ <;>exact U.elim
theorem VI {id:Nat} {a:Act} {w:World} {Q:Exit→Act→World→Prop} {l:List Oper} (n:Nat) (m:Nat) (L:List Nat) (S:World→Prop) (g:P.follows .mixedOrders=true) (hok:Zz l.toArray=true) (b:Xl l.toArray m=true) (k:l.length=n) (f:List.range n=L)
  (hS:S w.drew)
  (h:∀K:Act→World→Prop,Shut (∀a w,Q .normal a w→K a w)→YB P l.toArray K m n S L a w.drew):(Code.region id l.toArray true).wp P Q a w:=by
 refine wp_region_noPanic (wp_region_any g (ZK (S:=S) (m:=m) _ _ _ _ ?_))
 have e:unl l.toArray (Array.replicate l.toArray.size false)=List.range l.toArray.size:=by
  unfold unl
  rw[List.filter_eq_self]
  intro i hi
  have:=List.mem_range.1 hi
  simp at this
  simp[this]
 have c:l.toArray.size=n:=by simpa using k
 refine zcP hok b (λ_ _ _ _ _ h=>h) _ S _ a _ (by simp) (λj q p d=>?_) (by rw[e];simp) (λ_=>hS) (by rw[e,c,f];exact h _ (λ_ _ h=>h))
 by_cases hjs:j<l.toArray.size
 ·simp at hjs
  simp[hjs] at d
 ·simp at hjs
  simp[hjs] at d
section
variable {K:Act→World→Prop} {a:Act} {w:World} {n m:Nat} {L:List Nat} {o:Oper} {S:World→Prop}
theorem j8 (h:K a w):YB P ops K m 0 S L a w:=h
theorem xu (i:Nat) (b:(L.contains i && qR ops L i && L.contains m && i !=m)=true) (c:ops.toList[i]? =some o) (d:Region.wanted o (yielded ops a.tmps)=true) (h:∃v,(∀w,S w→(execOp a.eval o).run P w=.ok (.value v) w)∧YB P ops K m n S (L.erase i) (a.put o.dst v) w):YB P ops K m (n+1) S L a w:=by
 simp only[Bool.and_eq_true,List.contains_iff_mem,bne_iff_ne] at b
 obtain⟨v,e,h⟩:=h
 exact .inl ⟨i,o,v,b.1.1.1,b.2,b.1.2,b.1.1.2,by simpa using c,.inl ⟨d,e⟩,h⟩
theorem xw (i:Nat) (b:(L.contains i && qR ops L i && L.contains m && i !=m)=true) (c:ops.toList[i]? =some o) (d:Region.wanted o (yielded ops a.tmps)=false) (h:YB P ops K m n S (L.erase i) (a.put o.dst undef) w):YB P ops K m (n+1) S L a w:=by
 simp only[Bool.and_eq_true,List.contains_iff_mem,bne_iff_ne] at b
 exact .inl ⟨i,o,undef,b.1.1.1,b.2,b.1.2,b.1.1.2,by simpa using c,.inr ⟨d,rfl⟩,h⟩
def Qv (P:Program) (ops:Array Oper) (K:Act→World→Prop) (m n:Nat) (S:World→Prop) (L:List Nat) (j:Nat) (K':Act→World→Prop):Prop:=
 ∀a' w' (S':World→Prop),(∀u,S' u→S u)→(j≠m→S' w')→((j≠m→S' w')→YB P ops K m n S' (L.erase j) a' w')→K' a' w'
theorem zaI (f:List Nat) (k:L.filter (qR ops L)=f) (h:∀j∈f,∃o,ops[j]? =some o∧Region.wanted o (yielded ops a.tmps)=true∧∀K',Shut (Qv P ops K m n S L j K')→o.wp P a w K' NoQ):YB P ops K m (n+1) S L a w:=by
 refine .inr λj c b=>?_
 obtain⟨o,l,p,d⟩:=h j (by rw[←k];exact List.mem_filter.2 ⟨c,b⟩)
 exact⟨o,l,p,d _ (λ_ _ S' g e i=>⟨S',g,e,i e⟩)⟩
theorem xJ (j:Nat) (c:L.filter (qR ops L)=[j]) (d:ops.toList[j]? =some o) (e:Region.wanted o (yielded ops a.tmps)=true) (h:∀K',Shut (Qv P ops K m n S L j K')→o.wp P a w K' NoQ):YB P ops K m (n+1) S L a w:=
 zaI [j] c (λf b=>by
  have:=List.mem_singleton.1 b
  subst this
  exact⟨o,by simpa using d,e,h⟩)
theorem Ya (j k:Nat) {c:Oper} (g:L.filter (qR ops L)=[j,k]) (i:ops.toList[j]? =some o) (l:Region.wanted o (yielded ops a.tmps)=true) (d:ops.toList[k]? =some c) (e:Region.wanted c (yielded ops a.tmps)=true)
  (h:∀K',Shut (Qv P ops K m n S L j K')→o.wp P a w K' NoQ)
  (f:∀K',Shut (Qv P ops K m n S L k K')→c.wp P a w K' NoQ):YB P ops K m (n+1) S L a w:=
 zaI [j,k] g (λp b=>by
  rcases List.mem_cons.1 b with rfl|b
  ·exact⟨o,by simpa using i,l,h⟩
  ·have:=List.mem_singleton.1 b
   subst this
   exact⟨c,by simpa using d,e,f⟩)
theorem zfo (j k l:Nat) {c d:Oper} (r:L.filter (qR ops L)=[j,k,l]) (s:ops.toList[j]? =some o) (t:Region.wanted o (yielded ops a.tmps)=true) (e:ops.toList[k]? =some c) (g:Region.wanted c (yielded ops a.tmps)=true) (f:ops.toList[l]? =some d) (i:Region.wanted d (yielded ops a.tmps)=true)
  (h:∀K',Shut (Qv P ops K m n S L j K')→o.wp P a w K' NoQ)
  (p:∀K',Shut (Qv P ops K m n S L k K')→c.wp P a w K' NoQ)
  (q:∀K',Shut (Qv P ops K m n S L l K')→d.wp P a w K' NoQ):YB P ops K m (n+1) S L a w:=
 zaI [j,k,l] r (λu b=>by
  rcases List.mem_cons.1 b with rfl|b
  ·exact⟨o,by simpa using s,t,h⟩
  ·rcases List.mem_cons.1 b with rfl|b
   ·exact⟨c,by simpa using e,g,p⟩
   ·have:=List.mem_singleton.1 b
    subst this
    exact⟨d,by simpa using f,i,q⟩)
end
end
attribute [irreducible] YB
end Go
namespace Go.Proofs.YtmpamcnlineceaaGreatDoor
open Go Go.RowKit Go.Maps Go.MapKept
open Go.Proofs.Tryz(prog)
open Nat(le_refl)
open List(mem_cons mem_filter all_eq_true mem_range)
variable {n:Nat} {v:Value}
structure RCh (w0 w:World) (p:Nat) (U:Nat→Prop) (F:List yk) (bs:List zU) (S:List zh):Prop where
 ex:∃(fv bv cv iv:Value) (css:List (List Value)),w.heap[p]? =some (.cells #[fv,bv,cv,iv] 56 (0,0))∧yP w fv F.length (F.flatMap zx)∧yP w bv bs.length (css.flatMap id)∧css.length=bs.length∧(∀cs∈css,cs.length=3)∧
  (∀(i:Nat) (d:zU) (cs:List Value),bs[i]? =some d→css[i]? =some cs→xT w0 d.blk cs)∧yP w cv S.length (S.flatMap zw)∧yP w iv (zJ bs).length ((zJ bs).flatMap zl)∧
  (∀j,(fv.ownBlock=some j∨bv.ownBlock=some j∨cv.ownBlock=some j∨iv.ownBlock=some j)→U j∧j≠p)
 up:U p
 lo:∀j,U j→w0.heap.size≤j
 hi:∀j,U j→j<w.heap.size
 fr:Fr No w0 w
 fok:∀x∈F,x.ok
 fl:F.length≤256
 hist:Jn (xP z7 F) bs S
section
variable {w0 w:World} {p:Nat} {U:Nat→Prop} {F:List yk} {bs:List zU} {S:List zh}
theorem RCh.frV {w':World} (h:RCh w0 w p U F bs S) {V:Nat→Prop} (f:Fr V w w') (c:∀j,U j→¬V j) (k:∀j,V j→w0.heap.size≤j):RCh w0 w' p U F bs S:=by
 obtain⟨fv,d,g,u,css,t,l,m,n,o,q,r,s,a⟩:=h.ex
 exact {h with
  ex:=⟨fv,d,g,u,css,f.obj t (c p h.up),l.keep f (λb e=>c b (a b (.inl e)).1),m.keep f (λb e=>c b (a b (.inr (.inl e))).1),n,o,q,r.keep f (λb e=>c b (a b (.inr (.inr (.inl e)))).1),s.keep f (λb e=>c b (a b (.inr (.inr (.inr e)))).1),a⟩
  hi:=λj e=>by have:=h.hi j e;have:=f.size;omega
  fr:=h.fr.trans f (λi hi e=>by have:=k i e;omega)}
theorem RCh.fr0 {w':World} (h:RCh w0 w p U F bs S) (f:Fr No w w'):RCh w0 w' p U F bs S:=h.frV f (λ_ _=>id) (λ_ h=>h.elim)
theorem RCh.srt0 (_:RCh w0 w p U F bs S):qg (xP z7 F):=by
 rw[←zaO]
 exact vD List.Pairwise.nil (vm _ _) (λc a=>rfl)
theorem RCh.ok0 (h:RCh w0 w p U F bs S):∀c∈xP z7 F,c.ok:=Jh j5 h.fok (by have:=h.fl;omega)
theorem RCh.good (h:RCh w0 w p U F bs S):HOk (xP z7 F) bs S:=h.hist.good h.srt0 h.ok0
theorem RCh.slen (h:RCh w0 w p U F bs S) (a:bs.length≤200):S.length≤30000:=by
 have:=h.good.len
 rw[xZ] at this
 have:=h.fl
 omega
theorem RCh.klen (h:RCh w0 w p U F bs S) (b:bs.length≤200):(zJ bs).length≤3200:=by
 have:=Xz (bs:=bs) (λd a=>(h.good.ds d a).1)
 omega
end
theorem zfS {w:World} {p:Nat} {T:TypeId} {a b c d x y:Value} (h:w.heap[p]? =some (.cells #[a,b,c,d] T (0,0))):(w.setCells p 2 [x,y]).heap[p]? =some (.cells #[a,b,x,y] T (0,0)):=by
 have e:=heap_setCell_same w p 2 _ _ x h
 have f:=heap_setCell_same _ p 3 _ _ y e
 simpa[World.setCells] using f
theorem XQ {w:World} {p:Nat} {T:TypeId} {a b c d:Value} (h:w.heap[p]? =some (.cells #[a,b,c,d] T (0,0))):w.there p 2 2:=λj e=>by
 simp only[World.cell?,World.frozen?,h]
 rw[Array.getElem?_eq_getElem (by show 2+j<4;omega)]
 simp
theorem zil (a:Option Addr) (n c:Nat) (w:World):(Instr.build 56 #[(0,.slice a n c)]).run prog w=.ok (.agg [.slice a n c,.slice none 0 0,.slice none 0 0,.slice none 0 0].toArray) w:=by kernel_rfl
theorem zhB:ElT prog 22 68 33 40 (.agg (zx vF).toArray):=⟨vU,Jw,by rw[←xq];rfl,by decide,by decide⟩
def zie (w:World) (F:List yk) (e:Ending) (w':World):Prop:=∃p U,e=.returned (.tuple #[.pointer (some ⟨p,0,none⟩),.int .i64 0])∧RCh w w' p U F [] (xP z7 F)
theorem zcS (w:World) {F:List yk} (a:xA w v F) (b:256<F.length):
  Calls prog 7 #[v] w λe w'=>e=.returned (.tuple #[.pointer none,.int .i64 5])∧Fr No w w':=by
 obtain⟨d,f,rfl⟩:=a.2.form
 have c:decide ((256:Int)<(F.length:Int))=true:=by simp;omega
 go_enter Tryz.func7,Tryz.ntmps7
 go_wp2
 go_ret2
 exact⟨rfl,Fr.refl _ _⟩
theorem zej (w:World) {F:List yk} (o:xA w v F) (G:F.length≤256):
  Calls prog 7 #[v] w (zie w F):=by
 obtain⟨va,vc,rfl⟩:=o.2.form
 have HL:=J o
 have LN:=J G
 obtain⟨v1,w1,n,H,z,Y⟩:=jZ (P:=prog) (w:=w) zhB w.heap.size (le_refl _)
 obtain⟨v2,a,l,Z,W,n2⟩:=vy w1 (k:=[]) H (o.keep z) (by simp;omega) z.size 22
 have B1:=J n
 have A2:=J l
 have u:=@J (a.ownsRow w.heap.size 68 33 v2 F.length (F.flatMap zx)) (by simpa using Z)
 have c:=@J (Fr No w a) (z.trans W (λi hi e=>by have:=Y i e;omega))
 obtain⟨q,r,rfl⟩:=u.o.slice.arg.form
 obtain⟨ya,yc,rfl⟩:=H.slice.arg.form
 have j1:decide ((256:Int)<(F.length:Int))=false:=by simp;omega
 have D:=J (c.o.alloc (.cells #[.slice q F.length r,.slice none 0 0,.slice none 0 0,.slice none 0 0] 56))
 have B:=J (zS a (.cells #[.slice q F.length r,.slice none 0 0,.slice none 0 0,.slice none 0 0] 56))
 have R:=J (u.o.alloc (.cells #[.slice q F.length r,.slice none 0 0,.slice none 0 0,.slice none 0 0] 56))
 have ST:=J (Qe (w:=a.alloc (.cells #[.slice q F.length r,.slice none 0 0,.slice none 0 0,.slice none 0 0] 56)) (p:=a.heap.size) (fv:=.slice q F.length r) (F:=F) (by have:=zm B.o 0 _ rfl;simpa using this) ⟨o.1,R.o.slice.arg⟩ G (bs:=[]) .nil (v:=.slice none 0 0) (css:=[]) (.inl (.inl ⟨rfl,rfl,rfl⟩)) rfl (λcs h=>by cases h) (λi d cs h=>by cases h) (by simp))
 clear o G n H z Y l Z W n2
 go_enter Tryz.func7,Tryz.ntmps7
 have⟨K0,K1,K2,K3,K4⟩:=tZ5
 go_wp2_with ((first|((with_reducible refine zt ?_);first|(clear K0;refine zg rfl (qG (t:=22) (vs:=[]) rfl rfl B1.o) ?_)|(clear K1;at_builtin;refine zk rfl rfl rfl rfl A2.o ?_)|(clear K2;refine zg rfl (yl (t:=56) rfl rfl (zil _ _ _ _)) ?_))|(clear K3;go_at_call 25;refine ST.o.mono ?_;rintro e N ⟨cv,iv,rfl,E,I,K,X⟩;have C:=J E;have T:=J I;have V:=J K;have s:=J X;have A:=J (E.obj B.o id);obtain⟨O,Q,rfl⟩:=I.arg.form;obtain⟨L,M,rfl⟩:=K.arg.form;clear E I K X)|((with_reducible refine zr ?_);clear K4;refine ze rfl (zy (ty:=54) (b:=a.heap.size) (off:=2) (cs:=[.slice O (xP z7 F).length Q,.slice L (zJ []).length M]) rfl rfl rfl (XQ A.o) infoState Jd) ?_));go_frame)
 have f:=zv a.heap.size [.slice O (xP z7 F).length Q,.slice L (zJ []).length M] 2 N
 have HB:=zfS (x:=.slice O (xP z7 F).length Q) (y:=.slice L (zJ []).length M) A.o
 go_ret2
 have HS:=D.o.trans0 C.o
 have ql:=yu B.o
 have hu:∀j,(w.heap.size≤j∧j<N.heap.size)→w.heap.size≤j:=λj e=>e.1
 refine⟨a.heap.size,λj=>w.heap.size≤j∧j<N.heap.size,rfl,{ex:=⟨_,_,_,_,[],HB,(R.o.slice.keep C.o (λ_ _=>id)).keep f (λb m e=>by have:=(u.o.lt b m).2;omega),.inl ⟨rfl,rfl,rfl⟩,rfl,(λcs h=>by cases h),(λi d cs h=>by cases h),T.o.keep f (λb m e=>by have:=s.o b (.inl m);have:=D.o.size;simp at this;omega),V.o.keep f (λb m e=>by have:=s.o b (.inr m);simp at this;omega),?_⟩,up:=⟨c.o.size,?_⟩,lo:=hu,hi:=λj e=>by have:=f.size;have:=e.2;omega,fr:=HS.trans f (λi hi e=>by have:=c.o.size;omega),fok:=HL.o.1,fl:=LN.o,hist:=.nil}⟩
 ·rintro j (e|e|e|e)
  ·have g:=u.o.lt j e
   have:=C.o.size
   simp at this
   exact⟨⟨g.1,by omega⟩,by omega⟩
  ·cases e
  ·have g:=s.o j (.inl e)
   have:=T.o.lt e
   have:=D.o.size
   simp at g
   exact⟨⟨by have:=c.o.size;omega,by omega⟩,by omega⟩
  ·have g:=s.o j (.inr e)
   have:=V.o.lt e
   simp at g
   exact⟨⟨by have:=c.o.size;omega,by omega⟩,by omega⟩
 ·have:=yu A.o
  exact this
theorem zf2:prog.underlying 48=some (.slice (prog.elem 48)):=by kernel_rfl
theorem zd8:(prog.info? (prog.elem 48)).map (λi=>i.size)=some 3:=by kernel_rfl
theorem zfU (w:World):(sizeOf (prog.elem 48)).run prog w=.ok 3 w:=by
 have h:=zd8
 cases hi:prog.info? (prog.elem 48) with
 |none=>rw[hi] at h;cases h
 |some i=>
  rw[hi] at h
  injection h with h
  simp[sizeOf,typeInfo,hi,h]
theorem ze2 (a:Addr) (n b q:Nat) (c:q≤b) (w:World):
  (Instr.slice 48 (.slice (some a) n b) none (some (.int .i64 (q:Int))) none).run prog w=.ok (.slice (some a) q b) w:=by
 rw[run_slice_h w 48 (some a) n b zf2 .i64 q (by omega) (by omega),zfU]
 simp[Result.andThen,sliced,Addr.add]
theorem yP.pre {w:World} {a:Addr} {n c m:Nat} {cs more:List Value} (h:yP w (.slice (some a) n c) n (cs++more)) (o:m≤n):yP w (.slice (some a) m c) m cs:=by
 rcases h with⟨h,-,-⟩|⟨b,off,f,e,g,i,k,l⟩
 ·cases h
 ·injection e with e1 e2 e3
  injection e1 with e1
  subst e1;subst e3
  exact .inr ⟨b,off,c,rfl,Nat.le_trans o g,i,λj u d=>k j u (by rw[List.getElem?_append_left (List.getElem?_eq_some_iff.1 d).1];exact d),l⟩
theorem zeM (w:World):(Instr.build 36 #[]).run prog w=.ok (.agg xY.toArray) w:=by kernel_rfl
theorem zeR:∀u∈xY,u.oneCell'=true:=jV
section
variable {w0 w:World} {p:Nat} {U:Nat→Prop} {F:List yk} {bs:List zU} {S:List zh}
theorem zbn (h:RCh w0 w p U F [] S):Calls prog 13 #[.pointer (some ⟨p,0,none⟩)] w λe w'=>e=.returned (.tuple #[.agg xY.toArray,.int .i64 9])∧Fr No w w':=by
 obtain⟨fv,z,A,C,css,f,n,d,o,q,r,s,u,v⟩:=h.ex
 obtain⟨l,m,rfl⟩:=d.arg.form
 obtain⟨B,y,x⟩:=Y3
 have a:Fr No w (w.alloc (.cells #[.int .u64 0,.slice none 0 0,.slice none 0 0] 36)):=(frN w).alloc _
 have g:=J a
 have c1:(w.alloc (.cells #[.int .u64 0,.slice none 0 0,.slice none 0 0] 36)).cell? ⟨p,1,none⟩=some (.slice l 0 m):=by have:=zm (a.obj f id) 1 _ rfl;simpa using this
 have c:=J (zS w (.cells #[.int .u64 0,.slice none 0 0,.slice none 0 0] 36))
 clear h f n d o q r s u v a
 go_enter Tryz.func13,Tryz.ntmps13
 have⟨j,k⟩:=tZ2
 go_wp2_with ((first|((with_reducible refine zt ?_);clear j;refine zg rfl (yl (t:=36) rfl rfl (zeM _)) ?_)|((with_reducible refine zr ?_);clear k;refine ze rfl (zy (ty:=36) (b:=w.heap.size) (off:=0) (cs:=xY) rfl rfl rfl (zM c.o (le_refl 3)) xg zeR) ?_));go_frame)
 refine bodyPost_ret (zR (P:=prog) (fn:=Tryz.f13) rfl _ rfl (yE c.o rfl) y x xg rfl) rfl ⟨rfl,g.o.trans (zv _ _ _ _) (λi hi e=>by omega)⟩
def zhm (w0 w:World) (p:Nat) (U:Nat→Prop) (F:List yk) (bs:List zU) (d:zU) (e:Ending) (w':World):Prop:=
 ∃cs,e=.returned (.tuple #[.agg cs.toArray,.int .i64 0])∧xT w0 d.blk cs∧Fr (λj=>j=p) w w'∧∃U' S',RCh w0 w' p U' F bs S'∧∀j,U' j→U j∨w.heap.size≤j
theorem zcB {d:zU} (h:RCh w0 w p U F (bs++[d]) S) (hB:bs.length≤150):Calls prog 13 #[.pointer (some ⟨p,0,none⟩)] w (zhm w0 w p U F bs d):=by
 have a:=J h
 obtain⟨fv,bv,cv,iv,css,hb,h1,K,h3,h4,h5,h6,h7,h8⟩:=h.ex
 obtain⟨dB,uB,rB⟩:=Y3
 obtain⟨css,cs,rfl⟩:∃l x,css=l++[x]:=by
  have X:css≠[]:=λe=>by rw[e] at h3;simp at h3
  exact⟨css.dropLast,css.getLast X,(List.dropLast_concat_getLast X).symm⟩
 have B:css.length=bs.length:=by simpa using h3
 have G:xT w0 d.blk cs:=h5 bs.length d cs (by simp) (by rw[←B];simp)
 obtain⟨m,hm⟩:∃m,m=bs.length:=⟨_,rfl⟩
 rw[show(bs++[d]).length=m+1 by rw[hm];simp] at K
 obtain⟨b,off,q,hv,hr,-⟩:=K.elem (f:=id) (by decide) h4 (i:=m) (x:=cs) (by rw[hm,←B];simp)
 cases hv
 have BQ:=J G
 obtain⟨c,g,k,o,rfl⟩:=G.form
 have H2:=J K
 have R1:=@J (w.rangeAt b (off+m*3) [.int .u64 d.blk.tag,.slice c d.blk.pay.length g,.slice k d.blk.txs.length o]) (hr)
 have r:=J h8
 have H1:=J h1
 have I:=@J (css.length=bs.length∧(∀cs∈css,cs.length=3)∧∀(i:Nat) (d:zU) (cs:List Value),bs[i]? =some d→css[i]? =some cs→xT w0 d.blk cs) (⟨B,λx hx=>h4 x (List.mem_append.2 (.inl hx)),λi d' al a1 a2=>h5 i d' al (by rw[List.getElem?_append_left (List.getElem?_eq_some_iff.1 a1).1];exact a1) (by rw[List.getElem?_append_left (List.getElem?_eq_some_iff.1 a2).1];exact a2)⟩)
 have ao:m+1≤q:=xG.cap K.arg
 have f1:Fr No w (w.alloc (.cells #[.int .u64 0,.slice none 0 0,.slice none 0 0] 36)):=(frN w).alloc _
 have F1:=J f1
 have c1:(w.alloc (.cells #[.int .u64 0,.slice none 0 0,.slice none 0 0] 36)).cell? ⟨p,1,none⟩=some (.slice (some ⟨b,off,none⟩) (m+1) q):=by have:=zm (f1.obj hb id) 1 _ rfl;simpa using this
 have B1:=J (zS w (.cells #[.int .u64 0,.slice none 0 0,.slice none 0 0] 36))
 have hcut:=ze2 ⟨b,off,none⟩ (m+1) q m (by omega)
 have jz:((m:Int)+1==0)=false:=by rw[beq_eq_false_iff_ne];omega
 have ar:m≤150:=by omega
 have HM:=J hm
 have E:=J (yu hb)
 obtain⟨S',W,-,-,-,-⟩:=a.o.hist.last
 have R:=J W
 have f2:Fr No w ((w.alloc (.cells #[.int .u64 0,.slice none 0 0,.slice none 0 0] 36)).alloc (.cells #[.int .u64 d.blk.tag,.slice c d.blk.pay.length g,.slice k d.blk.txs.length o] 36)):=((frN w).alloc _).alloc _
 have F2:=J f2
 have B2:=J (xK (w.alloc (.cells #[.int .u64 0,.slice none 0 0,.slice none 0 0] 36)) (.cells #[.int .u64 d.blk.tag,.slice c d.blk.pay.length g,.slice k d.blk.txs.length o] 36) (n:=w.heap.size+1) (by simp))
 have ab:=J (jC B1.o (.cells #[.int .u64 d.blk.tag,.slice c d.blk.pay.length g,.slice k d.blk.txs.length o] 36))
 have C:=f2.obj hb id
 have c2:((w.alloc (.cells #[.int .u64 0,.slice none 0 0,.slice none 0 0] 36)).alloc (.cells #[.int .u64 d.blk.tag,.slice c d.blk.pay.length g,.slice k d.blk.txs.length o] 36)).cell? ⟨p,1,none⟩=some (.slice (some ⟨b,off,none⟩) (m+1) q):=by have:=zm C 1 _ rfl;simpa using this
 have an:=qZ C 1
 have ah:=J (zb R1.o F1.o id)
 have ag:=J C
 clear h hb h1 K h3 h4 h5 h6 h7 h8 f1 f2 hr G B C W hm
 go_enter Tryz.func13,Tryz.ntmps13
 have⟨T,V⟩:=tZ2
 go_upto_region 6 with((first|((with_reducible refine zt ?_);clear T;refine ziS rfl rfl rfl ah.o rfl ?_)|((with_reducible refine zr ?_);clear V;refine ze rfl (zj (w:=w.alloc (.cells #[.int .u64 0,.slice none 0 0,.slice none 0 0] 36)) (ty:=36) (cs:=[.int .u64 d.blk.tag,.slice c d.blk.pay.length g,.slice k d.blk.txs.length o]) rfl rfl rfl rfl xg jV) ?_));go_frame)
 have z:Fr (λj=>j=p) ((w.alloc (.cells #[.int .u64 0,.slice none 0 0,.slice none 0 0] 36)).alloc (.cells #[.int .u64 d.blk.tag,.slice c d.blk.pay.length g,.slice k d.blk.txs.length o] 36)) (((w.alloc (.cells #[.int .u64 0,.slice none 0 0,.slice none 0 0] 36)).alloc (.cells #[.int .u64 d.blk.tag,.slice c d.blk.pay.length g,.slice k d.blk.txs.length o] 36)).setCell ⟨p,1,none⟩ (.slice (some ⟨b,off,none⟩) m q)):=(Fr.refl (λj=>j=p) _).setCell ⟨p,1,none⟩ (.inr rfl) _
 have s:=@J ((((w.alloc (.cells #[.int .u64 0,.slice none 0 0,.slice none 0 0] 36)).alloc (.cells #[.int .u64 d.blk.tag,.slice c d.blk.pay.length g,.slice k d.blk.txs.length o] 36)).setCell ⟨p,1,none⟩ (.slice (some ⟨b,off,none⟩) m q)).heap[p]? =some (.cells #[fv,.slice (some ⟨b,off,none⟩) m q,cv,iv] 56 (0,0))) (by have:=heap_setCell_same _ p 1 _ _ (.slice (some ⟨b,off,none⟩) m q) ag.o;simpa using this)
 have N:=@J (Fr (λj=>j=p) w _) (F2.o.of0.trans z (λ_ _ e=>e))
 have aa:=J (z.obj ab.o (λe=>by have:=E.o;omega))
 have M:=J (z.obj B2.o (λe=>by have:=E.o;omega))
 clear z c2 an hcut jz c1
 generalize ((w.alloc (.cells #[.int .u64 0,.slice none 0 0,.slice none 0 0] 36)).alloc (.cells #[.int .u64 d.blk.tag,.slice c d.blk.pay.length g,.slice k d.blk.txs.length o] 36)).setCell ⟨p,1,none⟩ (.slice (some ⟨b,off,none⟩) m q)=D at*
 have c3:D.cell? ⟨p,1,none⟩=some (.slice (some ⟨b,off,none⟩) m q):=by have:=zm s.o 1 _ rfl;simpa using this
 have W3:=@J (Fr No w0 D) (a.o.fr.trans N.o (λi hi e=>by have:=a.o.lo p a.o.up;omega))
 have Q:=@J (yP D (.slice (some ⟨b,off,none⟩) m q) bs.length (css.flatMap id)) (by
  have h:=H2.o
  rw[List.flatMap_append] at h
  have K:=(yP.pre h (Nat.le_succ m)).keep N.o (λj e u=>(r.o j (.inr (.inl e))).2 u)
  rwa [←HM.o])
 have O:=@J (yP D fv F.length (F.flatMap zx)) (H1.o.keep N.o (λj e u=>(r.o j (.inl e)).2 u))
 have ST:=J (Qe (w:=D) (p:=p) (fv:=fv) (F:=F) (by have:=zm s.o 0 _ rfl;simpa using this) ⟨a.o.fok,O.o.arg⟩ a.o.fl R.o Q.o.arg I.o.1 I.o.2.1 (λi d cs a1 a2=>(I.o.2.2 i d cs a1 a2).keep W3.o) (by have:=HM.o;omega))
 have⟨T,V⟩:=tZ2
 go_upto_region 7 with((first|(clear T;go_at_call 25;refine ST.o.mono ?_;rintro e w4 ⟨aq,au,rfl,f4,s1,s2,l4⟩;have H:=J f4;have S1:=J s1;have S2:=J s2;have L4:=J l4;have B4:=J (f4.obj s.o id);obtain⟨za,zc,rfl⟩:=s1.arg.form;obtain⟨Y,Z,rfl⟩:=s2.arg.form;clear f4 s1 s2 l4)|((with_reducible refine zr ?_);clear V;refine ze rfl (zy (ty:=54) (b:=p) (off:=2) (cs:=[.slice za S'.length zc,.slice Y (zJ bs).length Z]) rfl rfl rfl (XQ B4.o) infoState Jd) ?_));go_frame)
 have t:=zv p [.slice za S'.length zc,.slice Y (zJ bs).length Z] 2 w4
 have ad:=J (zfS (x:=.slice za S'.length zc) (y:=.slice Y (zJ bs).length Z) B4.o)
 have F5:=@J (Fr (λj=>j=p) w _) ((N.o.trans0 H.o).trans t (λ_ _ e=>e))
 have L:=J (t.obj (H.o.obj aa.o id) (λe=>by have:=E.o;omega))
 have ai:=J (zm (t.obj (H.o.obj M.o id) (λe=>by have:=E.o;omega)))
 have af:=J ((Q.o.keep H.o (λ_ _=>id)).keep t (λj e u=>(r.o j (.inr (.inl e))).2 u))
 have ae:=J ((O.o.keep H.o (λ_ _=>id)).keep t (λj e u=>(r.o j (.inl e)).2 u))
 have P3:=@J (p<D.heap.size∧w.heap.size≤D.heap.size∧D.heap.size≤w4.heap.size) (⟨yu s.o,N.o.size,H.o.size⟩)
 have aj:=J (S1.o.keep t (λj e u=>by have:=L4.o j (.inl e);have:=P3.o;omega))
 have ak:=J (S2.o.keep t (λj e u=>by have:=L4.o j (.inr e);have:=P3.o;omega))
 have L5:=@J (∀j,(Value.slice za S'.length zc).ownBlock=some j∨(Value.slice Y (zJ bs).length Z).ownBlock=some j→w.heap.size<j∧j<w4.heap.size) (λj e=>⟨by have:=L4.o j e;have:=yu M.o;omega,e.elim (λe=>S1.o.lt e) (λe=>S2.o.lt e)⟩)
 have Z5:=J t.size
 clear t c3
 generalize w4.setCells p 2 [.slice za S'.length zc,.slice Y (zJ bs).length Z]=w5 at*
 have⟨T,V⟩:=tZ2
 go_wp2_with ((first|((with_reducible refine zt ?_);clear T;refine ziS rfl rfl rfl ai.o rfl ?_)|((with_reducible refine zr ?_);clear V;refine ze rfl (zy (ty:=36) (b:=w.heap.size) (off:=0) (cs:=[.int .u64 d.blk.tag,.slice c d.blk.pay.length g,.slice k d.blk.txs.length o]) rfl rfl rfl (zM L.o (le_refl 3)) xg jV) ?_));go_frame)
 have A:=zv w.heap.size [.int .u64 d.blk.tag,.slice c d.blk.pay.length g,.slice k d.blk.txs.length o] 0 w5
 have F6:=F5.o.trans A (λi hi e=>by omega)
 refine bodyPost_ret (zR (P:=prog) (fn:=Tryz.f13) rfl _ rfl (yE L.o rfl) uB rB xg rfl) rfl ⟨_,rfl,BQ.o,F6,λj=>U j∨(w.heap.size<j∧j<w4.heap.size),S',?_,λj e=>e.imp id (λe=>Nat.le_of_lt e.1)⟩
 have NG:∀ {v:Value} {n:Nat} {xs:List Value},yP w5 v n xs→(∀j,v.ownBlock=some j→j≠w.heap.size)→yP (w5.setCells w.heap.size 0 [.int .u64 d.blk.tag,.slice c d.blk.pay.length g,.slice k d.blk.txs.length o]) v n xs:=λh hn=>h.keep A (λj e u=>hn j e u)
 have UL:∀j,U j→j≠w.heap.size:=λj u e=>by have:=a.o.hi j u;omega
 refine {ex:=⟨fv,.slice (some ⟨b,off,none⟩) m q,_,_,css,A.obj ad.o (λe=>by have:=E.o;omega),NG ae.o (λj e=>UL j (r.o j (.inl e)).1),NG af.o (λj e=>UL j (r.o j (.inr (.inl e))).1),I.o.1,I.o.2.1,I.o.2.2,NG aj.o (λj e=>by have:=L5.o j (.inl e);omega),NG ak.o (λj e=>by have:=L5.o j (.inr e);omega),?_⟩,up:=.inl a.o.up,lo:= ?_,hi:= ?_,fr:= ?_,fok:=a.o.fok,fl:=a.o.fl,hist:=R.o}
 ·rintro j (e|e|e|e)
  ·exact⟨.inl (r.o j (.inl e)).1,(r.o j (.inl e)).2⟩
  ·exact⟨.inl (r.o j (.inr (.inl e))).1,(r.o j (.inr (.inl e))).2⟩
  ·have h:=L5.o j (.inl e)
   exact⟨.inr h,by have:=E.o;omega⟩
  ·have h:=L5.o j (.inr e)
   exact⟨.inr h,by have:=E.o;omega⟩
 ·intro j e
  rcases e with e|e
  ·exact a.o.lo j e
  ·have:=a.o.fr.size;omega
 ·intro j e
  have:=A.size
  have:=Z5.o
  have:=P3.o
  rcases e with e|e
  ·have:=a.o.hi j e;omega
  ·omega
 ·exact a.o.fr.trans F6 (λi hi e=>by have:=a.o.lo p a.o.up;omega)
end
theorem zgw:ElT prog 49 103 66 80 (.agg (zw QI).toArray):=⟨yQ,xR,rfl,by decide,by decide⟩
theorem zbp:ElT prog 52 40 32 32 (.agg (zl z7).toArray):=⟨jS,qW,rfl,by decide,by decide⟩
theorem zcv {S:List zh} (ok:∀c∈S,c.ok):(S.flatMap zw).length=S.length*66:=qU zw 66 S (λx a=>yv (ok x a))
theorem zdT {S:List zh}:∀u∈S.flatMap zw,u.oneCell'=true:=λu a=>by
 obtain⟨x,_,b⟩:=List.mem_flatMap.1 a
 exact yz u b
theorem zht (a:Option Addr) (n c:Nat) (w:World):(Instr.build 51 #[(0,.slice a n c)]).run prog w=.ok (.agg [.slice a n c].toArray) w:=by kernel_rfl
theorem ziD:∃d,prog.underlying 51=some d∧d.isRow=true:=vq (by kernel_rfl)
theorem ziE:(prog.info? 51).map (·.size)=some 1:=by kernel_rfl
theorem XY (a b:Option Addr) (n c m d:Nat) (w:World):(Instr.build 54 #[(0,.agg [.slice a n c].toArray),(1,.slice b m d)]).run prog w=.ok (.agg [.slice a n c,.slice b m d].toArray) w:=by kernel_rfl
theorem YY (w:World):(zeroValue 54).run prog w=.ok (.agg #[.slice none 0 0,.slice none 0 0]) w:=by kernel_rfl
def zhl (w:World) (S:List zh) (e:Ending) (w':World):Prop:=
 ∃q a c,e=.returned (.pointer (some ⟨q,0,none⟩))∧Fr No w w'∧w.heap.size≤q∧w'.heap[q]? =some (.cells #[.slice a S.length c] 51 (0,0))∧w'.ownsRow w.heap.size 103 66 (.slice a S.length c) S.length (S.flatMap zw)
theorem Jt {w:World} {p o:Nat} {l:Value} {S:List zh} (n:w.cell? ⟨p,o,none⟩=some l) (f:yP w l S.length (S.flatMap zw)) (ok:∀c∈S,c.ok) (L:S.length≤100000):
  Calls prog 35 #[.pointer (some ⟨p,o,none⟩)] w (zhl w S):=by
 obtain⟨I,K,rfl⟩:=f.arg.form
 obtain⟨D,F,d,g,a,q⟩:=jZ (P:=prog) (w:=w) zgw w.heap.size (le_refl _)
 have z:=a.cell n id
 obtain⟨E,h,b,r,m,B⟩:=qT (P:=prog) F w.heap.size 49 49 103 66 80 _ yQ xR rfl (by decide) D 0 [] g _ S.length _ (f.keep a (λ_ _=>id)) (zcv ok) zdT (by omega) (by unfold maxLen;omega) a.size
 have u:=J d
 have s:=J b
 have k:=@J (h.ownsRow w.heap.size 103 66 E S.length (S.flatMap zw)) (by simpa using r)
 have j:=@J (Fr No w h) (a.trans m (λi hi e=>by have:=q i e;omega))
 obtain⟨G,H,rfl⟩:=k.o.slice.arg.form
 obtain⟨M,N,rfl⟩:=g.slice.arg.form
 clear n f d g a q b r m B
 go_enter Tryz.func35,Tryz.ntmps35
 have⟨v,x,y⟩:=tZ3
 go_wp2_with (((with_reducible refine zt ?_);first|(clear v;refine zg rfl (qG (t:=49) (vs:=[]) rfl rfl u.o) ?_)|(clear x;at_builtin;refine zk rfl rfl rfl rfl s.o ?_)|(clear y;refine zg rfl (yl (t:=51) rfl rfl (zht _ _ _ _)) ?_));go_frame)
 go_ret
 exact⟨_,G,H,rfl,j.o.alloc _,j.o.size,zS h _,k.o.alloc _⟩
structure Pg (kb w:World) (S:List zh) (C:Option (Nat×Value)) (A:Option (Value×Nat×List Value)) (Q:Option Nat):Prop where
 fr:Fr No kb w
 c:∀q v,C=some (q,v)→kb.heap.size≤q∧w.heap[q]? =some (.cells #[v] 51 (0,0))∧w.ownsRow kb.heap.size 103 66 v S.length (S.flatMap zw)
 a:∀v n xs,A=some (v,n,xs)→w.ownsRow kb.heap.size 40 32 v n xs
 q:∀q,Q=some q→kb.heap.size≤q∧w.heap[q]? =some (.cells #[.slice none 0 0,.slice none 0 0] 54 (0,0))
 ca:∀q v u n xs j,C=some (q,v)→A=some (u,n,xs)→u.ownBlock=some j→j≠q∧v.ownBlock≠some j
 cq:∀q v r,C=some (q,v)→Q=some r→v.ownBlock≠some r
 aq:∀u n xs r,A=some (u,n,xs)→Q=some r→u.ownBlock≠some r
section
variable {kb w w':World} {S:List zh} {C:Option (Nat×Value)} {A:Option (Value×Nat×List Value)} {Q:Option Nat}
theorem Pg.start (kb:World) (S:List zh):Pg kb kb S none none none:=⟨Fr.refl _ _,by simp,by simp,by simp,by simp,by simp,by simp⟩
theorem Pg.keep (h:Pg kb w S C A Q) (f:Fr No w w'):Pg kb w' S C A Q:={h with
 fr:=h.fr.trans0 f
 c:=λq v e=>⟨(h.c q v e).1,f.obj (h.c q v e).2.1 id,zf (h.c q v e).2.2 f (λ_ _=>id)⟩
 a:=λv n xs e=>zf (h.a v n xs e) f (λ_ _=>id)
 q:=λq e=>⟨(h.q q e).1,f.obj (h.q q e).2 id⟩}
theorem Pg.stepC (h:Pg kb w S none A Q) (f:Fr No w w') {q:Nat} (s:w.heap.size≤q) (o:w'.heap[q]? =some (.cells #[v] 51 (0,0))) (g:w'.ownsRow w.heap.size 103 66 v S.length (S.flatMap zw)):Pg kb w' S (some (q,v)) A Q:=by
 have k:=h.keep f
 have p:=h.fr.size
 refine {k with c:= ?_,ca:= ?_,cq:= ?_}
 ·intro i l e
  cases e
  exact⟨by omega,o,qs g p⟩
 ·intro i l u n xs j a b d
  cases a
  have m:=((h.a u n xs b).lt j d).2
  exact⟨by omega,λe=>by have:=(g.lt j e).1;omega⟩
 ·intro i l r a b d
  cases a
  have m:=(g.lt r d).1
  have:=yu (h.q r b).2
  omega
theorem Pg.stepA (h:Pg kb w S C none Q) (f:Fr No w w') {xs:List Value} (q:w'.ownsRow kb.heap.size 40 32 v n xs) (l:∀j,v.ownBlock=some j→w.heap.size≤j):Pg kb w' S C (some (v,n,xs)) Q:=by
 have k:=h.keep f
 refine {k with a:= ?_,ca:= ?_,aq:= ?_}
 ·intro i m b e
  cases e
  exact q
 ·intro o i u m b j c d g
  cases d
  have p:=l j g
  have s:=yu (h.c o i c).2.1
  exact⟨by omega,λe=>by have:=((h.c o i c).2.2.lt j e).2;omega⟩
 ·intro u m b r c d g
  cases c
  have p:=l r g
  have:=yu (h.q r d).2
  omega
theorem Pg.stepP {v o:Value} {n s:Nat} {xs l:List Value} (h:Pg kb w S C (some (v,n,xs)) Q) (f:Fr (λj=>v.ownBlock=some j) w w') (y:w'.ownsRow kb.heap.size 40 32 o s l) (p:∀j,o.ownBlock=some j→v.ownBlock=some j∨w.heap.size≤j):Pg kb w' S C (some (o,s,l)) Q:=by
 have x:=(h.a v n xs rfl).lt
 refine {fr:=h.fr.trans f (λi hi e=>by have:=(x i e).1;omega),c:= ?_,a:= ?_,q:= ?_,ca:= ?_,cq:=h.cq,aq:= ?_}
 ·intro q u e
  obtain⟨a,b,c⟩:=h.c q u e
  exact⟨a,f.obj b (λd=>(h.ca q u v n xs q e rfl d).1 rfl),zf c f (λj d k=>(h.ca q u v n xs j e rfl k).2 d)⟩
 ·intro u m t e
  cases e
  exact y
 ·intro q e
  exact⟨(h.q q e).1,f.obj (h.q q e).2 (λd=>h.aq v n xs q rfl e d)⟩
 ·intro q u u2 m t j g d k
  cases d
  rcases p j k with h1|h1
  ·exact h.ca q u v n xs j g rfl h1
  ·have z:=yu (h.c q u g).2.1
   exact⟨by omega,λe=>by have:=((h.c q u g).2.2.lt j e).2;omega⟩
 ·intro u m t r g d k
  cases g
  rcases p r k with h1|h1
  ·exact h.aq v n xs r rfl d h1
  ·have:=yu (h.q r d).2;omega
theorem Pg.stepQ (h:Pg kb w S C A none):Pg kb (w.alloc (.cells #[.slice none 0 0,.slice none 0 0] 54)) S C A (some w.heap.size):=by
 have k:=h.keep ((frN w).alloc (.cells #[.slice none 0 0,.slice none 0 0] 54))
 refine {k with q:= ?_,cq:= ?_,aq:= ?_}
 ·intro q e
  cases e
  exact⟨h.fr.size,zS w _⟩
 ·intro q v r a b c
  cases b
  have:=((h.c q v a).2.2.lt _ c).2
  omega
 ·intro u n xs r a b c
  cases b
  have:=((h.a u n xs a).lt _ c).2
  omega
theorem Pg.sx {q r:Nat} {v u:Value} {Ks:List zY} (h:Pg kb w S (some (q,v)) (some (u,Ks.length,Ks.flatMap zl)) (some r)) (ok:∀c∈S,c.ok) (l:∀k∈Ks,xU k) (m:qg S):
  SX kb (w.setCells r 0 [v,u]) r (λj=>(j=r∨v.ownBlock=some j)∨u.ownBlock=some j) S Ks∧Fr No kb (w.setCells r 0 [v,u]):=by
 obtain⟨c1,c2,n⟩:=h.c q v rfl
 obtain⟨t,x⟩:=h.q r rfl
 have g:=zv r [v,u] 0 w
 have b:v.ownBlock≠some r:=h.cq q v r rfl rfl
 have d:u.ownBlock≠some r:=h.aq u _ _ r rfl rfl
 have f:Fr No kb (w.setCells r 0 [v,u]):=h.fr.trans g (λi hi e=>by omega)
 have s:(w.setCells r 0 [v,u]).heap[r]? =some (.cells #[v,u] 54 (0,0)):=by
  have o:=heap_setCell_same w r 0 _ _ v x
  have p:=heap_setCell_same _ r 1 _ _ u o
  simpa[World.setCells] using p
 refine⟨⟨⟨u,_,⟨⟨v,s,n.slice.keep g (λj e a=>b (a▸e)),rfl,b⟩,?_,f,ok⟩,zf (h.a u _ _ rfl) g (λj e a=>d (a▸e)),?_,rfl⟩,l,m⟩,f⟩
 ·rintro j (rfl|e)
  ·exact t
  ·exact(n.lt j e).1
 ·rintro j e (rfl|a)
  ·exact d e
  ·exact(h.ca q v u _ _ j rfl rfl e).2 a
end
end Go.Proofs.YtmpamcnlineceaaGreatDoor
