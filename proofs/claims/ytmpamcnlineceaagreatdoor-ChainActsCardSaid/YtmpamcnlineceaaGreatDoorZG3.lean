/- A region whose order of evaluation is open, walked once in the order of the text, where the last operation waits for all others: behind it nothing is asked of the world. -/
import Derived.Test.YtmpamcnlineceaaGreatDoorProg
import Derived.Lib.Hide
import Derived.Deep.Cut
import Derived.Maps.RangeWalk
import Derived.Tactics2
import Derived.Laws.IdiomCopy
import Derived.Test.YtmpamcnlineceaaGreatDoorZG1
import Derived.Test.YtmpamcnlineceaaGreatDoorZG2
set_option linter.unusedVariables false
set_option linter.unusedSimpArgs false
set_option linter.unnecessarySimpa false
set_option linter.all false
set_option maxRecDepth 20000
set_option maxHeartbeats 16000000
namespace Go
section
variable {P:Program} {ops:Array Oper} {S:World→Prop}
def vZ (P:Program) (ops:Array Oper) (Q:Exit→Act→World→Prop) (S:World→Prop) (m:Nat):Nat→Array Bool→Act→World→Prop
 |0,listed,a,w=>Region.ready .any ops listed=[]∧Q .normal a w
 |fuel+1,listed,a,w=>
  (Region.ready .any ops listed=[]→Q .normal a w)∧
  ∀i∈Region.ready .any ops listed,wpOp P ops Q i (λa' w'=>((listed.setIfInBounds i true).getD m false=false→S w')∧vZ P ops Q S m fuel (listed.setIfInBounds i true) a' w') a w
theorem ZK {Q:Exit→Act→World→Prop} {m:Nat}:∀(fuel:Nat) (listed:Array Bool) (a:Act) (w:World),vZ P ops Q S m fuel listed a w→wpAny P .any ops Q fuel listed a w
 |0,_,_,_,h=>h
 |fuel+1,_,_,_,h=>⟨h.1,λi hi=>wpOp_mono (λc w' d=>ZK fuel _ c w' d.2) (h.2 i hi)⟩
def Xl (ops:Array Oper) (m:Nat):Bool:=(List.range ops.size).all λi=>i==m||YW ops ops.size m i
theorem Vy {m:Nat} (h:Xl ops m=true) {listed:Array Bool} (g:jU ops listed) (d:listed.size=ops.size) (l:∀k,Region.waitsFor .any ops m k=true→listed.getD k false=true) {i:Nat} (hi:i<ops.size) (c:i≠m):listed.getD i true=true:=by
 have e:=List.all_eq_true.1 h i (List.mem_range.2 hi)
 simp only[Bool.or_eq_true,beq_iff_eq] at e
 have f:=jX g _ m i (e.resolve_left c) l
 have:i<listed.size:=by rw[d];exact hi
 simp[this] at f⊢
 exact f
theorem zbY {listed:Array Bool} {m:Nat} (h:m∈Region.ready .any ops listed):∀k,Region.waitsFor .any ops m k=true→listed.getD k false=true:=λk l=>by
 obtain⟨_,o,n,c⟩:=mem_ready.1 h
 obtain⟨p,d,e,i,g,f⟩:=Region.waitsFor_spec l
 rw[n] at d
 cases d
 exact f▸c e i g
theorem ZJ {Q:Exit→Act→World→Prop} {m:Nat} (g:Xl ops m=true) {i:Nat} {x:Oper} {v:Value} (hi:ops[i]? =some x) (s:i≠m) (q:∀(j:Nat) (o:Oper) cs b,ops[j]? =some o→o.op≠.select cs b)
  (hQ:∀c a w,Q (.panic c) (a.put x.dst v) w→Q (.panic c) a w):
  ∀(fuel:Nat) (listed:Array Bool) (a:Act) (w:World),listed.size=ops.size→jU ops listed→
   (∀j y,ops[j]? =some y→j≠i→listed.getD j true=false→(∀e∈y.after,Region.binds .any e=true→e.on≠i)→x.apart ops y=true)→
   i∈Region.ready .any ops listed→YieldsIf P ops S x v a→S w→
   vZ P ops Q S m fuel (listed.setIfInBounds i true) (a.put x.dst v) w→vZ P ops Q S m (fuel+1) listed a w:=by
 intro fuel
 induction fuel with
 |zero=>
  intro listed a w l C _ u I hS H
  refine⟨λh=>(by rw[h] at u;cases u),λj A=>?_⟩
  by_cases hji:j=i
  ·subst hji;exact I.wpOp hi hS ⟨λ_=>hS,H⟩
  ·have:=ready_mono A hji
   rw[H.1] at this
   cases this
 |succ fuel ih=>
  intro listed a w l C f u I hS H
  refine⟨λh=>(by rw[h] at u;cases u),λj A=>?_⟩
  by_cases hji:j=i
  ·subst hji;exact I.wpOp hi hS ⟨λ_=>hS,H⟩
  ·have z:=H.2 j (ready_mono A hji)
   obtain⟨p,y,t,B⟩:=mem_ready.1 A
   have d:=(mem_ready.1 u).1
   have r:i<ops.size:=(Array.getElem?_eq_some_iff.1 hi).1
   have O:j≠m:=λe=>by
    subst e
    have:=Vy g C l (zbY A) r s
    rw[d] at this
    cases this
   have E:∀e∈y.after,Region.binds .any e=true→e.on≠i:=λe M L N=>by
    have z:=B e M L
    rw[N] at z
    have h':i<listed.size:=by rw[l];exact r
    simp[h'] at d z
    rw[d] at z
    cases z
   have h2:=wpOp_putIf t (f j y t hji p E) (λcs b=>q i x cs b hi) (λcs b=>q j y cs b t) hQ I z
   have n:∀k ok,ops[k]? =some ok→k≠i→(listed.setIfInBounds j true).getD k true=false→
     (∀e∈ok.after,Region.binds .any e=true→e.on≠i)→x.apart ops ok=true:=λk ok R T F W=>by
    refine f k ok R T ?_ W
    by_cases hjk:j=k
    ·subst hjk;exact p
    ·rw[getD_set_ne true hjk] at F;exact F
   have U:i∈Region.ready .any ops (listed.setIfInBounds j true):=ready_mono u (Ne.symm hji)
   have D:((listed.setIfInBounds i true).setIfInBounds j true).getD m false=false:=by
    rw[getD_set_ne false O,getD_set_ne false s]
    cases hml:listed.getD m false with
    |false=>rfl
    |true=>
     have V:∀k,Region.waitsFor .any ops m k=true→listed.getD k false=true:=λk R=>by
      obtain⟨om,X,e,M,L,Y⟩:=Region.waitsFor_spec R
      exact Y▸C m om X hml e M L
     have:=Vy g C l V r s
     rw[d] at this
     cases this
   refine wpOp_mono (λZ w' G=>⟨λ_=>G.2.1 D,ih (listed.setIfInBounds j true) Z w' (by simp[l]) (C.set A) n U G.1 (G.2.1 D) ?_⟩) h2
   rw[Array.setIfInBounds_comm _ _ hji]
   exact G.2.2
def Z9 (P:Program) (ops:Array Oper) (eff:List Nat) (S:World→Prop) (Q:Act→World→Prop):List Nat→Act→World→Prop
 |[],a,w=>Q a w
 |i::rest,a,w=>∃o,ops[i]? =some o∧
   (if eff.contains i=true∧Region.wanted o (yielded ops a.tmps)=true then o.wp P a w (λa' w'=>(rest≠[]→S w')∧Z9 P ops eff S Q rest a' w') NoQ
    else ∃v,YieldsIf P ops S o v a∧Z9 P ops eff S Q rest (a.put o.dst v) w)
theorem zeg (n:∀(j:Nat) (o:Oper) cs b,ops[j]? =some o→o.op≠.select cs b) (z:J5 ops=true) {eff:List Nat} {Q:Act→World→Prop} {j:Nat} {c:Oper} (M:ops[j]? =some c):
  ∀(L:List Nat) (a:Act) (w:World),S w→j∈L→L.Nodup→(∀i∈L,Region.waitsFor .any ops j i=false)→(∀i∈L,i<j→Region.waitsFor .any ops i j=false)→
   (∀i∈L,i≠j→i<j∨True)→L.Pairwise (· < ·)→(eff.contains j=false∨Region.wanted c (yielded ops a.tmps)=false)→
   Z9 P ops eff S Q L a w→∃v,YieldsIf P ops S c v a∧Z9 P ops eff S Q (L.erase j) (a.put c.dst v) w:=by
 intro L
 induction L with
 |nil=>intro a w _ W;cases W
 |cons h L ih=>
  intro a w hS W X G I _ B k H
  obtain⟨g,d,H⟩:=H
  by_cases hhj:h=j
  ·subst hhj
   rw[M] at d
   cases d
   rw[if_neg (by rintro⟨e1,e2⟩;rcases k with e|e<;>simp_all)] at H
   obtain⟨v,r,C⟩:=H
   exact⟨v,r,by simpa using C⟩
  ·have t:j∈L:=by
    rcases List.mem_cons.1 W with e|e
    ·exact absurd e.symm hhj
    ·exact e
   have V:h<j:=(List.pairwise_cons.1 B).1 j t
   have q:Region.waitsFor .any ops j h=false:=G h (by simp)
   have p:Region.waitsFor .any ops h j=false:=I h (by simp) V
   have aj:c.apart ops g=true:=qf z M d (λe=>hhj e.symm) p q
   have ah:g.apart ops c=true:=qf z d M hhj q p
   obtain⟨p1,p2,p3⟩:=Oper.apart_spec aj
   have F:=λcs b=>n j c cs b M
   have E:=λcs b=>n h g cs b d
   have back:∀ {f:Act} {v:Value},ZV ops g.dst a f→YieldsIf P ops S c v f→YieldsIf P ops S c v a:=fun {f v} C r=>
    let ⟨r1,r2⟩:=C c F p3
    r.of_same r1.symm r2.symm
   have x:∀(f:Act) (w':World),S w'→ZV ops g.dst a f→Z9 P ops eff S Q L f w'→∃v,YieldsIf P ops S c v f∧Z9 P ops eff S Q (L.erase j) (f.put c.dst v) w':=λf w' l C T=>
    ih f w' l t (List.nodup_cons.1 X).2 (λi hi=>G i (by simp[hi])) (λi hi=>I i (by simp[hi])) (λ_ _ _=>.inr trivial) (List.pairwise_cons.1 B).2 (k.imp id (λe=>(C c F p3).2.trans e)) T
   have R:(h::L).erase j=h::L.erase j:=by rw[List.erase_cons_tail];simpa using hhj
   rw[R]
   split at H
   ·rename_i hc
    have H2:=zdx (ops:=ops) H
    have m:L≠[]:=List.ne_nil_of_mem t
    obtain⟨a0,w0,⟨⟨y,U⟩,D⟩⟩:=zbD H2
    have O:=y m
    obtain⟨v,Y,_⟩:=x a0 w0 O D U
    have r:=back D Y
    refine⟨v,r,g,d,?_⟩
    rw[if_pos ⟨hc.1,by rw[wanted_put g a c.dst v p1];exact hc.2⟩]
    refine zdw aj E (Oper.wp_mono (λf w' ⟨⟨hS'',s⟩,hr'⟩=>?_) H2)
    have l:=hS'' m
    obtain⟨v',u,A⟩:=x f w' l hr' s
    have:v'=v:=YieldsIf.uniq hS (back hr' u) r
    subst this
    exact⟨λ_=>l,A⟩
   ·rename_i hc
    obtain⟨N,Z,T⟩:=H
    obtain⟨v,u,s⟩:=x _ w hS (ZV.put a g.dst N) T
    have r:=back (ZV.put a g.dst N) u
    refine⟨v,r,g,d,?_⟩
    rw[if_neg (by rw[wanted_put g a c.dst v p1];exact hc)]
    obtain⟨r1,r2⟩:=ZV.put (ops:=ops) a c.dst v g E p1
    exact⟨N,Z.of_same r1 r2,by rw[←Act.put_comm a N v (Oper.apart_spec ah).2.1];exact s⟩
theorem zcQ {eff:List Nat} {m:Nat} (hok:Qc ops eff=true) (O:Xl ops m=true) (hm:m+1=ops.size) {Q:Exit→Act→World→Prop} (hQ:∀c a d v w,Q (.panic c) (Act.put a d v) w→Q (.panic c) a w):
  ∀(n:Nat) (listed:Array Bool) (a:Act) (w:World),listed.size=ops.size→jU ops listed→(unl ops listed).length=n→(listed.getD m false=false→S w)→
   Z9 P ops eff S (Q .normal) (unl ops listed) a w→vZ P ops Q S m n listed a w:=by
 simp only[Qc,Bool.and_eq_true] at hok
 obtain⟨⟨⟨⟨az,ak⟩,ao⟩,av⟩,al⟩:=hok
 have aa:=Region.noSelect_spec az
 have W:∀i j,i<ops.size→Region.waitsFor .any ops i j=true→j<i:=λi j hi hw=>by
  obtain⟨oi,p,e,B,T,N⟩:=Region.waitsFor_spec hw
  have D:=List.all_eq_true.1 av i (List.mem_range.2 hi)
  rw[p] at D
  have h3:=Array.all_eq_true'.1 D e B
  simp only[T,Bool.not_true,Bool.false_or,decide_eq_true_eq] at h3
  have h4:=List.all_eq_true.1 (List.all_eq_true.1 ao i (List.mem_range.2 hi)) j (List.mem_range.2 (N▸h3))
  simpa[hw] using h4
 intro n
 induction n with
 |zero=>
  intro listed a w l hc z hS H
  have Y:unl ops listed=[]:=List.eq_nil_of_length_eq_zero z
  rw[Y] at H
  refine⟨?_,H⟩
  by_cases hr:Region.ready .any ops listed=[]
  ·exact hr
  ·obtain⟨j,t⟩:=List.exists_mem_of_ne_nil _ hr
   obtain⟨F,o,ho,_⟩:=mem_ready.1 t
   have:j∈unl ops listed:=List.mem_filter.2 ⟨List.mem_range.2 (Array.getElem?_eq_some_iff.1 ho).1,by rw[F];rfl⟩
   rw[Y] at this
   cases this
 |succ n ih=>
  intro listed a w l hc z aq H
  have f:∀ {j},j∈unl ops listed↔j<ops.size∧listed.getD j true=false:=fun {j}=>by
   unfold unl
   rw[List.mem_filter,List.mem_range]
   simp
  have ai:∀ {j},j∈Region.ready .any ops listed→j∈unl ops listed:=fun {j} t=>by
   obtain⟨F,o,ho,_⟩:=mem_ready.1 t
   exact f.2 ⟨(Array.getElem?_eq_some_iff.1 ho).1,F⟩
  have next:∀j,j∈Region.ready .any ops listed→∀U w',((listed.setIfInBounds j true).getD m false=false→S w')→Z9 P ops eff S (Q .normal) ((unl ops listed).erase j) U w'→vZ P ops Q S m n (listed.setIfInBounds j true) U w':=λj t U w' R E=>by
   refine ih _ U w' (by simp[l]) (hc.set t) ?_ R (by rw[vW l];exact E)
   rw[vW l,List.length_erase_of_mem (ai t),z]
   rfl
  obtain⟨i,L,hiL⟩:∃i L,unl ops listed=i::L:=by
   cases hu:unl ops listed with
   |nil=>rw[hu] at z;cases z
   |cons i L=>exact⟨i,L,rfl⟩
  have C:=Yi (ops:=ops) listed
  have M:listed.getD m false=false:=by
   cases hml:listed.getD m false with
   |false=>rfl
   |true=>
    have ax:∀k,Region.waitsFor .any ops m k=true→listed.getD k false=true:=λk s=>by
     obtain⟨om,aA,e,B,T,N⟩:=Region.waitsFor_spec s
     exact N▸hc m om aA hml e B T
    have aw:i∈unl ops listed:=by rw[hiL];simp
    have V:=f.1 aw
    by_cases him:i=m
    ·subst him
     have h6:=V.2
     have:i<listed.size:=by rw[l];exact V.1
     simp[this] at h6 hml
     rw[h6] at hml
     cases hml
    ·have:=Vy O hc l ax V.1 him
     rw[V.2] at this
     cases this
  have hS:=aq M
  have ag:m∈unl ops listed:=f.2 ⟨by omega,by
   have:m<listed.size:=by rw[l];omega
   simp[this] at M⊢
   exact M⟩
  have au:i∈unl ops listed:=by rw[hiL];simp
  have hi:=f.1 au
  have X:∀k,k∈unl ops listed→i≤k:=λk s=>by
   rw[hiL] at s C
   rcases List.mem_cons.1 s with rfl|s
   ·exact Nat.le_refl _
   ·exact Nat.le_of_lt ((List.pairwise_cons.1 C).1 k s)
  have A:∀k,k<i→listed.getD k false=true:=λk s=>by
   cases E:listed.getD k true with
   |false=>exact absurd (X k (f.2 ⟨Nat.lt_trans s hi.1,E⟩)) (by omega)
   |true=>
    have:k<listed.size:=by rw[l];exact Nat.lt_trans s hi.1
    simp[this] at E⊢
    exact E
  rw[hiL] at H
  obtain⟨oi,p,H⟩:=H
  have I:i∈Region.ready .any ops listed:=mem_ready.2 ⟨hi.2,oi,p,λe B T=>
   A _ (W i e.on hi.1 (by
    unfold Region.waitsFor
    rw[p]
    exact Array.any_eq_true'.2 ⟨e,B,by simp[T]⟩))⟩
  have an:Region.ready .any ops listed≠[]:=λF=>by rw[F] at I;cases I
  have ad:(unl ops listed).erase i=L:=by rw[hiL];simp
  have g:∀j,j∈Region.ready .any ops listed→∀k,k∈unl ops listed→Region.waitsFor .any ops j k=false:=λj t k s=>by
   obtain⟨_,oj,q,G⟩:=mem_ready.1 t
   refine xD q λe B T ar=>?_
   have h1:=G e B T
   rw[ar] at h1
   have D:=(f.1 s).2
   have af:k<listed.size:=by rw[l];exact(f.1 s).1
   simp[af] at h1 D
   rw[h1] at D
   cases D
  split at H
  ·rename_i hcond
   refine⟨λF=>absurd F an,λj t=>?_⟩
   by_cases ae:j=i
   ·subst ae
    unfold wpOp
    rw[p]
    simp only[hcond.2,if_true]
    refine .inl ?_
    have aj:∀w',(L≠[]→S w')→((listed.setIfInBounds j true).getD m false=false→S w'):=λw' F h1=>F (λe=>by
     rw[hiL,e] at ag
     simp at ag
     subst ag
     have:m<listed.size:=by rw[l];omega
     simp[this] at h1)
    have H':=Oper.wp_mono (K':=λU w'=>((listed.setIfInBounds j true).getD m false=false→S w')∧vZ P ops Q S m n (listed.setIfInBounds j true) U w') (λU w' ⟨R,E⟩=>⟨aj w' R,next j t U w' (aj w' R) (by rw[ad];exact E)⟩) H
    unfold Oper.wp at H'⊢
    generalize (execOp a.eval oi).run P w=r at*
    cases r with
    |ok m w'=>
     cases m<;>simp only[Oper.upon] at H'⊢ <;>first
      |exact H'
      |exact Calls.mono H' (λe aF B=>by
        cases e with
        |returned u=>exact B
        |panicked c=>exact B.elim
        |outgrown=>obtain⟨_,_,hf⟩:=B;exact hf.elim)
    |halt x w'=>cases x<;>simp only[Oper.upon] at H'⊢ <;>exact H'.elim
   ·-- a read that may come up
    obtain⟨_,oj,q,G⟩:=mem_ready.1 t
    have y:=ai t
    have ah:eff.contains j=false:=by
     cases hcj:eff.contains j with
     |false=>rfl
     |true=>
      have h1:=List.all_eq_true.1 al j (by simpa using hcj)
      have D:=List.all_eq_true.1 h1 i (by simpa using hcond.1)
      have aD:=X j y
      simp only[Bool.or_eq_true,decide_eq_true_eq] at D
      have h3:YW ops ops.size j i=true:=by rcases D with D|D<;>first|omega|exact D
      have h4:=jX hc _ j i h3 (λk s=>by
       obtain⟨aE,Z,e,B,T,N⟩:=Region.waitsFor_spec s
       rw[q] at Z
       cases Z
       exact N▸G e B T)
      have af:i<listed.size:=by rw[l];exact hi.1
      have V:=hi.2
      simp[af] at h4 V
      rw[h4] at V
      cases V
    have ab:Z9 P ops eff S (Q .normal) (unl ops listed) a w:=by
     rw[hiL]
     exact⟨oi,p,by rw[if_pos hcond];exact H⟩
    obtain⟨v,hy,E⟩:=zeg aa ak q (unl ops listed) a w hS y (C.imp (λh=>Nat.ne_of_lt h)) (λk s=>g j t k s)
     (λk s aC=>by
      cases hwk:Region.waitsFor .any ops k j with
      |false=>rfl
      |true=>have:=W k j (f.1 s).1 hwk;omega)
     (λ_ _ _=>.inr trivial) C (.inl ah) ab
    exact hy.wpOp q hS ⟨λ_=>hS,next j t _ _ (λ_=>hS) E⟩
  ·rename_i hcond
   obtain⟨v,hy,E⟩:=H
   by_cases him:i=m
   ·subst him
    have hL:L=[]:=by
     cases L with
     |nil=>rfl
     |cons x L'=>
      have hx:x∈unl ops listed:=by rw[hiL];simp
      have h7:=(f.1 hx).1
      rw[hiL] at C
      have:=(List.pairwise_cons.1 C).1 x (by simp)
      omega
    refine⟨λF=>absurd F an,λj t=>?_⟩
    have y:=ai t
    rw[hiL,hL] at y
    simp at y
    subst y
    exact hy.wpOp p hS ⟨λ_=>hS,next j t _ _ (λ_=>hS) (by rw[ad];exact E)⟩
   ·refine ZJ O p him aa (λc a w=>hQ c a oi.dst v w) n listed a w l hc (λj oj q ae aB ay=>?_) I hy hS (next i I _ _ (λ_=>hS) (by rw[ad];exact E))
    have y:=f.2 ⟨(Array.getElem?_eq_some_iff.1 q).1,aB⟩
    exact qf ak p q (λe=>ae e.symm) (xD q ay) (g i I j y)
theorem Qk {id:Nat} {a:Act} {w:World} {Q:Exit→Act→World→Prop} (eff:List Nat) (S:World→Prop) (k:P.follows .mixedOrders=true) (hok:Qc ops eff=true) (m:Nat) (c:Xl ops m=true) (d:m+1=ops.size)
  (hS:S w.drew) (L:List Nat) (g:List.range ops.size=L)
  (h:∀K:Act→World→Prop,Shut (∀a w,Q .normal a w→K a w)→Z9 P ops eff S K L a w.drew):(Code.region id ops true).wp P Q a w:=by
 refine wp_region_noPanic (wp_region_any k (ZK (S:=S) (m:=m) _ _ _ _ ?_))
 have f:unl ops (Array.replicate ops.size false)=List.range ops.size:=by
  unfold unl
  rw[List.filter_eq_self]
  intro i hi
  have:=List.mem_range.1 hi
  simp[this]
 refine zcQ hok c d (λ_ _ _ _ _ h=>h) _ _ a _ (by simp) (λj n l e=>?_) (by rw[f];simp) (λ_=>hS) (by rw[f,g];exact h _ (λ_ _ h=>h))
 by_cases hjs:j<ops.size
 ·simp[hjs] at e
 ·simp[hjs] at e
def qS (P:Program) (ops:Array Oper) (S:World→Prop) (Q:Act→World→Prop):List Bool→List Oper→Act→World→Prop
 |_,[],a,w=>Q a w
 |es,o::rest,a,w=>
   if es.headD false=true∧Region.wanted o (yielded ops a.tmps)=true then o.wp P a w (λa' w'=>(rest≠[]→S w')∧qS P ops S Q es.tail rest a' w') NoQ
    else ∃v,YieldsIf P ops S o v a∧qS P ops S Q es.tail rest (a.put o.dst v) w
theorem Jx {es:List Bool} {K:Act→World→Prop}:∀(l:List Oper) (i:Nat) (a:Act) (w:World),(∀k o,l[k]? =some o→ops[i+k]? =some o)→
  qS P ops S K (es.drop i) l a w→Z9 P ops (X9 es) S K (List.range' i l.length) a w
 |[],i,a,w,_,h=>h
 |o::rest,i,a,w,ho,h=>by
  have n:ops[i]? =some o:=ho 0 o rfl
  have c:∀k d,rest[k]? =some d→ops[i+1+k]? =some d:=λk d q=>by
   have:=ho (k+1) d (by simpa using q)
   rwa [show i+1+k=i+(k+1) by omega]
  have p:(es.drop i).headD false=es.getD i false:=by simp[List.getD,List.headD_eq_head?_getD]
  have r:(es.drop i).tail=es.drop (i+1):=by simp[List.tail_drop]
  rw[qS,p,r] at h
  rw[List.length_cons,List.range'_succ]
  refine⟨o,n,?_⟩
  rw[ZY]
  split at h
  ·rename_i hc
   rw[if_pos hc]
   exact Oper.wp_mono (λm w' ⟨hS,f⟩=>⟨λg=>hS (λe=>g (by rw[e];rfl)),Jx rest (i+1) m w' c f⟩) h
  ·rename_i hc
   rw[if_neg hc]
   obtain⟨v,s,f⟩:=h
   exact⟨v,s,Jx rest (i+1) _ w c f⟩
theorem yD {id:Nat} {a:Act} {w:World} {Q:Exit→Act→World→Prop} {l:List Oper} (es:List Bool) (S:World→Prop) (f:P.follows .mixedOrders=true) (hok:Qc l.toArray (X9 es)=true) (m:Nat) (c:Xl l.toArray m=true) (d:m+1=l.toArray.size)
  (hS:S w.drew)
  (h:∀K:Act→World→Prop,Shut (∀a w,Q .normal a w→K a w)→qS P l.toArray S K es l a w.drew):(Code.region id l.toArray true).wp P Q a w:=by
 refine Qk (X9 es) S f hok m c d hS _ rfl (λK hK=>?_)
 have:=Jx (P:=P) (ops:=l.toArray) (S:=S) (es:=es) (K:=K) l 0 a w.drew (λk o e=>by simpa using e) (by simpa using h K hK)
 simpa[List.range_eq_range'] using this
theorem qp {es:List Bool} {K:Act→World→Prop} {a:Act} {w:World} (h:K a w):qS P ops S K es [] a w:=h
theorem ym {es:List Bool} {K:Act→World→Prop} {a:Act} {w:World} {o:Oper} {rest:List Oper}
  (c:Region.wanted o (yielded ops a.tmps)=true) (h:∃v,(∀w,S w→(execOp a.eval o).run P w=.ok (.value v) w)∧qS P ops S K es rest (a.put o.dst v) w):qS P ops S K (false::es) (o::rest) a w:=by
 obtain⟨v,d,h⟩:=h
 rw[qS,if_neg (by simp)]
 exact⟨v,.inl ⟨c,d⟩,h⟩
theorem yn {e:Bool} {es:List Bool} {K:Act→World→Prop} {a:Act} {w:World} {o:Oper} {rest:List Oper}
  (c:Region.wanted o (yielded ops a.tmps)=false) (h:qS P ops S K es rest (a.put o.dst undef) w):qS P ops S K (e::es) (o::rest) a w:=by
 rw[qS,if_neg (by rw[c];simp)]
 exact⟨undef,.inr ⟨c,rfl⟩,h⟩
theorem yf {es:List Bool} {K:Act→World→Prop} {a:Act} {w:World} {o:Oper} {rest:List Oper}
  (f:Region.wanted o (yielded ops a.tmps)=true) (h:∀K',Shut (∀c w',(rest≠[]→S w')→((rest≠[]→S w')→qS P ops S K es rest c w')→K' c w')→o.wp P a w K' NoQ):qS P ops S K (true::es) (o::rest) a w:=by
 rw[qS,if_pos ⟨rfl,f⟩]
 exact h _ (λ_ _ d e=>⟨d,e d⟩)
section
variable {es:List Bool} {K:Act→World→Prop} {a:Act} {w:World} {rest:List Oper} {dst:Option Tmp} {op:Op} {ty:TypeId} {pos:String} {after:Array Edge} {j:Nat} {b:Bool}
theorem zh8 (h:∃v,(∀w,S w→(execOp a.eval {dst:=dst,op:=op,type:=ty,pos:=pos,after:=after,guard:=none}).run P w=.ok (.value v) w)∧qS P ops S K es rest (a.put dst v) w):
  qS P ops S K (false::es) ({dst:=dst,op:=op,type:=ty,pos:=pos,after:=after,guard:=none}::rest) a w:=ym rfl h
theorem zhH (c:yielded ops a.tmps j=some b) (h:∃v,(∀w,S w→(execOp a.eval {dst:=dst,op:=op,type:=ty,pos:=pos,after:=after,guard:=some (j,b)}).run P w=.ok (.value v) w)∧qS P ops S K es rest (a.put dst v) w):
  qS P ops S K (false::es) ({dst:=dst,op:=op,type:=ty,pos:=pos,after:=after,guard:=some (j,b)}::rest) a w:=ym (by simp[Region.wanted,c]) h
theorem zh9 {e c:Bool} (f:yielded ops a.tmps j=some c) (d:c= !b) (h:qS P ops S K es rest (a.put dst undef) w):
  qS P ops S K (e::es) ({dst:=dst,op:=op,type:=ty,pos:=pos,after:=after,guard:=some (j,b)}::rest) a w:=yn (by subst d;simp[Region.wanted,f]) h
theorem zhI {e:Bool} (c:yielded ops a.tmps j=none) (h:qS P ops S K es rest (a.put dst undef) w):
  qS P ops S K (e::es) ({dst:=dst,op:=op,type:=ty,pos:=pos,after:=after,guard:=some (j,b)}::rest) a w:=yn (by simp[Region.wanted,c]) h
theorem zis (h:∀K',Shut (∀c w',(rest≠[]→S w')→((rest≠[]→S w')→qS P ops S K es rest c w')→K' c w')→Oper.wp P {dst:=dst,op:=op,type:=ty,pos:=pos,after:=after,guard:=none} a w K' NoQ):
  qS P ops S K (true::es) ({dst:=dst,op:=op,type:=ty,pos:=pos,after:=after,guard:=none}::rest) a w:=yf rfl h
theorem zh7 (d:yielded ops a.tmps j=some b) (h:∀K',Shut (∀c w',(rest≠[]→S w')→((rest≠[]→S w')→qS P ops S K es rest c w')→K' c w')→Oper.wp P {dst:=dst,op:=op,type:=ty,pos:=pos,after:=after,guard:=some (j,b)} a w K' NoQ):
  qS P ops S K (true::es) ({dst:=dst,op:=op,type:=ty,pos:=pos,after:=after,guard:=some (j,b)}::rest) a w:=yf (by simp[Region.wanted,d]) h
end
end
attribute [irreducible] qS
end Go
namespace Go
section
variable {P:Program} {ops:Array Oper} {S:World→Prop}
def ZR (P:Program) (ops:Array Oper) (S:World→Prop) (Q:Act→World→Prop) (m:Nat):Nat→List Nat→Act→World→Prop
 |0,_,a,w=>Q a w
 |n+1,L,a,w=>
  (∃i o v,i∈L∧i≠m∧m∈L∧qR ops L i=true∧ops[i]? =some o∧YieldsIf P ops S o v a∧ZR P ops S Q m n (L.erase i) (a.put o.dst v) w)∨
  (∀j∈L,qR ops L j=true→∃o,ops[j]? =some o∧Region.wanted o (yielded ops a.tmps)=true∧o.wp P a w (λa' w'=>(j≠m→S w')∧ZR P ops S Q m n (L.erase j) a' w') NoQ)
theorem zcO {m:Nat} (hok:Zz ops=true) (R:Xl ops m=true) {Q:Exit→Act→World→Prop} (hQ:∀c a d v w,Q (.panic c) (Act.put a d v) w→Q (.panic c) a w):
  ∀(n:Nat) (listed:Array Bool) (a:Act) (w:World),listed.size=ops.size→jU ops listed→(unl ops listed).length=n→(m∈unl ops listed→S w)→
   ZR P ops S (Q .normal) m n (unl ops listed) a w→vZ P ops Q S m n listed a w:=by
 simp only[Zz,Bool.and_eq_true] at hok
 obtain⟨⟨⟨av,ai⟩,af⟩,ak⟩:=hok
 have ah:=Region.noSelect_spec av
 have ad:∀(i:Nat) (C:Oper),ops[i]? =some C→∀e∈C.after,Region.binds .any e=true→e.on<ops.size:=λi C g e y G=>by
  have B:=List.all_eq_true.1 ak i (List.mem_range.2 (Array.getElem?_eq_some_iff.1 g).1)
  rw[g] at B
  have h3:=Array.all_eq_true'.1 B e y
  simpa only[G,Bool.not_true,Bool.false_or,decide_eq_true_eq] using h3
 have Z:∀i j,i<ops.size→Region.waitsFor .any ops i j=true→j<i:=λi j hi hw=>by
  obtain⟨C,g,e,y,G,ae⟩:=Region.waitsFor_spec hw
  have h4:=List.all_eq_true.1 (List.all_eq_true.1 af i (List.mem_range.2 hi)) j (List.mem_range.2 (ae▸ad i C g e y G))
  simpa[hw] using h4
 intro n
 induction n with
 |zero=>
  intro listed a w l hc p hS H
  have ab:unl ops listed=[]:=List.eq_nil_of_length_eq_zero p
  refine⟨?_,H⟩
  by_cases hr:Region.ready .any ops listed=[]
  ·exact hr
  ·obtain⟨j,t⟩:=List.exists_mem_of_ne_nil _ hr
   obtain⟨I,o,ho,_⟩:=mem_ready.1 t
   have:j∈unl ops listed:=List.mem_filter.2 ⟨List.mem_range.2 (Array.getElem?_eq_some_iff.1 ho).1,by rw[I];rfl⟩
   rw[ab] at this
   cases this
 |succ n ih=>
  intro listed a w l hc p hS H
  have b:∀ {j},j∈unl ops listed↔j<ops.size∧listed.getD j true=false:=fun {j}=>by
   unfold unl
   rw[List.mem_filter,List.mem_range]
   simp
  have T:∀ {j},j∈Region.ready .any ops listed→j∈unl ops listed:=fun {j} t=>by
   obtain⟨I,o,ho,_⟩:=mem_ready.1 t
   exact b.2 ⟨(Array.getElem?_eq_some_iff.1 ho).1,I⟩
  have next:∀j,j∈Region.ready .any ops listed→∀F w',(j≠m→m∈unl ops listed→S w')→ZR P ops S (Q .normal) m n ((unl ops listed).erase j) F w'→vZ P ops Q S m n (listed.setIfInBounds j true) F w':=λj Y F w' D E=>by
   have t:=T Y
   refine ih _ F w' (by simp[l]) (hc.set Y) ?_ (λhm=>?_) (by rw[vW l];exact E)
   ·rw[vW l,List.length_erase_of_mem t,p]
    rfl
   ·rw[vW l] at hm
    by_cases e:j=m
    ·subst e
     exact absurd hm (List.Nodup.not_mem_erase ((Yi (ops:=ops) listed).imp (λh=>Nat.ne_of_lt h)))
    ·exact D e (List.mem_of_mem_erase hm)
  have f:∀j,j∈Region.ready .any ops listed→∀k,k∈unl ops listed→Region.waitsFor .any ops j k=false:=λj t k z=>by
   obtain⟨_,oj,s,V⟩:=mem_ready.1 t
   refine xD s λe y G aj=>?_
   have M:=V e y G
   rw[aj] at M
   have B:=(b.1 z).2
   have aq:k<listed.size:=by rw[l];exact(b.1 z).1
   simp[aq] at M B
   rw[M] at B
   cases B
  have q:∀i,i∈unl ops listed→qR ops (unl ops listed) i=true→i∈Region.ready .any ops listed:=λi hi N=>by
   have W:=b.1 hi
   obtain⟨C,g⟩:∃o,ops[i]? =some o:=⟨_,Array.getElem?_eq_getElem W.1⟩
   refine mem_ready.2 ⟨W.2,C,g,λe y G=>?_⟩
   have M:=ad i C g e y G
   cases E:listed.getD e.on true with
   |true=>
    have:e.on<listed.size:=by rw[l];exact M
    simp[this] at E⊢
    exact E
   |false=>
    have B:=List.all_eq_true.1 N e.on (b.2 ⟨M,E⟩)
    have h3:Region.waitsFor .any ops i e.on=true:=by
     unfold Region.waitsFor
     rw[g]
     exact Array.any_eq_true'.2 ⟨e,y,by simp[G]⟩
    rw[h3] at B
    cases B
  have A:∀j,j∈Region.ready .any ops listed→qR ops (unl ops listed) j=true:=λj t=>
   List.all_eq_true.2 λk z=>by rw[f j t k z];rfl
  rcases H with⟨i,C,v,hi,him,hmL,N,g,hy,E⟩|H
  ·have O:=q i hi N
   refine ZJ R g him ah (λc a w=>hQ c a C.dst v w) n listed a w l hc (λj oj s an aw au=>?_) O hy (hS hmL) (next i O _ _ (λ_ _=>hS hmL) E)
   have al:=b.2 ⟨(Array.getElem?_eq_some_iff.1 s).1,aw⟩
   exact qf ai g s (λe=>an e.symm) (xD s au) (f i O j al)
  ·have ar:Region.ready .any ops listed≠[]:=by
    obtain⟨i,L,hiL⟩:∃i L,unl ops listed=i::L:=by
     cases hu:unl ops listed with
     |nil=>rw[hu] at p;cases p
     |cons i L=>exact⟨i,L,rfl⟩
    have ag:=Yi (ops:=ops) listed
    have X:i∈unl ops listed:=by rw[hiL];simp
    have aa:∀k,k∈unl ops listed→i≤k:=λk z=>by
     rw[hiL] at z ag
     rcases List.mem_cons.1 z with rfl|z
     ·exact Nat.le_refl _
     ·exact Nat.le_of_lt ((List.pairwise_cons.1 ag).1 k z)
    have:=q i X (List.all_eq_true.2 λk z=>by
     cases hw:Region.waitsFor .any ops i k with
     |false=>rfl
     |true=>have M:=Z i k (b.1 X).1 hw;have B:=aa k z;omega)
    exact λI=>by rw[I] at this;cases this
   refine⟨λI=>absurd I ar,λj t=>?_⟩
   obtain⟨oj,s,ax,ay⟩:=H j (T t) (A j t)
   unfold wpOp
   rw[s]
   simp only[ax,if_true]
   refine .inl ?_
   have U:=Oper.wp_mono (K':=λF w'=>((listed.setIfInBounds j true).getD m false=false→S w')∧vZ P ops Q S m n (listed.setIfInBounds j true) F w') (λF w' ⟨D,E⟩=>⟨λhf=>D (λe=>by
    subst e
    have ao:j<listed.size:=by rw[l];exact(b.1 (T t)).1
    simp[ao] at hf),next j t F w' (λe _=>D e) E⟩) ay
   unfold Oper.wp at U⊢
   generalize (execOp a.eval oj).run P w=r at*
   cases r with
   |ok m w'=>
    cases m<;>simp only[Oper.upon] at U⊢ <;>first
     |exact U
     |exact Calls.mono U (λe az y=>by
       cases e with
       |returned u=>exact y
       |panicked c=>exact y.elim
       |outgrown=>obtain⟨_,_,hf⟩:=y;exact hf.elim)
   |halt x w'=>cases x<;>simp only[Oper.upon] at U⊢ <;>exact U.elim
theorem VH {id:Nat} {a:Act} {w:World} {Q:Exit→Act→World→Prop} {l:List Oper} (n:Nat) (m:Nat) (L:List Nat) (S:World→Prop) (g:P.follows .mixedOrders=true) (hok:Zz l.toArray=true) (b:Xl l.toArray m=true) (k:l.length=n) (f:List.range n=L)
  (hS:S w.drew)
  (h:∀K:Act→World→Prop,Shut (∀a w,Q .normal a w→K a w)→ZR P l.toArray S K m n L a w.drew):(Code.region id l.toArray true).wp P Q a w:=by
 refine wp_region_noPanic (wp_region_any g (ZK (S:=S) (m:=m) _ _ _ _ ?_))
 have e:unl l.toArray (Array.replicate l.toArray.size false)=List.range l.toArray.size:=by
  unfold unl
  rw[List.filter_eq_self]
  intro i hi
  have:=List.mem_range.1 hi
  simp at this
  simp[this]
 have c:l.toArray.size=n:=by simpa using k
 refine zcO hok b (λ_ _ _ _ _ h=>h) _ _ a _ (by simp) (λj q p d=>?_) (by rw[e];simp) (λ_=>hS) (by rw[e,c,f];exact h _ (λ_ _ h=>h))
 by_cases hjs:j<l.toArray.size
 ·simp at hjs
  simp[hjs] at d
 ·simp at hjs
  simp[hjs] at d
section
variable {K:Act→World→Prop} {a:Act} {w:World} {n m:Nat} {L:List Nat} {o:Oper}
theorem Vf (h:K a w):ZR P ops S K m 0 L a w:=h
theorem vS (i:Nat) (b:(L.contains i && qR ops L i && L.contains m && i !=m)=true) (c:ops.toList[i]? =some o) (d:Region.wanted o (yielded ops a.tmps)=true) (h:∃v,(∀w,S w→(execOp a.eval o).run P w=.ok (.value v) w)∧ZR P ops S K m n (L.erase i) (a.put o.dst v) w):ZR P ops S K m (n+1) L a w:=by
 simp only[Bool.and_eq_true,List.contains_iff_mem,bne_iff_ne] at b
 obtain⟨v,e,h⟩:=h
 exact .inl ⟨i,o,v,b.1.1.1,b.2,b.1.2,b.1.1.2,by simpa using c,.inl ⟨d,e⟩,h⟩
theorem vT (i:Nat) (b:(L.contains i && qR ops L i && L.contains m && i !=m)=true) (c:ops.toList[i]? =some o) (d:Region.wanted o (yielded ops a.tmps)=false) (h:ZR P ops S K m n (L.erase i) (a.put o.dst undef) w):ZR P ops S K m (n+1) L a w:=by
 simp only[Bool.and_eq_true,List.contains_iff_mem,bne_iff_ne] at b
 exact .inl ⟨i,o,undef,b.1.1.1,b.2,b.1.2,b.1.1.2,by simpa using c,.inr ⟨d,rfl⟩,h⟩
theorem zdv (g:List Nat) (k:L.filter (qR ops L)=g) (h:∀j∈g,∃o,ops[j]? =some o∧Region.wanted o (yielded ops a.tmps)=true∧∀K',Shut (∀e w',(j≠m→S w')→((j≠m→S w')→ZR P ops S K m n (L.erase j) e w')→K' e w')→o.wp P a w K' NoQ):ZR P ops S K m (n+1) L a w:=by
 refine .inr λj c b=>?_
 obtain⟨o,l,p,d⟩:=h j (by rw[←k];exact List.mem_filter.2 ⟨c,b⟩)
 exact⟨o,l,p,d _ (λ_ _ f i=>⟨f,i f⟩)⟩
theorem vP (j:Nat) (d:L.filter (qR ops L)=[j]) (e:ops.toList[j]? =some o) (f:Region.wanted o (yielded ops a.tmps)=true) (h:∀K',Shut (∀c w',(j≠m→S w')→((j≠m→S w')→ZR P ops S K m n (L.erase j) c w')→K' c w')→o.wp P a w K' NoQ):ZR P ops S K m (n+1) L a w:=
 zdv [j] d (λg b=>by
  have:=List.mem_singleton.1 b
  subst this
  exact⟨o,by simpa using e,f,h⟩)
theorem zbC (j k:Nat) {d:Oper} (i:L.filter (qR ops L)=[j,k]) (l:ops.toList[j]? =some o) (p:Region.wanted o (yielded ops a.tmps)=true) (e:ops.toList[k]? =some d) (f:Region.wanted d (yielded ops a.tmps)=true)
  (h:∀K',Shut (∀c w',(j≠m→S w')→((j≠m→S w')→ZR P ops S K m n (L.erase j) c w')→K' c w')→o.wp P a w K' NoQ)
  (g:∀K',Shut (∀c w',(k≠m→S w')→((k≠m→S w')→ZR P ops S K m n (L.erase k) c w')→K' c w')→d.wp P a w K' NoQ):ZR P ops S K m (n+1) L a w:=
 zdv [j,k] i (λq b=>by
  rcases List.mem_cons.1 b with rfl|b
  ·exact⟨o,by simpa using l,p,h⟩
  ·have:=List.mem_singleton.1 b
   subst this
   exact⟨d,by simpa using e,f,g⟩)
end
end
attribute [irreducible] ZR
end Go
namespace Go.Proofs.YtmpamcnlineceaaGreatDoor
open Go Go.RowKit Go.Maps Go.MapKept
open Go.Proofs.Tryz(prog)
open List(mem_cons mem_filter all_eq_true length_cons mem_range append_assoc pairwise_cons)
variable {w:World}
def JD:List Int:=[1116352408,1899447441,3049323471,3921009573,961987163,1508970993,2453635748,2870763221,3624381080,310598401,607225278,1426881987,1925078388,2162078206,2614888103,3248222580,3835390401,4022224774,264347078,604807628,770255983,1249150122,1555081692,1996064986,2554220882,2821834349,2952996808,3210313671,3336571891,3584528711,113926993,338241895,666307205,773529912,1294757372,1396182291,1695183700,1986661051,2177026350,2456956037,2730485921,2820302411,3259730800,3345764771,3516065817,3600352804,4094571909,275423344,430227734,506948616,659060556,883997877,958139571,1322822218,1537002063,1747873779,1955562222,2024104815,2227730452,2361852424,2428436474,2756734187,3204031479,3329325298]
def ZT:List Int:=[1779033703,3144134277,1013904242,2773480762,1359893119,2600822924,528734635,1541459225]
def rot (m d x:Int):Int:=bits .or .u32 (x*m % 4294967296) (x / d)
abbrev zfN (x:Int):Int:=rot 1073741824 4 x
abbrev zet (x:Int):Int:=rot 67108864 64 x
abbrev zfO (x:Int):Int:=rot 33554432 128 x
abbrev zao (x:Int):Int:=rot 2097152 2048 x
abbrev zbZ (x:Int):Int:=rot 524288 8192 x
abbrev zb0 (x:Int):Int:=rot 32768 131072 x
abbrev zb1 (x:Int):Int:=rot 16384 262144 x
abbrev zb2 (x:Int):Int:=rot 8192 524288 x
abbrev zb3 (x:Int):Int:=rot 1024 4194304 x
abbrev zap (x:Int):Int:=rot 128 33554432 x
def JK (x y u c:Int):Int:=IntKind.u32.wrap (c+IntKind.u32.wrap (IntKind.u32.wrap (bits .xor .u32 (bits .xor .u32 (zb0 x) (zb2 x)) (x / 1024)+u)+bits .xor .u32 (bits .xor .u32 (zfO y) (zb1 y)) (y / 8)))
def vx (W:List Int) (t:Nat):List Int:=if t<16 then W else W.set (t % 16) (JK (W.getD ((t-2) % 16) 0) (W.getD ((t-15) % 16) 0) (W.getD ((t-7) % 16) 0) (W.getD (t % 16) 0))
theorem zaw (W:List Int) (t:Nat):(vx W t).length=W.length:=by unfold vx;split<;>simp
def yJ (x:Int):Value:=.int .u32 x
theorem Ys {n:Int} (a:0≤n) (b:n<9223372036854775808):bits .and .i64 n 15=n % 16:=bits_mask .i64 63 (by decide) (λn a b=>IntWalk.i64_in _ (by omega)) 4 (by decide) n a (by omega)
structure ZP where
 a:Int
 b:Int
 c:Int
 d:Int
 e:Int
 f:Int
 g:Int
 h:Int
 W:List Int
def Qj (s:ZP) (t:Nat):Int:=IntKind.u32.wrap ((s.h+bits .xor .u32 (bits .xor .u32 (zet s.e) (zao s.e)) (zap s.e)) % 4294967296+IntKind.u32.wrap (IntKind.u32.wrap (bits .xor .u32 s.g (bits .and .u32 s.e (bits .xor .u32 s.f s.g))+JD.getD t 0)+(vx s.W t).getD (t % 16) 0))
def zc5 (s:ZP):Int:=(bits .xor .u32 (bits .xor .u32 (zfN s.a) (zbZ s.a)) (zb3 s.a)+bits .or .u32 (bits .and .u32 s.a s.b) (bits .and .u32 s.c (bits .or .u32 s.a s.b))) % 4294967296
def Yx (s:ZP) (t:Nat):ZP:=⟨(Qj s t+zc5 s) % 4294967296,s.a,s.b,s.c,(s.d+Qj s t) % 4294967296,s.e,s.f,s.g,vx s.W t⟩
def yX (s:ZP):Nat→ZP
 |0=>s
 |n+1=>Yx (yX s n) n
def xe (B:List Int):Nat→List Int
 |0=>List.replicate 16 0
 |i+1=>(xe B i).set (i / 4) (bits .or .u32 ((xe B i).getD (i / 4) 0*256 % 4294967296) (B.getD i 0 % 4294967296))
theorem jg (B:List Int):∀i,(xe B i).length=16
 |0=>by simp[xe]
 |i+1=>by simp[xe,jg B i]
theorem Vx {s:ZP} (h:s.W.length=16):∀n,(yX s n).W.length=16
 |0=>h
 |n+1=>by simp[yX,Yx,zaw,Vx h n]
def xl (S B:List Int):List Int:=
 let r:=yX ⟨S.getD 0 0,S.getD 1 0,S.getD 2 0,S.getD 3 0,S.getD 4 0,S.getD 5 0,S.getD 6 0,S.getD 7 0,xe B 64⟩ 64
 [(S.getD 0 0+r.a) % 4294967296,(S.getD 1 0+r.b) % 4294967296,(S.getD 2 0+r.c) % 4294967296,(S.getD 3 0+r.d) % 4294967296,(S.getD 4 0+r.e) % 4294967296,(S.getD 5 0+r.f) % 4294967296,(S.getD 6 0+r.g) % 4294967296,(S.getD 7 0+r.h) % 4294967296]
theorem zhN (w:World) (x:Int):Calls prog 110 #[.int .u32 x,.int .i64 (-2)] w λe w'=>e=.returned (.int .u32 (zfN x))∧w=w':=by
 have a:bits .and .u64 (IntKind.u64.wrap (-2)) 31=30:=by decide+kernel
 go_enter Tryz.func110,Tryz.ntmps110
 go_wp2
 go_ret
 exact⟨rfl,rfl⟩
theorem zhO (w:World) (x:Int):Calls prog 110 #[.int .u32 x,.int .i64 (-6)] w λe w'=>e=.returned (.int .u32 (zet x))∧w=w':=by
 have a:bits .and .u64 (IntKind.u64.wrap (-6)) 31=26:=by decide+kernel
 go_enter Tryz.func110,Tryz.ntmps110
 go_wp2
 go_ret
 exact⟨rfl,rfl⟩
theorem zhP (w:World) (x:Int):Calls prog 110 #[.int .u32 x,.int .i64 (-7)] w λe w'=>e=.returned (.int .u32 (zfO x))∧w=w':=by
 have a:bits .and .u64 (IntKind.u64.wrap (-7)) 31=25:=by decide+kernel
 go_enter Tryz.func110,Tryz.ntmps110
 go_wp2
 go_ret
 exact⟨rfl,rfl⟩
theorem zgN (w:World) (x:Int):Calls prog 110 #[.int .u32 x,.int .i64 (-11)] w λe w'=>e=.returned (.int .u32 (zao x))∧w=w':=by
 have a:bits .and .u64 (IntKind.u64.wrap (-11)) 31=21:=by decide+kernel
 go_enter Tryz.func110,Tryz.ntmps110
 go_wp2
 go_ret
 exact⟨rfl,rfl⟩
theorem zgO (w:World) (x:Int):Calls prog 110 #[.int .u32 x,.int .i64 (-13)] w λe w'=>e=.returned (.int .u32 (zbZ x))∧w=w':=by
 have a:bits .and .u64 (IntKind.u64.wrap (-13)) 31=19:=by decide+kernel
 go_enter Tryz.func110,Tryz.ntmps110
 go_wp2
 go_ret
 exact⟨rfl,rfl⟩
theorem zgP (w:World) (x:Int):Calls prog 110 #[.int .u32 x,.int .i64 (-17)] w λe w'=>e=.returned (.int .u32 (zb0 x))∧w=w':=by
 have a:bits .and .u64 (IntKind.u64.wrap (-17)) 31=15:=by decide+kernel
 go_enter Tryz.func110,Tryz.ntmps110
 go_wp2
 go_ret
 exact⟨rfl,rfl⟩
theorem zgQ (w:World) (x:Int):Calls prog 110 #[.int .u32 x,.int .i64 (-18)] w λe w'=>e=.returned (.int .u32 (zb1 x))∧w=w':=by
 have a:bits .and .u64 (IntKind.u64.wrap (-18)) 31=14:=by decide+kernel
 go_enter Tryz.func110,Tryz.ntmps110
 go_wp2
 go_ret
 exact⟨rfl,rfl⟩
theorem zgR (w:World) (x:Int):Calls prog 110 #[.int .u32 x,.int .i64 (-19)] w λe w'=>e=.returned (.int .u32 (zb2 x))∧w=w':=by
 have a:bits .and .u64 (IntKind.u64.wrap (-19)) 31=13:=by decide+kernel
 go_enter Tryz.func110,Tryz.ntmps110
 go_wp2
 go_ret
 exact⟨rfl,rfl⟩
theorem zgS (w:World) (x:Int):Calls prog 110 #[.int .u32 x,.int .i64 (-22)] w λe w'=>e=.returned (.int .u32 (zb3 x))∧w=w':=by
 have a:bits .and .u64 (IntKind.u64.wrap (-22)) 31=10:=by decide+kernel
 go_enter Tryz.func110,Tryz.ntmps110
 go_wp2
 go_ret
 exact⟨rfl,rfl⟩
theorem zgT (w:World) (x:Int):Calls prog 110 #[.int .u32 x,.int .i64 (-25)] w λe w'=>e=.returned (.int .u32 (zap x))∧w=w':=by
 have a:bits .and .u64 (IntKind.u64.wrap (-25)) 31=7:=by decide+kernel
 go_enter Tryz.func110,Tryz.ntmps110
 go_wp2
 go_ret
 exact⟨rfl,rfl⟩
def xm (W:List Int):Array Value:=(W.map yJ).toArray
theorem Yh (W:List Int) (k:Nat) (v:Int):(xm W).setIfInBounds k (.int .u32 v)=xm (W.set k v):=by
 unfold xm
 rw[List.setIfInBounds_toArray,List.map_set]
 rfl
theorem yx {q k:Nat} {W:List Int} {T:TypeId} {f:Nat×Nat} (h:w.heap[q]? =some (.cells (xm W) T f)) (a:k<W.length):w.cell? ⟨q,k,none⟩=some (.int .u32 (W.getD k 0)):=by
 simp only[World.cell?,h,xm]
 simp[a,yJ]
theorem zW {b i:Nat} {c:Array Value} {T:TypeId} (h:w.heap[b]? =some (.cells c T (0,0))):w.frozen? ⟨b,i,none⟩=false:=by simp[World.frozen?,h]
theorem zf5 {q:Nat} {W:List Int} (hW:W.length=16) (p:w.heap[q]? =some (.cells (xm W) 185 (0,0))) {t:Nat} (ht:t<64):
  Calls prog 111 #[.pointer (some ⟨q,0,none⟩),.int .i64 t] w λe w'=>e=.returned (.int .u32 ((vx W t).getD (t % 16) 0))∧w'.heap[q]? =some (.cells (xm (vx W t)) 185 (0,0))∧Fr (λj=>j=q) w w':=by
 have G:=J p
 obtain⟨k,r⟩:∃k,k=t % 16:=⟨_,rfl⟩
 have O:k<16:=by omega
 have e1:bits .and .i64 (t:Int) 15=(k:Int):=by rw[Ys (by omega) (by omega),r];omega
 have N:=yx (k:=k) p (by omega)
 have aa:(k:Int).toNat=k:=by omega
 have Z:(k:Int)<16:=by omega
 have X:(0:Int)≤(k:Int):=by omega
 have Y:¬(k:Int)<0:=by omega
 by_cases h16:t<16
 ·have j1:decide ((16:Int)≤(t:Int))=false:=by simp;omega
  have j2:(t:Int)<16:=by omega
  have o:=@J (vx W t=W) (by unfold vx;rw[if_pos h16])
  rw[←r,o.o]
  generalize W.getD k 0=c at*
  clear p r o
  go_enter Tryz.func111,Tryz.ntmps111
  go_wp2
  go_ret
  exact⟨by rfl,G.o,Fr.refl _ _⟩
 ·have j1:decide ((16:Int)≤(t:Int))=true:=by simp;omega
  have j2:¬(t:Int)<16:=by omega
  obtain⟨b,m⟩:∃k,k=(t-2) % 16:=⟨_,rfl⟩
  obtain⟨a,f⟩:∃k,k=(t-15) % 16:=⟨_,rfl⟩
  obtain⟨d,n⟩:∃k,k=(t-7) % 16:=⟨_,rfl⟩
  have ag:IntKind.i64.wrap ((t:Int)-2)=(t:Int)-2:=IntWalk.i64_in _ (by omega)
  have Q:IntKind.i64.wrap ((t:Int)-15)=(t:Int)-15:=IntWalk.i64_in _ (by omega)
  have ah:IntKind.i64.wrap ((t:Int)-7)=(t:Int)-7:=IntWalk.i64_in _ (by omega)
  have e2:bits .and .i64 ((t:Int)-2) 15=(b:Int):=by rw[Ys (by omega) (by omega),m];omega
  have V:bits .and .i64 ((t:Int)-15) 15=(a:Int):=by rw[Ys (by omega) (by omega),f];omega
  have e7:bits .and .i64 ((t:Int)-7) 15=(d:Int):=by rw[Ys (by omega) (by omega),n];omega
  have l2:b<16:=by omega
  have ad:a<16:=by omega
  have l7:d<16:=by omega
  have i2:(b:Int)<16:=by omega
  have ab:(a:Int)<16:=by omega
  have i7:(d:Int)<16:=by omega
  have o2:(0:Int)≤(b:Int):=by omega
  have af:(0:Int)≤(a:Int):=by omega
  have o7:(0:Int)≤(d:Int):=by omega
  have n2:(b:Int).toNat=b:=by omega
  have ae:(a:Int).toNat=a:=by omega
  have n7:(d:Int).toNat=d:=by omega
  have R:=J (yx (k:=b) p (by omega))
  have B:=J (yx (k:=a) p (by omega))
  have S:=J (yx (k:=d) p (by omega))
  have T:=J N
  have o:=@J (vx W t=W.set k (JK (W.getD b 0) (W.getD a 0) (W.getD d 0) (W.getD k 0))) (by unfold vx;rw[if_neg h16,r,m,f,n])
  have E:=@J ((W.set k (JK (W.getD b 0) (W.getD a 0) (W.getD d 0) (W.getD k 0))).getD k 0=JK (W.getD b 0) (W.getD a 0) (W.getD d 0) (W.getD k 0)) (by
   have:k<W.length:=by omega
   simp[this])
  rw[←r]
  generalize W.getD b 0=x at*
  generalize W.getD a 0=y at*
  generalize W.getD d 0=u at*
  generalize W.getD k 0=c at*
  clear N r m f n
  go_enter Tryz.func111,Tryz.ntmps111
  go_wp2
  refine wrLx [ff,ff,ff,ff,ff,ff,ff,ff,ff,ff,ff,ff,ff,ff,ff,ff] (λw'=>w'.cell? ⟨q,b,none⟩=some (.int .u32 x)∧w'.cell? ⟨q,a,none⟩=some (.int .u32 y)) ?_ (λK hK=>?_)
  ·exact⟨(frN w).drew.cell R.o id,(frN w).drew.cell B.o id⟩
  repeat((first|(refine zn rfl ?_;constructor;constructor;(focus(rintro w' ⟨s1,s2⟩;exact goS)))|(refine zq rfl ?_));try simp only[Act.put,pA,pB,pC])
  refine zZ (hK.out _ _ ?_)
  have A:=J (frN w).drew
  generalize w.drew=g at*
  have H:=tru
  have I:=tru
  have L:=tru
  have M:=tru
  go_upto_region 5 with(first|(have mk:=H.o;go_at_call 110;refine(zgP _ _).mono ?_;rintro e F ⟨rfl,rfl⟩;clear mk H)|(have mk:=I.o;go_at_call 110;refine(zgR _ _).mono ?_;rintro e F ⟨rfl,rfl⟩;clear mk I)|(have mk:=L.o;go_at_call 110;refine(zhP _ _).mono ?_;rintro e F ⟨rfl,rfl⟩;clear mk L)|(have mk:=M.o;go_at_call 110;refine(zgQ _ _).mono ?_;rintro e F ⟨rfl,rfl⟩;clear mk M))
  have s:=J ((A.o.trans0 (frN g).drew).obj G.o id)
  have FK:=zW (i:=k) s.o
  have C:=(A.o.trans0 (frN g).drew).cell T.o id
  refine yD [ff,ff,ff,ff,ff,ff,ff,ff,ff,ff,ff,ff,ff,ff,ff,ff,ff,ff,ff,ff,tt] (λw'=>w'.cell? ⟨q,k,none⟩=some (.int .u32 c)∧w'.cell? ⟨q,d,none⟩=some (.int .u32 u)) (by kernel_rfl) (by kernel_rfl) 20 (by kernel_rfl) (by kernel_rfl) ?_ (λK hK=>?_)
  ·exact⟨C,(A.o.trans0 (frN g).drew).cell S.o id⟩
  repeat((first|(refine ym rfl ?_;constructor;constructor;(focus(first|(rintro w' ⟨s1,s2⟩;exact goS))))|(refine yn rfl ?_));try simp only[Act.put,pA,pB,pC])
  (refine yf rfl (λK' hK'=>?_))
  go_simp
  refine hK'.out _ _ (λh=>absurd rfl h) (λhS=>?_)
  refine qp (hK.out _ _ ?_)
  generalize P:IntKind.u32.wrap (c+IntKind.u32.wrap (IntKind.u32.wrap (bits .xor .u32 (bits .xor .u32 (zb0 x) (zb2 x)) (x / 1024)+u)+bits .xor .u32 (bits .xor .u32 (zfO y) (zb1 y)) (y / 8)))=v at*
  have z:JK x y u c=v:=P
  rw[z] at o E
  have l:=@J ((g.setCell ⟨q,k,none⟩ (.int .u32 v)).heap[q]? =some (.cells (xm (W.set k v)) 185 (0,0))) (by
   have:=heap_setCell_same g q k _ _ (.int .u32 v) s.o
   rw[Yh] at this
   exact this)
  have c9:(g.setCell ⟨q,k,none⟩ (.int .u32 v)).drew.cell? ⟨q,k,none⟩=some (.int .u32 v):=by
   have:=yx (k:=k) l.o (by simp;omega)
   rw[E.o] at this
   exact this
  have U:=@J (Fr (λj=>j=q) w (g.setCell ⟨q,k,none⟩ (.int .u32 v)).drew) (((A.o.of0 (W:=λj=>j=q)).setCell ⟨q,k,none⟩ (.inr rfl) _).drew)
  have D:=@J ((g.setCell ⟨q,k,none⟩ (.int .u32 v)).drew.heap[q]? =some (.cells (xm (W.set k v)) 185 (0,0))) (l.o)
  clear P z l
  generalize (g.setCell ⟨q,k,none⟩ (.int .u32 v)).drew=w9 at*
  go_wp2
  go_ret
  exact⟨by rw[o.o,E.o];rfl,by rw[o.o];exact D.o,U.o⟩
end Go.Proofs.YtmpamcnlineceaaGreatDoor
namespace Go
section
variable {P:Program} {ops:Array Oper} {Q:Exit→Act→World→Prop} {a:Act} {w:World} {rest:List Oper} {o:Oper}
theorem xF (d:Tmp) {op:Op} {t:TypeId} {pos:String} {after:Array Edge} {guard:Option (Nat×Bool)} (h:wpList P ops Q ({dst:=some d,op:=op,type:=t,pos:=pos,after:=after,guard:=guard}::rest) a w):wpList P ops Q ({dst:=some d,op:=op,type:=t,pos:=pos,after:=after,guard:=guard}::rest) a w:=h
theorem zr {op:Op} {t:TypeId} {pos:String} {after:Array Edge} {guard:Option (Nat×Bool)} (h:wpList P ops Q ({dst:=none,op:=op,type:=t,pos:=pos,after:=after,guard:=guard}::rest) a w):wpList P ops Q ({dst:=none,op:=op,type:=t,pos:=pos,after:=after,guard:=guard}::rest) a w:=h
theorem zt (h:wpList P ops Q (o::rest) a w):wpList P ops Q (o::rest) a w:=h
end
end Go
namespace Go.Proofs.YtmpamcnlineceaaGreatDoor
open Go Go.RowKit Go.Maps Go.MapKept
open Go.Proofs.Tryz(prog)
open List(mem_cons mem_filter all_eq_true length_cons mem_range append_assoc pairwise_cons)
variable {w:World}
structure Je (w:World):Prop where
 k:∀(j:Nat) (x:Int),JD[j]? =some x→w.cell? ⟨2,j,none⟩=some (.int .u32 x)
 i:∀(j:Nat) (x:Int),ZT[j]? =some x→w.cell? ⟨0,j,none⟩=some (.int .u32 x)
theorem Je.keep {w w':World} (h:Je w) {W:Nat→Prop} (f:Fr W w w') (a:¬W 0) (b:¬W 2):Je w':=⟨λj x e=>f.cell (h.k j x e) b,λj x e=>f.cell (h.i j x e) a⟩
theorem zgX (h:Je w) {t:Nat} (a:t<64):w.cell? ⟨2,t,none⟩=some (.int .u32 (JD.getD t 0)):=h.k t _ (by
 have:t<JD.length:=a
 rw[List.getD_eq_getElem?_getD,List.getElem?_eq_getElem this]
 rfl)
theorem zgp (w:World) (a b c d:Obj):((((w.alloc a).alloc b).alloc c).alloc d).heap[w.heap.size]? =some a∧((((w.alloc a).alloc b).alloc c).alloc d).heap[w.heap.size+1]? =some b∧((((w.alloc a).alloc b).alloc c).alloc d).heap[w.heap.size+1+1]? =some c∧((((w.alloc a).alloc b).alloc c).alloc d).heap[w.heap.size+1+1+1]? =some d∧Fr No w ((((w.alloc a).alloc b).alloc c).alloc d):=
 ⟨jC (jC (jC (zS w a) b) c) d,jC (jC (xK (w.alloc a) b (by simp)) c) d,jC (xK ((w.alloc a).alloc b) c (by simp)) d,xK (((w.alloc a).alloc b).alloc c) d (by simp),(((((frN w).alloc a).alloc b).alloc c).alloc d)⟩
theorem xy {b:Nat} {cs:List Value} {T:TypeId} {a:Nat×Nat} (h:w.heap[b]? =some (.cells cs.toArray T a)):w.rangeAt b 0 cs:=λj v c=>by
 simp only[World.cell?,h]
 simpa using c
theorem zfh:(prog.info? 136).map (·.size)=some 64:=by kernel_rfl
theorem ze4:∃d,prog.underlying 136=some d∧d.isRow=true:=vq (by kernel_rfl)
theorem zgz {B:List Int} (d:B.length=64) {i:Nat} (hi:i<64) (w:World):(Instr.index 136 (.agg (B.map zu).toArray) (.int .i64 i)).run prog w=.ok (.int .u8 (B.getD i 0)) w:=by
 have b:(0≤(i:Int)∧(i:Int)<((64:Nat):Int)):=by omega
 have c:(sizeOf 5).run prog w=.ok 1 w:=by kernel_rfl
 simp[Instr.index,run_underlying Tryz.underlying136,asIntOf,b,c,part,go_sem]
 have a:i<B.length:=by omega
 rw[List.getElem?_eq_getElem a]
 simp[hi,zu]
theorem zdP (hg:Je w) (r:2<w.heap.size) {S B:List Int} (hS:S.length=8) (hB:B.length=64):
  Calls prog 103 #[.agg (xm S),.agg (B.map zu).toArray] w λe w'=>e=.returned (.agg (xm (xl S B)))∧Fr No w w':=by
 have z8:∀w,(zeroValue 134).run prog w=.ok (.agg (xm [0,0,0,0,0,0,0,0])) w:=λw=>by kernel_rfl
 have av:∀w,(zeroValue 185).run prog w=.ok (.agg (xm [0,0,0,0,0,0,0,0,0,0,0,0,0,0,0,0])) w:=λw=>by kernel_rfl
 obtain⟨au,ar,aq⟩:=ze4
 obtain⟨b1,b2,b3,b4,f4⟩:=zgp w (.cells (xm S) 134) (.cells (B.map zu).toArray 136) (.cells (xm [0,0,0,0,0,0,0,0]) 134) (.cells (xm [0,0,0,0,0,0,0,0,0,0,0,0,0,0,0,0]) 185)
 have B1:=J b1
 have R2:=J (xy b2)
 have B3:=J b3
 have B4:=J b4
 have F4:=J f4
 have HG:=J hg
 have HW:=J r
 have BL:=@J ((B.map zu).length=64) (by simp[hB])
 have HS:=J hS
 have ai:=J hB
 clear hg b1 b2 b3 b4 f4 r hS hB
 go_enter Tryz.func103,Tryz.ntmps103
 go_wp2_with ((with_reducible refine xF 19 ?_);refine zg rfl (ye (ty:=136) rfl rfl R2.o ar aq (by rw[BL.o];exact zfh)) ?_;generalize (((w.alloc (.cells (xm S) 134)).alloc (.cells (B.map zu).toArray 136)).alloc (.cells (xm [0,0,0,0,0,0,0,0]) 134)).alloc (.cells (xm [0,0,0,0,0,0,0,0,0,0,0,0,0,0,0,0]) 185)=w4 at*)
 go_loopw [20] (λN wr=>∃i:Nat,N=.int .i64 i∧i≤64∧wr.heap[w.heap.size+1+1+1]? =some (.cells (xm (xe B i)) 185 (0,0))∧Fr (λj=>j=w.heap.size+1+1+1) w4 wr) (λN _=>64-(intOf N).toNat)
 case atStart=>exact⟨0,rfl,by omega,B4.o,Fr.refl _ _⟩
 case round=>
  obtain⟨i,rfl,hi,hb,fr⟩:=hrel
  have FR:=J fr
  have HB:=J hb
  clear fr hb
  by_cases h:i<64
  ·have i1:(i:Int)<64:=by omega
   have hx:=zgz ai.o h
   obtain⟨k,p⟩:∃k,k=i / 4:=⟨_,rfl⟩
   have ao:k<16:=by omega
   have ki:(k:Int)<16:=by omega
   have k0:(0:Int)≤(k:Int):=by omega
   have kn:(k:Int).toNat=k:=by omega
   have kd:(i:Int) / 4=(k:Int):=by omega
   have ck:=yx (k:=k) HB.o (by rw[jg];exact ao)
   have fz:=zW (i:=k) HB.o
   have FS:=@J (xe B (i+1)=(xe B i).set k (bits .or .u32 ((xe B i).getD k 0*256 % 4294967296) (B.getD i 0 % 4294967296))) (by rw[xe,←p])
   have ak:=J (λv=>heap_setCell_same wr (w.heap.size+1+1+1) k _ _ (.int .u32 v) HB.o)
   generalize (xe B i).getD k 0=c at*
   generalize B.getD i 0=y at*
   clear p
   go_wp2
   go_roundw
   case rel=>exact⟨i+1,by simp,by omega,by rw[FS.o,←Yh];exact ak.o _,FR.o.setCell _ (.inr rfl) _⟩
   case measure=>show 64-(i+1)<64-i;omega
  ·have i1:¬(i:Int)<64:=by omega
   obtain rfl:i=64:=by omega
   have ad:=FR.o.obj B1.o (by omega)
   have ae:=FR.o.obj B3.o (by omega)
   have sc:∀k,k<8→wr.cell? ⟨w.heap.size,k,none⟩=some (.int .u32 (S.getD k 0)):=λk p=>yx ad (by rw[HS.o];exact p)
   generalize z:S.getD 0 0=O at*
   generalize A:S.getD 1 0=Q at*
   generalize C:S.getD 2 0=R at*
   generalize D:S.getD 3 0=T at*
   generalize E:S.getD 4 0=U at*
   generalize F:S.getD 5 0=V at*
   generalize G:S.getD 6 0=X at*
   generalize H:S.getD 7 0=Y at*
   have CS:=@J (∀m,Fr No wr m→m.cell? ⟨w.heap.size,0,none⟩=some (.int .u32 O)∧m.cell? ⟨w.heap.size,1,none⟩=some (.int .u32 Q)∧m.cell? ⟨w.heap.size,2,none⟩=some (.int .u32 R)∧m.cell? ⟨w.heap.size,3,none⟩=some (.int .u32 T)∧m.cell? ⟨w.heap.size,4,none⟩=some (.int .u32 U)∧m.cell? ⟨w.heap.size,5,none⟩=some (.int .u32 V)∧m.cell? ⟨w.heap.size,6,none⟩=some (.int .u32 X)∧m.cell? ⟨w.heap.size,7,none⟩=some (.int .u32 Y)) (λm f=>by
    have x:=λk p=>f.cell (sc k p) id
    have c0:=x 0 (by omega)
    have c1:=x 1 (by omega)
    have c2:=x 2 (by omega)
    have c3:=x 3 (by omega)
    have c4:=x 4 (by omega)
    have c5:=x 5 (by omega)
    have c6:=x 6 (by omega)
    have c7:=x 7 (by omega)
    simp only[z,A,C,D,E,F,G,H] at*
    exact⟨c0,c1,c2,c3,c4,c5,c6,c7⟩)
   have ag:=J ae
   have al:=J HB.o
   clear ad ae sc
   go_upto_region 7 with fail
   refine wrLx [ff,ff,ff,ff,ff,ff,ff,ff,ff,ff,ff,ff,ff,ff,ff,ff,ff,ff,ff,ff,ff,ff,ff,ff] (λW=>W.cell? ⟨w.heap.size,0,none⟩=some (.int .u32 O)∧W.cell? ⟨w.heap.size,1,none⟩=some (.int .u32 Q)∧W.cell? ⟨w.heap.size,2,none⟩=some (.int .u32 R)∧W.cell? ⟨w.heap.size,3,none⟩=some (.int .u32 T)∧W.cell? ⟨w.heap.size,4,none⟩=some (.int .u32 U)∧W.cell? ⟨w.heap.size,5,none⟩=some (.int .u32 V)∧W.cell? ⟨w.heap.size,6,none⟩=some (.int .u32 X)∧W.cell? ⟨w.heap.size,7,none⟩=some (.int .u32 Y)) ?_ (λK hK=>?_)
   ·exact CS.o _ (frN _).drew
   repeat((first|(refine zn rfl ?_;constructor;constructor;(focus(rintro w' ⟨c0,c1,c2,c3,c4,c5,c6,c7⟩;exact goS)))|(refine zq rfl ?_));try simp only[Act.put,pA,pB,pC])
   refine zZ (hK.out _ _ ?_)
   have Z:=J (frN wr).drew
   generalize wr.drew=wb at*
   have af:=jg B 64
   generalize aa:xe B 64=WF at*
   have an:=J aa
   clear aa
   obtain⟨st,L⟩:∃st:ZP,st=⟨O,Q,R,T,U,V,X,Y,WF⟩:=⟨_,rfl⟩
   have o:=J L
   have SL:=@J (st.W.length=16) (by rw[L];exact af)
   clear L af
   go_wp2
   go_loopw [8,9,10,11,12,13,14,15,52] (λva vb vc vd ve vf vg vh N wi=>∃t:Nat,N=.int .i64 t∧t≤64∧va=.int .u32 (yX st t).a∧vb=.int .u32 (yX st t).b∧vc=.int .u32 (yX st t).c∧vd=.int .u32 (yX st t).d∧ve=.int .u32 (yX st t).e∧vf=.int .u32 (yX st t).f∧vg=.int .u32 (yX st t).g∧vh=.int .u32 (yX st t).h∧wi.heap[w.heap.size+1+1+1]? =some (.cells (xm (yX st t).W) 185 (0,0))∧Fr (λj=>j=w.heap.size+1+1+1) wb wi) (λ_ _ _ _ _ _ _ _ N _=>64-(intOf N).toNat)
   case atStart=>exact⟨0,rfl,by omega,by rw[o.o];rfl,by rw[o.o];rfl,by rw[o.o];rfl,by rw[o.o];rfl,by rw[o.o];rfl,by rw[o.o];rfl,by rw[o.o];rfl,by rw[o.o];rfl,by rw[o.o];exact Z.o.obj al.o id,Fr.refl _ _⟩
   case round=>
    obtain⟨t,rfl,ht,rfl,rfl,rfl,rfl,rfl,rfl,rfl,rfl,hb,fr⟩:=hrel
    have n:=J fr
    have aj:=J hb
    have WL:=J (Vx SL.o t)
    clear fr hb
    by_cases h:t<64
    ·have i1:(t:Int)<64:=by omega
     have i0:(0:Int)≤(t:Int):=by omega
     have tn:(t:Int).toNat=t:=by omega
     have SN:=@J (yX st (t+1)=Yx (yX st t) t) (rfl)
     generalize yX st t=s at*
     obtain⟨a,b,c,d,e,f,g,hh,W⟩:=s
     generalize I:JD.getD t 0=kt at*
     generalize M:(vx W t).getD (t % 16) 0=wt at*
     have p:=zgX HG.o h
     rw[I] at p
     have r:=HW.o
     have CK:=@J (∀m,Fr (λj=>j=w.heap.size+1+1+1) wb m→m.cell? ⟨2,t,none⟩=some (.int .u32 kt)) (λm f=>by
      have c1:=F4.o.cell p id
      have c2:=FR.o.cell c1 (show ¬(2:Nat)=_ by omega)
      exact f.cell (Z.o.cell c2 id) (show ¬(2:Nat)=_ by omega))
     clear p r
     have M0:=tru
     have M1:=tru
     have M2:=tru
     have M3:=tru
     have M4:=tru
     have M5:=tru
     go_upto_region 12 with(first|(have mk:=M0.o;go_at_call 110;refine(zhO _ _).mono ?_;rintro e w2 ⟨rfl,rfl⟩;clear mk M0)|(have mk:=M1.o;go_at_call 110;refine(zgN _ _).mono ?_;rintro e w2 ⟨rfl,rfl⟩;clear mk M1)|(have mk:=M2.o;go_at_call 110;refine(zgT _ _).mono ?_;rintro e w2 ⟨rfl,rfl⟩;clear mk M2))
     have fd:=(frN wr).drew
     refine wrLx [ff,ff,ff,ff,ff,ff,ff,ff,ff,ff,ff,ff,ff,tt,ff,ff,ff] (λm=>m.cell? ⟨2,t,none⟩=some (.int .u32 kt)) ?_ (λK hK=>?_)
     ·exact CK.o _ (n.o.trans0 fd)
     repeat((first|(refine zn rfl ?_;constructor;constructor;(focus(rintro w' _;exact goS)))|(refine zq rfl ?_));try simp only[Act.put,pA,pB,pC])
     (refine zN rfl (λK' hK'=>?_))
     go_simp
     refine(zf5 WL.o (fd.obj aj.o id) h).mono ?_
     rintro e' w6 ⟨rfl,ab,f6⟩
     rw[M]
     have F6:=J ((n.o.trans0 fd).trans f6 (λ_ _ h=>h))
     have ah:=J ab
     clear ab f6 fd
     refine nXt hK' ?_ λhS=>?_
     ·exact CK.o _ F6.o
     try simp only[Act.put,pA,pB,pC]
     repeat((first|(refine zn rfl ?_;constructor;constructor;(focus(rintro w' _;exact goS)))|(refine zq rfl ?_));try simp only[Act.put,pA,pB,pC])
     refine zZ (hK.out _ _ ?_)
     generalize hP:IntKind.u32.wrap ((hh+bits .xor .u32 (bits .xor .u32 (zet e) (zao e)) (zap e)) % 4294967296+IntKind.u32.wrap (IntKind.u32.wrap (bits .xor .u32 g (bits .and .u32 e (bits .xor .u32 f g))+kt)+wt))=P at*
     have SP:=@J (Qj ⟨a,b,c,d,e,f,g,hh,W⟩ t=P) (by unfold Qj;simp only[];rw[I,M];exact hP)
     clear hP I M
     go_wp2_with (first|(have mk:=M3.o;go_at_call 110;refine(zhN _ _).mono ?_;rintro e w2 ⟨rfl,rfl⟩;clear mk M3)|(have mk:=M4.o;go_at_call 110;refine(zgO _ _).mono ?_;rintro e w2 ⟨rfl,rfl⟩;clear mk M4)|(have mk:=M5.o;go_at_call 110;refine(zgS _ _).mono ?_;rintro e w2 ⟨rfl,rfl⟩;clear mk M5))
     have q:=@J (yX st (t+1)=⟨(P+zc5 ⟨a,b,c,d,e,f,g,hh,W⟩) % 4294967296,a,b,c,(d+P) % 4294967296,e,f,g,vx W t⟩) (by rw[SN.o];unfold Yx;rw[SP.o])
     go_roundw
     case rel=>exact⟨t+1,by simp,by omega,by rw[q.o];rfl,by rw[q.o],by rw[q.o],by rw[q.o],by rw[q.o],by rw[q.o],by rw[q.o],by rw[q.o],by rw[q.o];exact ah.o,F6.o⟩
     case measure=>show 64-(t+1)<64-t;omega
    ·have i1:¬(t:Int)<64:=by omega
     obtain rfl:t=64:=by omega
     have SB:=@J (xl S B=[(O+(yX st 64).a) % 4294967296,(Q+(yX st 64).b) % 4294967296,(R+(yX st 64).c) % 4294967296,(T+(yX st 64).d) % 4294967296,(U+(yX st 64).e) % 4294967296,(V+(yX st 64).f) % 4294967296,(X+(yX st 64).g) % 4294967296,(Y+(yX st 64).h) % 4294967296]) (by
      unfold xl
      simp only[z,A,C,D,E,F,G,H,an.o,←o.o])
     generalize yX st 64=l at*
     obtain⟨k0,k1,k2,k3,k4,k5,k6,k7⟩:=CS.o _ Z.o
     have q0:=n.o.cell k0 (show ¬w.heap.size=_ by omega)
     have q1:=n.o.cell k1 (show ¬w.heap.size=_ by omega)
     have q2:=n.o.cell k2 (show ¬w.heap.size=_ by omega)
     have q3:=n.o.cell k3 (show ¬w.heap.size=_ by omega)
     have q4:=n.o.cell k4 (show ¬w.heap.size=_ by omega)
     have q5:=n.o.cell k5 (show ¬w.heap.size=_ by omega)
     have q6:=n.o.cell k6 (show ¬w.heap.size=_ by omega)
     have q7:=n.o.cell k7 (show ¬w.heap.size=_ by omega)
     have HR:=J (n.o.obj (Z.o.obj ag.o id) (show ¬w.heap.size+1+1=_ by omega))
     have FF:=@J (Fr No w wr) ((F4.o.trans (FR.o.trans (Z.o.of0 (W:=λj=>j=w.heap.size+1+1+1)) (λ_ _ h=>h)) (λi hi e=>by omega)).trans n.o (λi hi e=>by omega))
     have bl:∀(x0 x1 x2 x3 x4 x5 x6 x7:Int) (w:World),(Instr.build 134 #[(0,.int .u32 x0),(1,.int .u32 x1),(2,.int .u32 x2),(3,.int .u32 x3),(4,.int .u32 x4),(5,.int .u32 x5),(6,.int .u32 x6),(7,.int .u32 x7)]).run prog w=.ok (.agg [.int .u32 x0,.int .u32 x1,.int .u32 x2,.int .u32 x3,.int .u32 x4,.int .u32 x5,.int .u32 x6,.int .u32 x7].toArray) w:=by
      intros
      kernel_rfl
     clear k0 z k1 A k2 C k3 D k4 E k5 F k6 G k7 H
     go_wp2_with (first|((with_reducible refine xF 144 ?_);refine zg rfl (yl (t:=134) rfl rfl (bl _ _ _ _ _ _ _ _ _)) ?_)|((with_reducible refine zr ?_);refine ze rfl (zy (ty:=134) (b:=w.heap.size+1+1) (off:=0) (cs:=[(.int .u32 ((O+l.a) % 4294967296):Value),(.int .u32 ((Q+l.b) % 4294967296):Value),(.int .u32 ((R+l.c) % 4294967296):Value),(.int .u32 ((T+l.d) % 4294967296):Value),(.int .u32 ((U+l.e) % 4294967296):Value),(.int .u32 ((V+l.f) % 4294967296):Value),(.int .u32 ((X+l.g) % 4294967296):Value),(.int .u32 ((Y+l.h) % 4294967296):Value)]) rfl rfl rfl (zM HR.o (by simp[xm])) (by kernel_rfl) (by intro u hu;simp only[mem_cons,List.not_mem_nil,or_false] at hu;rcases hu with rfl|rfl|rfl|rfl|rfl|rfl|rfl|rfl<;>rfl)) ?_))
     have HE:=@J ((wr.setCells (w.heap.size+1+1) 0 [(.int .u32 ((O+l.a) % 4294967296):Value),(.int .u32 ((Q+l.b) % 4294967296):Value),(.int .u32 ((R+l.c) % 4294967296):Value),(.int .u32 ((T+l.d) % 4294967296):Value),(.int .u32 ((U+l.e) % 4294967296):Value),(.int .u32 ((V+l.f) % 4294967296):Value),(.int .u32 ((X+l.g) % 4294967296):Value),(.int .u32 ((Y+l.h) % 4294967296):Value)]).heap[w.heap.size+1+1]? =some (.cells (xm (xl S B)) 134 (0,0))) (by
      have:=yN (w.heap.size+1+1) 134 [(.int .u32 ((O+l.a) % 4294967296):Value),(.int .u32 ((Q+l.b) % 4294967296):Value),(.int .u32 ((R+l.c) % 4294967296):Value),(.int .u32 ((T+l.d) % 4294967296):Value),(.int .u32 ((U+l.e) % 4294967296):Value),(.int .u32 ((V+l.f) % 4294967296):Value),(.int .u32 ((X+l.g) % 4294967296):Value),(.int .u32 ((Y+l.h) % 4294967296):Value)] 0 wr _ HR.o
      rw[this,SB.o]
      simp[xm,setM,yJ])
     exact bodyPost_ret (v:=.agg (xm (xl S B))) (results_cell_row (P:=prog) (fn:=Tryz.f103) rfl _ _ (w.heap.size+1+1) 134 (xm (xl S B)) (0,0) _ rfl HE.o Tryz.underlying134 rfl (by kernel_rfl)) rfl ⟨rfl,FF.o.trans (zv _ _ _ _) (λi hi e=>by omega)⟩
structure vI where
 st:List Int
 op:List Int
 n:Nat
def xS (h:vI) (x:Int):vI:=⟨if(h.n+1) % 64=0 then xl h.st (h.op.set (h.n % 64) x) else h.st,h.op.set (h.n % 64) x,h.n+1⟩
def JS (xs:List Int):Nat→List Int→List Int
 |_,[]=>xs
 |o,c::cs=>JS (xs.set o c) (o+1) cs
theorem Zg:∀(cs xs:List Int) (o:Nat),(JS xs o cs).length=xs.length
 |[],_,_=>rfl
 |c::cs,xs,o=>by rw[JS,Zg cs,List.length_set]
theorem zb6:∀(cs xs:List Int) (o:Nat) (A C:List Value),o+cs.length≤xs.length→setM (A++xs.map zu++C) (A.length+o) (cs.map zu)=A++(JS xs o cs).map zu++C
 |[],_,_,_,_,_=>by simp[setM,JS]
 |c::cs,xs,o,A,C,h=>by
  simp only[length_cons] at h
  rw[List.map_cons,setM,JS]
  have:=zb6 cs (xs.set o c) (o+1) A C (by rw[List.length_set];omega)
  rw[List.map_set] at this
  rw[←this]
  congr 1
  rw[append_assoc,List.set_append_right _ _ (by omega),append_assoc]
  congr 1
  rw[show A.length+o-A.length=o by omega,List.set_append_left _ _ (by rw[List.length_map];omega)]
def zcl (h:vI) (c:List Int):vI:=⟨if(h.n+c.length) % 64=0 then xl h.st (JS h.op (h.n % 64) c) else h.st,JS h.op (h.n % 64) c,h.n+c.length⟩
theorem YQ:∀(c:List Int) (h:vI),c≠[]→h.n % 64+c.length≤64→c.foldl xS h=zcl h c
 |[],_,hn,_=>absurd rfl hn
 |[x],h,_,_=>by simp[xS,zcl,JS]
 |x::y::r,h,_,hl=>by
  simp only[length_cons] at hl
  have e:(h.n+1) % 64=h.n % 64+1:=by omega
  rw[List.foldl_cons,YQ (y::r) (xS h x) (by simp) (by simp only[xS,length_cons];omega)]
  have a:(xS h x).n=h.n+1:=rfl
  have b:(xS h x).op=h.op.set (h.n % 64) x:=rfl
  have d:(xS h x).st=h.st:=by unfold xS;simp only[];rw[if_neg (by omega)]
  unfold zcl
  rw[a,b,d,e,show h.n+1+(y::r).length=h.n+(x::y::r).length by simp only[length_cons];omega]
  rfl
def yK (h:vI):List Value:=h.st.map yJ++h.op.map zu++[.int .u64 h.n]
structure qE (h:vI):Prop where
 st:h.st.length=8
 op:h.op.length=64
theorem Xk (S B:List Int):(xl S B).length=8:=rfl
theorem qE.add {h:vI} (ok:qE h) (x:Int):qE (xS h x):=⟨by unfold xS;simp only[];split;exact Xk _ _;exact ok.st,by simp[xS,ok.op]⟩
theorem qE.adds:∀ {l:List Int} {h:vI},qE h→qE (l.foldl xS h)
 |[],_,ok=>ok
 |x::r,_,ok=>qE.adds (l:=r) (ok.add x)
theorem JG:∀(l:List Int) (h:vI),(l.foldl xS h).n=h.n+l.length
 |[],_=>rfl
 |x::r,h=>by
  rw[List.foldl_cons,JG r]
  simp only[xS,length_cons]
  omega
theorem zbv {h:vI} (ok:qE h):(yK h).length=73:=by simp[yK,ok.st,ok.op]
theorem qV {p:Nat} {h:vI} {T:TypeId} (ok:qE h) (c:w.heap[p]? =some (.cells (yK h).toArray T (0,0))):
  w.rangeAt p 0 (h.st.map yJ)∧w.rangeAt p 8 (h.op.map zu)∧w.cell? ⟨p,72,none⟩=some (.int .u64 h.n):=by
 have r:=xy c
 refine⟨λj v a=>r j v ?_,λj v a=>?_,?_⟩
 ·have:=(List.getElem?_eq_some_iff.1 a).1
  rw[yK,append_assoc,List.getElem?_append_left this];exact a
 ·have b:=(List.getElem?_eq_some_iff.1 a).1
  have:=r (8+j) v (by
   rw[yK,append_assoc,List.getElem?_append_right (by simp[ok.st]),List.getElem?_append_left (by simp[ok.st] at b⊢;omega)]
   simpa[ok.st] using a)
  rwa [Nat.zero_add] at this
 ·have:=r 72 (.int .u64 h.n) (by
   rw[yK,List.getElem?_append_right (by simp[ok.st,ok.op])]
   simp[ok.st,ok.op])
  simpa using this
end Go.Proofs.YtmpamcnlineceaaGreatDoor
