/- pool, plain: the best mined, and taken off again. -/
import Derived.Test.YtbcllfjmabiafaaGreatDoorPG26
set_option linter.unusedVariables false
set_option linter.unusedSimpArgs false
set_option linter.unnecessarySimpa false
set_option linter.all false
set_option maxRecDepth 20000
set_option maxHeartbeats 16000000
namespace Go.Proofs.YtbcllfjmabiafaaGreatDoor
open Go Go.RowKit Go.Maps Go.MapKept
open Go.Proofs.Tryz(prog)
open List(mem_map mem_append length_append mem_filter length_cons nodup_append mem_append_left)
section
variable {S S':List zn} {I:List zf} {L B R:List zL}
theorem ZK {A:List zL} (a:(zR A).Nodup) {p:zL} (c:p∈A) {q:zx} (hi:p.id=q.tx) {o:yC} (b:p.tx.outs[q.n.toNat]? =some o):yS A q=some o:=by
 unfold yS
 rw[←hi,ZJ a c]
 exact b
def J5 (L B:List zL):List zL:=L.filter λe=>decide (e.id∉zR B)
theorem Yx {e:zL}:e∈J5 L B↔e∈L∧e.id∉zR B:=by simp[J5]
theorem zaU (L B:List zL):zR (J5 L B)=(zR L).filter λx=>decide (x∉zR B):=by
 unfold J5 zR
 rw[List.filter_map]
 rfl
theorem zfy (h:(zR L).Nodup) (B:List zL):(zR (J5 L B)).Nodup:=by rw[zaU];exact h.sublist List.filter_sublist
theorem zgE (A:List zL) (e:zL) (B:List zL):J5 (A++[e]) B=J5 A B++if e.id∈zR B then[] else[e]:=by
 unfold J5
 rw[List.filter_append]
 by_cases h:e.id∈zR B
 ·rw[if_pos h,List.filter_cons_of_neg (by simpa using h)];rfl
 ·rw[if_neg h,List.filter_cons_of_pos (by simpa using h)];rfl
structure QV (S':List zn) (I':List zf) (L A' R:List zL):Prop where
 val:xy S' I' R
 both:qW R=qW A'
 anc:zcT R L
theorem QV.nil (S':List zn) (a:List zf) (L:List zL):QV S' a L [] []:=⟨.nil,rfl,zcT.nil L⟩
theorem QV.step {c:List zf} {b:List zL} (h:QV S' c L b R) (k:xy S I L) (d:∀a∈b,a∈L) (l:b.length<32) {A C:List zL} {e:zL}
  (o:L=A++e::C) (hi:e.id∉c) (m:e.id∉zR b) (n:∀q∈z6 e.tx,xF S' b q=xF S A q∧((yS b q).isSome=true→(yS A q).isSome=true)) (now:Int):
  QV S' c L (b++[e]) (qM S' c R e.tx now):=by
 obtain⟨p,r,g,i,j⟩:=zli k h.val h.both h.anc d (by rw[zc0 h.both];exact l) o hi m n now
 have f:=h.val.acc e.tx now
 rw[g] at f⊢
 exact⟨f,i,j⟩
theorem zch (k:xy S I L) (N:L.length≤32) (srt:qF S) (hok:∀e∈L,∀q∈z6 e.tx,0≤q.n) (F:Vx S L B) {s:StD} (hr:zcU S B s) {m:List zf} (O:∀x,x∈m↔x∈I∨x∈zR B):
  ∀(C P:List zL) {R:List zL},L=P++C→QV s.S m L (J5 P B) R→QV s.S m L (J5 L B) (JE s.S m R C)
 |[],P,R,hs,h=>by
  rw[List.append_nil] at hs
  rw[hs]
  rw[hs] at h
  exact h
 |e::C,P,R,hs,h=>by
  have ab:L=(P++[e])++C:=by rw[hs];simp
  have X:e∈L:=by rw[hs];simp
  obtain⟨hc,W,-⟩:=k.ent e X
  obtain⟨r1,r2,K⟩:=hr
  have f:=k.nd
  have U:e.id∉zR P:=λc=>by
   rw[hs,xq] at f
   exact(nodup_append.1 f).2.2 _ c e.id (by simp[zR]) rfl
  show QV s.S m L (J5 L B) (JE s.S m (qM s.S m R e.tx e.added) C)
  refine zch k N srt hok F ⟨r1,r2,K⟩ O C (P++[e]) ab ?_
  rw[zgE]
  by_cases hb:e.id∈zR B
  ·rw[if_pos hb,List.append_nil]
   have:qM s.S m R e.tx e.added=R:=by
    unfold qM
    rw[if_neg]
    intro h0
    have d:=XK (zi6 h0).2.1
    exact d.2.1 ((O _).2 (.inr (by rw[←W];exact hb)))
   rw[this]
   exact h
  ·rw[if_neg hb]
   have w:∀b∈B,∀q∈z6 e.tx,q∉z6 b.tx:=λb g q r E=>by
    have D:=k.apart
    have u:=F.sub b g
    have Y:b≠e:=λc=>hb (by rw[←c];exact mem_map.2 ⟨b,g,rfl⟩)
    rw[hs] at D u
    obtain⟨-,p2,p3⟩:=List.pairwise_append.1 D
    rcases mem_append.1 u with d|d
    ·exact p3 b d e (by simp) q E r
    ·rcases List.mem_cons.1 d with d|d
     ·exact Y d
     ·exact(List.pairwise_cons.1 p2).1 b d q r E
   refine h.step k (λa l=>by rw[hs];exact mem_append_left _ (Yx.1 l).1) ?_ hs ?_ ?_ (λq r=>⟨?_,λhf=>?_⟩) e.added
   ·have d:(J5 P B).length≤P.length:=List.length_filter_le _ _
    have t:=congrArg List.length hs
    simp only[length_append,length_cons] at t
    omega
   ·rw[O]
    rintro(c|c)
    ·exact(k.ent e X).2.2.1 c
    ·exact hb c
   ·intro c
    obtain⟨a,l,n⟩:=mem_map.1 c
    exact U (by rw[←n];exact mem_map.2 ⟨a,(Yx.1 l).1,rfl⟩)
   ·rcases k.spends hs r with⟨d,t⟩|⟨d,p,hp,hi,ad,o,G,t⟩
    ·have j:(⟨q,zZ S q⟩:zn)∈s.S:=(K _).2 ⟨.inl (Qu srt d),λa l=>w a l q r⟩
     rw[t]
     unfold xF
     rw[if_pos (qt.2 ⟨_,j,rfl⟩)]
     exact congrArg some (zaa r1 j)
    ·have z:p∈L:=by rw[hs];simp[hp]
     have A:p.id=idH p.tx:=(k.ent p z).2.1
     rw[t]
     unfold xF
     by_cases hpB:p.id∈zR B
     ·obtain⟨H,y,aa⟩:=mem_map.1 hpB
      have:H=p:=Jf f (F.sub H y) z aa
      subst this
      have j:(⟨q,o⟩:zn)∈s.S:=(K _).2 ⟨.inr ⟨H,y,vO.2 ⟨q.n.toNat,G,by
       show q=⟨idH H.tx,(q.n.toNat:Int)⟩
       rw[←A,hi,Int.toNat_of_nonneg (hok e X q r)]⟩⟩,λa l=>w a l q r⟩
      rw[if_pos (qt.2 ⟨_,j,rfl⟩)]
      exact congrArg some (zaa r1 j)
     ·have Z:yV s.S q=false:=by
       cases hh:yV s.S q with
       |false=>rfl
       |true=>
        exfalso
        obtain⟨c,T,v⟩:=qt.1 hh
        rcases((K c).1 T).1 with M|⟨b,g,M⟩
        ·rw[qt.2 ⟨c,M,v⟩] at d;cases d
        ·obtain⟨i,-,V⟩:=vO.1 M
         have h4:b.id=idH b.tx:=(k.ent b (F.sub b g)).2.1
         have h5:q.tx=idH b.tx:=by rw[←v,V]
         exact hpB (by rw[hi,h5,←h4];exact mem_map.2 ⟨b,g,rfl⟩)
      rw[if_neg (by rw[Z];decide)]
      exact ZK (zfy (by rw[hs,xq] at f;exact(nodup_append.1 f).1) B) (Yx.2 ⟨hp,hpB⟩) hi G
   ·obtain⟨o,G⟩:=Option.isSome_iff_exists.1 hf
    obtain⟨a,l,n,Q⟩:=JV G
    rw[ZK (by rw[hs,xq] at f;exact(nodup_append.1 f).1) (Yx.1 l).1 n Q]
    rfl
theorem zbb (g:xy S I L) (hok:∀e∈L,∀q∈z6 e.tx,0≤q.n) (b:Vx S L B) (G:B.length≤32) (now:Int):
  ∀(C A':List zL) {R:List zL},B=A'++C→QV S I L A' R→QV S I L B (JW S I R (C.map (·.tx)) now)
 |[],A',R,hs,h=>by
  rw[List.append_nil] at hs
  rw[hs]
  exact h
 |e::C,A',R,hs,h=>by
  show QV S I L B (JW S I (qM S I R e.tx now) (C.map (·.tx)) now)
  refine zbb g hok b G now C (A'++[e]) (by rw[hs];simp) ?_
  have u:e∈L:=b.sub e (by rw[hs];simp)
  obtain⟨A,D,d⟩:=List.append_of_mem u
  have l:=b.nd
  rw[hs,xq] at l
  have k:=nodup_append.1 l
  refine h.step g (λa n=>b.sub a (by rw[hs];simp[n])) (by have:=congrArg List.length hs;simp only[length_append,length_cons] at this;omega) d (g.ent e u).2.2.1 (λc=>k.2.2 _ c e.id (by simp[zR]) rfl) (λq z=>?_) now
  rcases g.spends d z with⟨i,f⟩|⟨i,p,H,hi,y,o,v,f⟩
  ·refine⟨by rw[f];unfold xF;rw[if_pos i],λt=>?_⟩
   exfalso
   obtain⟨o,v⟩:=Option.isSome_iff_exists.1 t
   obtain⟨a,n,r,s⟩:=JV v
   have j:a∈B:=by rw[hs];simp[n]
   have F:a.id=idH a.tx:=(g.ent a (b.sub a j)).2.1
   have:=b.new a j ⟨q,o⟩ (vO.2 ⟨q.n.toNat,s,by
    show q=⟨idH a.tx,(q.n.toNat:Int)⟩
    rw[←F,r,Int.toNat_of_nonneg (hok e u q z)]⟩)
   rw[i] at this
   cases this
  ·have w:p.id∈zR A':=b.top A' e C hs p.id y
   obtain⟨E,m,x⟩:=mem_map.1 w
   have:E=p:=Jf g.nd (b.sub E (by rw[hs];simp[m])) (by rw[d];simp[H]) x
   subst this
   have t:=ZK k.1 m hi v
   refine⟨by rw[f];unfold xF;rw[if_neg (by rw[i];decide)];exact t,λ_=>?_⟩
   unfold xF at f
   rw[if_neg (by rw[i];decide)] at f
   rw[f]
   rfl
theorem zba (t:xy S I L) (M:L.length≤32) (hok:∀e∈L,∀q∈z6 e.tx,0≤q.n) (u:Vx S L B):
  ∀(R1 Q P:List zL) {R:List zL},J5 L B=P++Q→qW R1=qW Q→QV S I L (B++P) R→QV S I L (B++J5 L B) (JE S I R R1)
 |[],Q,P,R,hs,hb,h=>by
  have:Q=[]:=List.length_eq_zero_iff.1 (by have:=zc0 hb;simpa using this.symm)
  rw[this,List.append_nil] at hs
  rw[hs]
  exact h
 |e1::R1,[],P,R,hs,hb,h=>by simp[qW] at hb
 |e1::R1,e::Q,P,R,hs,hb,h=>by
  simp only[qW,List.map_cons,List.cons.injEq,Prod.mk.injEq] at hb
  obtain⟨⟨ae,N⟩,O⟩:=hb
  show QV S I L (B++J5 L B) (JE S I (qM S I R e1.tx e1.added) R1)
  refine zba t M hok u R1 Q (P++[e]) (by rw[hs];simp) O ?_
  rw[N,←List.append_assoc]
  have Y:e∈J5 L B:=by rw[hs];simp
  obtain⟨V,E⟩:=Yx.1 Y
  obtain⟨l1,l2,hl,A,U⟩:=List.filter_eq_append_iff.1 (show L.filter (λe=>decide (e.id∉zR B))=P++e::Q from hs)
  obtain⟨m1,m2,W,X,af,ag⟩:=List.filter_eq_cons_iff.1 U
  have g:L=(l1++m1)++e::m2:=by rw[hl,W];simp
  have k:=t.nd
  have m:=zfy k B
  rw[hs,xq] at m
  have H:=nodup_append.1 m
  have z:e.id∉zR P:=λc=>H.2.2 _ c e.id (by simp[zR]) rfl
  have r:∀a∈P,a∈l1++m1∧a.id∉zR B:=λa f=>by
   rw[←A] at f
   obtain⟨d,v⟩:=mem_filter.1 f
   exact⟨mem_append_left _ d,by simpa using v⟩
  have l:(zR (B++P)).Nodup:=by
   rw[xq]
   refine nodup_append.2 ⟨u.nd,H.1,λa f b j s=>?_⟩
   obtain⟨x,hx,ad⟩:=mem_map.1 j
   exact(r x hx).2 (by rw[ad,←s];exact f)
  have n:∀a∈B++P,a∈L:=λa f=>by
   rcases mem_append.1 f with d|d
   ·exact u.sub a d
   ·rw[g];exact mem_append_left _ (r a d).1
  have C:(B++P).length<32:=by
   have:(zR (B++P++[e])).length≤(zR L).length:=xB (by
    rw[xq]
    refine nodup_append.2 ⟨l,by simp[zR],λa f b j s=>?_⟩
    simp only[zR,List.map_cons,List.map_nil,List.mem_singleton] at j
    rw[s,j,xq] at f
    rcases mem_append.1 f with c|c
    ·exact E c
    ·exact z c) λx hx=>by
     obtain⟨a,f,i⟩:=mem_map.1 hx
     rw[←i]
     rcases mem_append.1 f with d|d
     ·exact mem_map.2 ⟨a,n a d,rfl⟩
     ·rw[List.mem_singleton.1 d];exact mem_map.2 ⟨e,V,rfl⟩
   rw[xd,xd,length_append,List.length_singleton] at this
   omega
  refine h.step t n C g (t.ent e V).2.2.1 (λc=>?_) (λq hq=>?_) e1.added
  ·rw[xq] at c
   rcases mem_append.1 c with c|c
   ·exact E c
   ·exact z c
  ·have D:(zR (l1++m1)).Nodup:=by rw[g,xq] at k;exact(nodup_append.1 k).1
   rcases t.spends g hq with⟨d,v⟩|⟨d,p,Z,hi,ah,o,K,v⟩
   ·refine⟨by rw[v];unfold xF;rw[if_pos d],λT=>?_⟩
    obtain⟨o,K⟩:=Option.isSome_iff_exists.1 T
    obtain⟨a,f,i,y⟩:=JV K
    rcases mem_append.1 f with haB|haP
    ·exfalso
     have w:a.id=idH a.tx:=(t.ent a (u.sub a haB)).2.1
     have:=u.new a haB ⟨q,o⟩ (vO.2 ⟨q.n.toNat,y,by
      show q=⟨idH a.tx,(q.n.toNat:Int)⟩
      rw[←w,i,Int.toNat_of_nonneg (hok e V q hq)]⟩)
     rw[d] at this
     cases this
    ·rw[ZK D (r a haP).1 i y]
     rfl
   ·have aa:p∈L:=by rw[g];exact mem_append_left _ Z
    have G:p∈B++P:=by
     by_cases hpB:p.id∈zR B
     ·obtain⟨p',F,ab⟩:=mem_map.1 hpB
      have:p'=p:=Jf k (u.sub p' F) aa ab
      rw[←this]
      exact mem_append_left _ F
     ·refine List.mem_append_right _ ?_
      rw[←A]
      rcases mem_append.1 Z with w|w
      ·exact mem_filter.2 ⟨w,by simpa using hpB⟩
      ·exact absurd (by simpa using hpB) (X p w)
    have T:=ZK l G hi K
    refine⟨by rw[v];unfold xF;rw[if_neg (by rw[d];decide)];exact T,λ_=>?_⟩
    rw[ZK D Z hi K]
    rfl
end
section
variable {w0 w w':World} {pc pp N N':Nat} {T X T' X':Nat→Prop} {A A':PB} {B:Nat} {u v:Value} {l:List TxD}
def TxB (T:Nat→Prop) (B:Nat) (w:World) (v:Value) (l:List TxD):Prop:=∃css B' V,vl B' 27 3 TxQ V w v l css∧(∀j,B≤j→V j)∧∀j,v.ownBlock=some j→¬T j∧j<B
theorem TxR.upto (h:TxR T w v l) (d:w.heap.size≤B):TxB T B w v l:=by
 obtain⟨css,c,V,b,g,f⟩:=h
 exact⟨css,c,λj=>V j∨B≤j,b.vary (λj a e=>e.resolve_right (by omega)),λj a=>.inr a,λj a=>⟨f j a,Nat.lt_of_lt_of_le (b.lt j a).2 d⟩⟩
theorem TxB.fr0 (h:TxB T B w v l) (f:Fr No w w'):TxB T B w' v l:=by
 obtain⟨css,a,V,d,b,c⟩:=h
 exact⟨css,a,V,d.fr0 f,b,c⟩
theorem TxB.app (h:TxB T B w v l) (f:Fr (λj=>u.ownBlock=some j) w w') (c:∀j,u.ownBlock=some j→B≤j):TxB T B w' v l:=by
 obtain⟨css,d,V,i,a,b⟩:=h
 exact⟨css,d,V,ze4 i f (λj _ e=>a j (c j e)) (λj g e=>by have:=(b j g).2;have:=c j e;omega) (λ_ _ e=>e),a,b⟩
theorem TxB.txs (h:TxB T B w v l) (a:l.length≤1000):j7 w v l:=by
 obtain⟨css,c,V,b,d,f⟩:=h
 exact(b.rows (U:=No) (by decide) (Nat.le_trans a (by decide)) (λ_ _ e=>e.elim) (λ_ _ e=>e)).now
theorem TxB.at_ (h:TxB T B w v l) {i:Nat} {t:TxD} (b:l[i]? =some t):∃g cap cs,v=.slice (some ⟨g,0,none⟩) l.length cap∧w.rangeAt g (i*3) cs∧Kept (λj=>B≤j) w (λw=>TxQ w t cs):=by
 obtain⟨css,d,V,a,c,k⟩:=h
 obtain⟨cs,hc⟩:∃cs,css[i]? =some cs:=⟨_,List.getElem?_eq_getElem (by rw[a.cl];exact(List.getElem?_eq_some_iff.1 b).1)⟩
 obtain⟨g,cap,e,r,-⟩:=yZ (f:=id) (by decide) (λx b=>a.ck x b) a.row hc
 exact⟨g,cap,cs,e,r,(a.data i t cs b hc).step (Fr.refl _ _) (λj _ e=>.inl (c j e))⟩
theorem zja (a:Option Addr) (n c:Nat) (w:World):(Instr.build 65 #[(2,.slice a n c)]).run prog w=.ok (.agg [.int .u64 0,.slice none 0 0,.slice a n c].toArray) w:=by kernel_rfl
theorem zjH:∀m:List zf,(∀x∈m,zV x)→(m.flatMap zd).length=m.length*32
 |[],_=>rfl
 |x::m,h=>by
  rw[List.flatMap_cons,length_append,zu (h x (List.mem_cons_self ..)),zjH m (λy a=>h y (List.mem_cons_of_mem _ a)),length_cons]
  omega
theorem zfY {B B2:Nat} {u v:Value} {k m:List zf} (g:w.ownsRow B 45 32 v k.length (k.flatMap zd)) (i:w.ownsRow B2 45 32 u m.length (m.flatMap zd)) (ok:∀x∈m,zV x) (o:k.length+m.length≤100000) (f:B≤w.heap.size) (ty:TypeId):
  ∃a w',(Builtin.append_ #[37,37] ty #[v,u]).run prog w=.ok a w'∧w'.ownsRow B 45 32 a (k.length+m.length) ((k++m).flatMap zd)∧Fr (λj=>v.ownBlock=some j) w w'∧∀j,a.ownBlock=some j→v.ownBlock=some j∨w.heap.size≤j:=by
 obtain⟨a,w',b,c,d,e⟩:=Zq (P:=prog) w B 37 ty 45 32 32 _ y7 xA rfl (by decide) v k.length _ g u m.length _ i.slice (zjH m ok) (λy n=>by obtain⟨x,-,h⟩:=List.mem_flatMap.1 n;exact zE y h) (by omega) (by unfold maxLen;omega) f
 exact⟨a,w',b,by rw[List.flatMap_append];exact c,d,e⟩
end
section
variable {w0 w:World} {pc pp N:Nat} {T X:Nat→Prop} {A:PB} {B:List zL}
theorem PS.srt (h:PS w0 w pc pp T X N A):qF A.S:=by
 obtain⟨b,css,d,e,g,c,a,h,rfl⟩:=h
 exact h.ch.g.hok.srt
theorem PS.nok (h:PS w0 w pc pp T X N A):∀e∈A.L,∀q∈z6 e.tx,0≤q.n:=λe a q b=>by
 obtain⟨x,c,rfl⟩:=mem_map.1 b
 exact((h.txok e a).1 x c).2.1
theorem PS.topo (h:PS w0 w pc pp T X N A) {n:Nat} (a:∀e∈yz A.L n,∀c∈yN e.tx,yV A.S c.at_=false):Vx A.S A.L (yz A.L n):=zhL h.facts.2.2.2.1 n a
theorem PS.conn (h:PS w0 w pc pp T X N A) (b:Vx A.S A.L B) (f:B.length≤16) (i:A.bs.length≤200) (a:Int):qs (zS A.bs) A.S A.bs ⟨a,[],B.map (·.tx)⟩=0:=by
 have c:vy ⟨a,[],B.map (·.tx)⟩=true:=by
  unfold vy
  refine Bool.and_eq_true_iff.2 ⟨rfl,Bool.and_eq_true_iff.2 ⟨by simpa using f,List.all_eq_true.2 λt g=>?_⟩⟩
  obtain⟨e,d,rfl⟩:=mem_map.1 g
  exact(jd (h.facts.2.2.2.1.ent e (b.sub e d)).1).1
 unfold qs
 rw[if_neg (by omega),if_pos c,if_neg (by simp)]
 exact(zdF h.facts.2.2.2.1 h.srt h.nok b a).1
structure zl9 (A:PB) (B:List zL) (S1:List zn) (d:yx) (L1:List zL) (tag now:Int):Prop where
 rest:zR L1=(zR A.L).filter λx=>decide (x∉zR B)
 out:XY S1 (zS (A.bs++[d])) A.L [] now=(zR A.L).filter λx=>decide (x∈zR B)
 undo:xP d.chg S1=A.S
 txs:d.blk.txs=B.map (·.tx)
 back:XY A.S (zS A.bs) L1 (B.map (·.tx)) now=[]
 all:zR (Zo A.S (zS A.bs) L1 (B.map (·.tx)) now)=zR B++(zR A.L).filter λx=>decide (x∉zR B)
theorem zgh {l k:List zf}:(l.filter λx=>decide (x∉l.filter λy=>decide (y∉k)))=l.filter λx=>decide (x∈k):=by
 refine List.filter_congr λx a=>?_
 simp[a]
theorem PS.mined (h:PS w0 w pc pp T X N A) (f:Vx A.S A.L B) (z:B.length≤16) (a now:Int):
  zl9 A B (doR (zS A.bs) A.S ⟨a,[],B.map (·.tx)⟩).S (doR (zS A.bs) A.S ⟨a,[],B.map (·.tx)⟩).d (Zo (doR (zS A.bs) A.S ⟨a,[],B.map (·.tx)⟩).S (zS (A.bs++[(doR (zS A.bs) A.S ⟨a,[],B.map (·.tx)⟩).d])) A.L [] now) a now:=by
 have g:=h.facts.2.2.2.1
 have d:=h.facts.2.2.2.2.1
 obtain⟨D,m⟩:=zdF (I:=zS A.bs) g h.srt h.nok f a
 have i:=zdZ (K:=zS A.bs) h.srt h.facts.2.2.2.2.2.1 (b:=⟨a,[],B.map (·.tx)⟩) (λt C x c=>by
  obtain⟨e,y,rfl⟩:=mem_map.1 C
  exact(h.txok e (f.sub e y)).2 x c) (λx c=>by cases c) (by simpa using z) (by simp)
 have n:_∧_:=⟨i.2.2.2.1,congrArg qf.txs i.2.2.2.2.1⟩
 clear i
 generalize doR (zS A.bs) A.S ⟨a,[],B.map (·.tx)⟩=r at*
 have s:∀x,x∈zS (A.bs++[r.d])↔x∈zS A.bs∨x∈zR B:=λx=>by
  rw[Vl,mem_append,show r.d.ids=zR B from m.2.1]
 have k:=zch g d h.srt h.nok f m s A.L [] rfl (QV.nil _ _ _)
 have j:zR (Zo r.S (zS (A.bs++[r.d])) A.L [] now)=(zR A.L).filter λx=>decide (x∉zR B):=by
  rw[←zaU]
  exact zaF k.both
 have p:=zbb g h.nok f (by omega) now B [] rfl (QV.nil _ _ _)
 have q:=zba g d h.nok f (Zo r.S (zS (A.bs++[r.d])) A.L [] now) (J5 A.L B) [] rfl k.both (by rw[List.append_nil];exact p)
 have o:zR (Zo A.S (zS A.bs) (Zo r.S (zS (A.bs++[r.d])) A.L [] now) (B.map (·.tx)) now)=zR B++(zR A.L).filter λx=>decide (x∉zR B):=by
  rw[←zaU,←xq]
  exact zaF q.both
 refine⟨j,?_,n.1,n.2,?_,o⟩
 ·unfold XY
  rw[j]
  exact zgh
 ·unfold XY
  rw[o,j,List.filter_eq_nil_iff]
  intro x c
  simp[(mem_filter.1 c).1,(mem_filter.1 c).2]
end
end Go.Proofs.YtbcllfjmabiafaaGreatDoor
