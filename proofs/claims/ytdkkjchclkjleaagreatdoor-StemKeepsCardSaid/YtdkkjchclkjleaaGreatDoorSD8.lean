/- stem: a chain, a pool and sources' pools beside one another. -/
import Derived.Laws.BytesArg
import Derived.Laws.BytesString
import Derived.Laws.Strings
import Derived.Test.YtdkkjchclkjleaaGreatDoorProg
import Derived.Lib.Hide
import Derived.Test.YtdkkjchclkjleaaGreatDoorSD7
import Derived.Test.YtdkkjchclkjleaaGreatDoorSD6
import Derived.Test.YtdkkjchclkjleaaGreatDoorSD3
import Derived.Test.YtdkkjchclkjleaaGreatDoorSD1
import Derived.Test.YtdkkjchclkjleaaGreatDoorSD2
import Derived.Test.YtdkkjchclkjleaaGreatDoorSD5
set_option linter.unusedVariables false
set_option linter.unusedSimpArgs false
set_option linter.unnecessarySimpa false
set_option linter.all false
set_option maxRecDepth 20000
set_option maxHeartbeats 16000000
namespace Go.Proofs.YtdkkjchclkjleaaGreatDoor
open Go Go.RowKit Go.Maps Go.MapKept
open Go.Proofs.Tryz(prog)
open Nat(le_refl zero_le le_trans zero_add lt_of_lt_of_le)
open List(getElem?_eq_getElem mem_append mem_of_getElem? mem_cons length_map mem_singleton)
variable {B N N' a b c d fuel g i ma ms n o p ps:Nat} {T X X' m:Nat→Prop} {cs:List Value} {s:Int} {v:Value} {w:World}
structure WA where
 S0:List zr
 S:List zr
 bs:List yB
 L:List yd
 Q:StQ
theorem zmr {w0 c w:World} {V X:Nat→Prop} {i S:List zr} {d:List yB} {css:List (List Value)} (h:CX w0 w p V X i S d css) (f:Fr No c w0):CX c w p V X i S d css:=by
 obtain⟨n,s,U,l,k,M,a,m,g,b⟩:=h.gd
 have q:CS c w s U S:={a.set with lo:=λj o=>le_trans f.size (a.set.lo j o),fr:=f.trans0 a.set.fr}
 have e:qS c w p s U l k css ⟨S,d,M⟩:={a with set:=q,row:=yU a.row f.size,lo1:=le_trans f.size a.lo1,lo2:=le_trans f.size a.lo2}
 exact {h with gd:=⟨n,s,U,l,k,M,e,m,g,b⟩}
structure WP (w0 w:World) (pc:Nat) (VC:Nat→Prop) (css:List (List Value)) (pp ma ms g:Nat) (VG:Nat→Prop) (CP:zd→List Value) (N ps ka ks:Nat) (R:Nat→Value) (CS:Nat→zd→List Value) (X:Nat→Prop) (A:WA):Prop where
 ch:CX w0 w pc VC X A.S0 A.S A.bs css
 po:yq w0 w pp ma ms g VG X CP A.L N
 st:yO w0 w ps ka ks R X CS A.Q
 cp:∀j,VC j→¬poV pp ma ms VG j
 csd:∀j,VC j→¬stV ps ka ks R j
 psd:∀j,poV pp ma ms VG j→¬stV ps ka ks R j
 cx:∀j,VC j→X j
 xl:∀j,X j→j<w.heap.size
 val:vS A.S (ye A.bs) A.L
 l32:A.L.length≤32
 ad:∀e∈A.L,e.added=0
def wT (VC:Nat→Prop) (pp ma ms:Nat) (VG:Nat→Prop) (ps ka ks:Nat) (R:Nat→Value):Nat→Prop:=λj=>VC j∨poV pp ma ms VG j∨stV ps ka ks R j
def WS (w0 w:World) (pc pp ps:Nat) (T X:Nat→Prop) (N:Nat) (A:WA):Prop:=
 ∃VC css ma ms g VG CP ka ks R CS,WP w0 w pc VC css pp ma ms g VG CP N ps ka ks R CS X A∧T=wT VC pp ma ms VG ps ka ks R
section
variable {w0 w w':World} {pc pp ps N:Nat} {T X:Nat→Prop} {A:WA}
theorem WS.facts (h:WS w0 w pc pp ps T X N A):(∀j,T j→w0.heap.size≤j∧j<w.heap.size∧X j)∧(∀j,X j→j<w.heap.size)∧Fr No w0 w∧vS A.S (ye A.bs) A.L∧A.L.length≤32∧(∀c∈A.S,c.ok)∧∀i,SVal (A.Q i):=by
 obtain⟨d,css,ma,ms,g,f,b,k,l,R,CS,h,rfl⟩:=h
 refine⟨λj a=>?_,h.xl,h.po.fr,h.val,h.l32,h.ch.g.hok.ok,h.st.val⟩
 rcases a with e|e|e
 ·exact⟨h.ch.g.lo j e,h.ch.g.hi j e,h.cx j e⟩
 ·exact⟨h.po.lo j e,h.po.hi j e,h.po.sub j e⟩
 ·exact⟨h.st.lo j e,h.st.hi j e,h.st.sub j e⟩
theorem WS.frV (h:WS w0 w pc pp ps T X N A) {U X':Nat→Prop} (f:Fr U w w') (d:∀j,T j→¬U j) (c:∀j,U j→w0.heap.size≤j) (b:∀j,U j→X j) (e:∀j,j<w.heap.size→X' j→X j) (i:∀j,T j→X' j) (n:∀j,X' j→j<w'.heap.size):WS w0 w' pc pp ps T X' N A:=by
 obtain⟨l,css,ma,ms,g,m,k,o,p,R,CS,h,rfl⟩:=h
 exact⟨l,css,ma,ms,g,m,k,o,p,R,CS,
  {ch:=h.ch.frV f (λj a=>d j (.inl a)) c b e
   po:=h.po.frV f (λj a=>d j (.inr (.inl a))) c b e (λj a=>i j (.inr (.inl a)))
   st:=h.st.frV f (λj a=>d j (.inr (.inr a))) c b e (λj a=>i j (.inr (.inr a)))
   cp:=h.cp
   csd:=h.csd
   psd:=h.psd
   cx:=λj a=>i j (.inl a)
   xl:=n
   val:=h.val
   l32:=h.l32
   ad:=h.ad},rfl⟩
theorem WS.fr0 (h:WS w0 w pc pp ps T X N A) (f:Fr No w w'):WS w0 w' pc pp ps T X N A:=
 h.frV f (λ_ _=>id) (λ_ h=>h.elim) (λ_ h=>h.elim) (λ_ _ h=>h) (λj a=>(h.facts.1 j a).2.2) (λj a=>lt_of_lt_of_le (h.facts.2.1 j a) f.size)
theorem WS.more (h:WS w0 w pc pp ps T X N A) (d:N≤N'):WS w0 w pc pp ps T X N' A:=by
 obtain⟨b,css,ma,ms,g,c,a,f,i,R,CS,h,e⟩:=h
 exact⟨b,css,ma,ms,g,c,a,f,i,R,CS,{h with po:=h.po.mono d},e⟩
structure xV (w0 w w':World) (pc pp ps:Nat) (T X:Nat→Prop) (N:Nat) (A':WA) (T' X':Nat→Prop):Prop where
 ws:WS w0 w' pc pp ps T' X' N A'
 fr:Fr T w w'
 tn:∀j,T' j→T j∨w.heap.size≤j
 xn:∀j,X' j→X j∨w.heap.size≤j
 xx:∀j,X j→X' j
theorem WS.idle (h:WS w0 w pc pp ps T X N A) (f:Fr No w w'):xV w0 w w' pc pp ps T X N A T X:=
 ⟨h.fr0 f,f.of0,λ_ h=>.inl h,λ_ h=>.inl h,λ_ h=>h⟩
noncomputable def vz (A:WA) (i:Int) (t:TxD):Int:=if i<0∨64<i then 2 else jL A.S (ye A.bs) A.L (A.Q i.toNat) t
noncomputable def qE (A:WA) (i:Int) (t:TxD):WA:=if i<0∨64<i then A else {A with Q:=jg A.Q i.toNat (Y3 A.S (ye A.bs) A.L (A.Q i.toNat) t)}
theorem zd9 {l:Nat→Prop} {css:List (List Value)} {o:zd→List Value} {R k:Nat→Value} {CS i:Nat→zd→List Value} {p:StQ}
  (h:WP w0 w pc l css pp ma ms g m o N ps b c R CS X A) (f:Fr (stV ps b c R) w w') (t:yO w0 w' ps b c k X' i p) (d:∀j,stV ps b c k j→stV ps b c R j∨w.heap.size≤j) (n:∀j,X j→X' j) (q:∀j,X' j→X j∨w.heap.size≤j) (s:∀j,X' j→j<w'.heap.size):
  xV w0 w w' pc pp ps (wT l pp ma ms m ps b c R) X N {A with Q:=p} (wT l pp ma ms m ps b c k) X':=by
 have r:∀j,j<w.heap.size→X' j→X j:=λj a e=>(q j e).resolve_right (by omega)
 refine⟨⟨l,css,ma,ms,g,m,o,b,c,k,i,?_,rfl⟩,f.mono (λj e=>.inr (.inr e)),λj a=>?_,q,n⟩
 ·exact
   {ch:=h.ch.frV f h.csd h.st.lo h.st.sub r
    po:=h.po.frV f h.psd h.st.lo h.st.sub r (λj a=>n j (h.po.sub j a))
    st:=t
    cp:=h.cp
    csd:=λj a e=>(d j e).elim (h.csd j a) (λe=>by have:=h.ch.g.hi j a;omega)
    psd:=λj a e=>(d j e).elim (h.psd j a) (λe=>by have:=h.po.hi j a;omega)
    cx:=λj a=>n j (h.cx j a)
    xl:=s
    val:=h.val
    l32:=h.l32
    ad:=h.ad}
 ·rcases a with e|e|e
  ·exact .inl (.inl e)
  ·exact .inl (.inr (.inl e))
  ·exact(d j e).imp_left (λe=>.inr (.inr e))
theorem YM (p:q9 w) (h:WS w0 w pc pp ps T X N A) (i:Int) {t:TxD} (r:Kept X w (λw=>TxQ w t cs)):
  Calls prog 12 #[.pointer (some ⟨ps,0,none⟩),.pointer (some ⟨pc,0,none⟩),.pointer (some ⟨pp,0,none⟩),.int .i64 i,.agg cs.toArray] w λe w'=>e=.returned (.int .i64 (vz A i t))∧∃o X',xV w0 w w' pc pp ps T X N (qE A i t) o X':=by
 by_cases hi:i<0∨64<i
 ·unfold vz qE
  rw[if_pos hi,if_pos hi]
  exact(zk9 w cs ps pc pp hi).mono λe w' ⟨d,f⟩=>⟨d,T,X,h.idle f⟩
 ·unfold vz qE
  rw[if_neg hi,if_neg hi]
  obtain⟨n,rfl⟩:∃n:Nat,i=(n:Int):=Int.eq_ofNat_of_zero_le (by omega)
  have b:n<65:=by omega
  obtain⟨v,css,ma,ms,g,x,u,y,z,R,CS,h,rfl⟩:=h
  rw[Int.toNat_natCast]
  refine(zmO p h.st h.xl h.po h.ch.g.cn h.ch.g.hok.ok b r).mono λe w' ⟨d,f,B,s,m,l⟩=>⟨d,_,_,zd9 h (f.mono (Jh b)) l (λj a=>?_) (λj a=>.inl a) (λj a=>a.elim .inl (λe=>(m j e).imp_left (λe=>h.st.sub j (.inr (.inr (.inr ⟨n,b,e⟩)))))) (λj a=>?_)⟩
  ·rcases a with e|e|e|⟨k,q,e⟩
   ·exact .inl (.inl e)
   ·exact .inl (.inr (.inl e))
   ·exact .inl (.inr (.inr (.inl e)))
   ·unfold vr at e
    by_cases c:k=n
    ·rw[if_pos c] at e
     exact(m j e).imp_left λe=>.inr (.inr (.inr ⟨n,b,e⟩))
    ·rw[if_neg c] at e
     exact .inl (.inr (.inr (.inr ⟨k,q,e⟩)))
  ·rcases a with e|e
   ·exact lt_of_lt_of_le (h.xl j e) f.size
   ·exact l.hi j (.inr (.inr (.inr ⟨n,b,by rw[Qh];exact e⟩)))
theorem zcy (h:WS w0 w pc pp ps T X N A) (b:n<65):
  Calls prog 13 #[.pointer (some ⟨ps,0,none⟩),.int .i64 n] w λe w'=>∃a,e=.returned a∧RowK w w' a (yM (A.Q n)):=by
 obtain⟨d,css,ma,ms,g,f,c,i,j,R,CS,h,rfl⟩:=h
 exact znx h.st b
theorem WS.ids (h:WS w0 w pc pp ps T X N A) (n:Nat):∀x∈yM (A.Q n),zY x:=by
 obtain⟨b,css,ma,ms,g,c,a,d,e,R,CS,h,rfl⟩:=h
 exact h.st.idok n
theorem WS.pids (h:WS w0 w pc pp ps T X N A):∀x∈xt A.L,zY x:=by
 obtain⟨b,css,ma,ms,g,c,a,d,e,R,CS,h,rfl⟩:=h
 exact h.po.ids
theorem zdN (h:WS w0 w pc pp ps T X N A) (b:N≤1000):
  Calls prog 25 #[.pointer (some ⟨pp,0,none⟩)] w λe w'=>∃a,e=.returned a∧RowK w w' a (xt A.L):=by
 obtain⟨d,css,ma,ms,g,f,c,i,j,R,CS,h,rfl⟩:=h
 exact znw h.po b
theorem ziy (h:WS w0 w pc pp ps T X N A):
  Calls prog 21 #[.pointer (some ⟨ps,0,none⟩)] w λe w'=>∃a,e=.returned a∧w'.ownsRow w.heap.size 3 1 a (ZM A.Q).length ((ZM A.Q).map iV)∧Fr No w w':=by
 obtain⟨c,css,ma,ms,g,d,b,f,i,R,CS,h,rfl⟩:=h
 exact zix h.st
theorem znQ (h:WS w0 w pc pp ps T X N A) (c:n<65) {e:StE} (b:e∈A.Q n):
  Calls prog 30 #[.pointer (some ⟨ps,0,none⟩),.int .i64 n,.agg (zf e.id).toArray] w λa w'=>∃cs,a=.returned (.tuple #[.agg cs.toArray,.bool true])∧Fr No w w'∧∀V:Nat→Prop,(∀j,V j→j<w.heap.size)→Kept V w' (λw=>TxQ w e.tx cs):=by
 obtain⟨f,css,ma,ms,g,i,d,k,l,R,CS,h,rfl⟩:=h
 exact znP h.st c b
theorem zkp (h:WS w0 w pc pp ps T X N A) {i:Int} (hi:ZB i) {x:zd} (b:zY x) (a:vq A.Q i x=false):
  Calls prog 14 #[.pointer (some ⟨ps,0,none⟩),.int .i64 i,.agg (zf x).toArray] w (ziS w):=by
 obtain⟨d,css,ma,ms,g,e,c,f,j,R,CS,h,rfl⟩:=h
 exact zlI h.st hi b a
theorem zkr (h:WS w0 w pc pp ps T X N A) (b:n<65) {x:zd} (l:x∈yM (A.Q n)):
  Calls prog 14 #[.pointer (some ⟨ps,0,none⟩),.int .i64 n,.agg (zf x).toArray] w λe w'=>∃tv q,e=.returned (.tuple #[tv,.int .i64 0])∧w'.ownsRow w.heap.size 34 3 tv (jP (A.Q n) x).length ((jP (A.Q n) x).flatMap q)∧(∀e∈jP (A.Q n) x,Kept X w' (λw=>TxQ w e.tx (q e)))∧∃m,(∀j,m j→T j)∧xV w0 w w' pc pp ps T X N {A with Q:=jg A.Q n (Qr (A.Q n) x)} m X:=by
 obtain⟨z,css,ma,ms,g,B,y,o,p,R,CS,h,rfl⟩:=h
 refine(zna h.st b l).mono λe w' ⟨tv,i,f,s,v,u,t⟩=>?_
 have d:∀j,stV ps o p (vr R n v) j→stV ps o p R j:=λj a=>by
  rcases a with e|e|e|⟨k,r,e⟩
  ·exact .inl e
  ·exact .inr (.inl e)
  ·exact .inr (.inr (.inl e))
  ·unfold vr at e
   by_cases c:k=n
   ·rw[if_pos c] at e
    exact .inr (.inr (.inr ⟨n,b,u j e⟩))
   ·rw[if_neg c] at e
    exact .inr (.inr (.inr ⟨k,r,e⟩))
 refine⟨tv,λe=>CS n e.id,i,s,λe i=>?_,_,λj a=>?_,zd9 h (f.mono (Jh b)) t (λj a=>.inl (d j a)) (λ_ h=>h) (λ_ h=>.inl h) (λj a=>lt_of_lt_of_le (h.xl j a) f.size)⟩
 ·exact(h.st.data n b e (List.mem_filter.1 i).1).step (f.mono (λj e=>h.st.sub j (Jh b j e))) (λ_ _ h=>h)
 ·exact a.imp_right (λe=>e.imp_right (d j))
theorem zm5 (h:WS w0 w pc pp ps T X N A) {x:zd} (o:zY x):
  Calls prog 23 #[.pointer (some ⟨ps,0,none⟩),.agg (zf x).toArray] w λe w'=>∃a,e=.returned a∧w'.ownsRow w.heap.size 3 1 a (jo A.Q x 65).length ((jo A.Q x 65).map iV)∧∃c,xV w0 w w' pc pp ps T X N {A with Q:=JP A.Q x 65} c X:=by
 obtain⟨r,css,ma,ms,g,s,p,t,u,R,CS,h,rfl⟩:=h
 refine(zm4 h.st o).mono λe w' ⟨a,i,m,f,q,d,n⟩=>⟨a,i,m,_,zd9 h f n (λj b=>?_) (λ_ h=>h) (λ_ h=>.inl h) (λj b=>lt_of_lt_of_le (h.xl j b) f.size)⟩
 rcases b with e|e|e|⟨k,l,e⟩
 ·exact .inl (.inl e)
 ·exact .inl (.inr (.inl e))
 ·exact .inl (.inr (.inr (.inl e)))
 ·exact .inl (.inr (.inr (.inr ⟨k,l,d k j e⟩)))
theorem zlU {css:List (List Value)} {ma ms g c d r N':Nat} {n b:Nat→Prop} {u k:zd→List Value} {R:Nat→Value} {CS:Nat→zd→List Value} {l:List yd}
  (h:WP w0 w pc m css pp ma ms g n u N ps o p R CS X A) (f:Fr (poV pp ma ms n) w w') (x:yq w0 w' pp c d r b X' k l N') (i:∀j,poV pp c d b j→poV pp ma ms n j∨w.heap.size≤j) (q:∀j,X j→X' j) (s:∀j,X' j→X j∨w.heap.size≤j) (v:∀j,X' j→j<w'.heap.size)
  (val:vS A.S (ye A.bs) l) (l32:l.length≤32) (ad:∀e∈l,e.added=0):
  xV w0 w w' pc pp ps (wT m pp ma ms n ps o p R) X N' {A with L:=l} (wT m pp c d b ps o p R) X':=by
 have t:∀j,j<w.heap.size→X' j→X j:=λj a e=>(s j e).resolve_right (by omega)
 refine⟨⟨m,css,c,d,r,b,k,o,p,R,CS,?_,rfl⟩,f.mono (λj e=>.inr (.inl e)),λj a=>?_,s,q⟩
 ·exact
   {ch:=h.ch.frV f h.cp h.po.lo h.po.sub t
    po:=x
    st:=h.st.frV f (λj a e=>h.psd j e a) h.po.lo h.po.sub t (λj a=>q j (h.st.sub j a))
    cp:=λj a e=>(i j e).elim (h.cp j a) (λe=>by have:=h.ch.g.hi j a;omega)
    csd:=h.csd
    psd:=λj e a=>(i j e).elim (λe=>h.psd j e a) (λe=>by have:=h.st.hi j a;omega)
    cx:=λj a=>q j (h.cx j a)
    xl:=v
    val:=val
    l32:=l32
    ad:=ad}
 ·rcases a with e|e|e
  ·exact .inl (.inl e)
  ·exact(i j e).imp_left (λe=>.inr (.inl e))
  ·exact .inl (.inr (.inr e))
theorem zfL {S:List zr} {I:List zd} {L:List yd} {t:TxD} (h:∀e∈L,e.added=0):∀e∈Zi S I L t 0,e.added=0:=λe a=>by
 unfold Zi at a
 split at a
 ·rcases mem_append.1 a with a|a
  ·exact h e (Zq.1 a).1
  ·obtain rfl:=mem_singleton.1 a
   rfl
 ·exact h e a
theorem ziT (i:q9 w) (h:WS w0 w pc pp ps T X N A) (d:N≤800) {t:TxD} (k:Kept X w (λw=>TxQ w t cs)):
  Calls prog 16 #[.pointer (some ⟨pp,0,none⟩),.pointer (some ⟨pc,0,none⟩),.agg cs.toArray,.int .u64 0] w λe w'=>∃b,e=.returned (.tuple #[b,.int .i64 (Zh A.S (ye A.bs) A.L t)])∧w'.ownsRow w.heap.size 41 32 b (Qy A.S (ye A.bs) A.L t).length ((Qy A.S (ye A.bs) A.L t).flatMap zf)∧∃c X',xV w0 w w' pc pp ps T X (N+1) {A with L:=Zi A.S (ye A.bs) A.L t 0} c X':=by
 obtain⟨m,css,ma,ms,g,n,l,o,p,R,CS,h,rfl⟩:=h
 refine(zeg (now:=0) i h.po d h.xl h.val h.l32 h.ch.g.cn h.ch.g.hok.ok k (by decide)).mono λe w' ⟨b,he,⟨VG',C',hp,f,hv⟩,hr⟩=>⟨b,he,hr,_,_,zlU h f hp (λj a=>?_) (λ_ h=>.inl h) (λj a=>a.elim .inl (λe=>(hv j e).imp_left (λe=>h.po.sub j (.inr (.inr (.inr e)))))) (λj a=>?_) (h.val.acc t 0) (za3 h.val h.l32 t 0) (zfL h.ad)⟩
 ·rcases a with e|e|e|e
  ·exact .inl (.inl e)
  ·exact .inl (.inr (.inl e))
  ·exact .inl (.inr (.inr (.inl e)))
  ·exact(hv j e).imp_left (λe=>.inr (.inr (.inr e)))
 ·rcases a with e|e
  ·exact lt_of_lt_of_le (h.xl j e) f.size
  ·exact hp.hi j (.inr (.inr (.inr e)))
end
structure WMp (w0 wb w:World) (pc:Nat) (VC:Nat→Prop) (css:List (List Value)) (pp ma ms g:Nat) (VG:Nat→Prop) (CP:zd→List Value) (N ps ka ks:Nat) (R:Nat→Value) (CS:Nat→zd→List Value) (T X X1:Nat→Prop) (A:WA) (S1:List zr) (bs1:List yB):Prop where
 ch:CX w0 w pc VC X1 A.S0 S1 bs1 css
 po:yq w0 w pp ma ms g VG X1 CP A.L N
 st:yO w0 w ps ka ks R X1 CS A.Q
 cp:∀j,VC j→¬poV pp ma ms VG j
 csd:∀j,VC j→¬stV ps ka ks R j
 psd:∀j,poV pp ma ms VG j→¬stV ps ka ks R j
 cx:∀j,VC j→X1 j
 xl:∀j,X1 j→j<w.heap.size
 l32:A.L.length≤32
 ad:∀e∈A.L,e.added=0
 fr:Fr T wb w
 tn:∀j,wT VC pp ma ms VG ps ka ks R j→T j∨wb.heap.size≤j
 xn:∀j,X1 j→X j∨wb.heap.size≤j
 xx:∀j,X j→X1 j
 pt:T pp
def WM (w0 wb w:World) (pc pp ps:Nat) (T X:Nat→Prop) (N:Nat) (A:WA) (S1:List zr) (bs1:List yB) (X1:Nat→Prop):Prop:=
 ∃VC css ma ms g VG CP ka ks R CS,WMp w0 wb w pc VC css pp ma ms g VG CP N ps ka ks R CS T X X1 A S1 bs1
section
variable {w0 wb w w':World} {pc pp ps N:Nat} {T X X1:Nat→Prop} {A:WA} {S1:List zr} {bs1:List yB} {S:List zr} {I:List zd}
theorem zez:∀(l:List TxD) {L:List yd},(∀e∈L,e.added=0)→∀e∈Zx S I L l 0,e.added=0
 |[],_,h=>h
 |t::l,L,h=>zez l (L:=Zi S I L t 0) (zfL h)
theorem zeh:∀(l:List yd) {L:List yd},(∀e∈l,e.added=0)→(∀e∈L,e.added=0)→∀e∈Xg S I L l,e.added=0
 |[],_,_,h=>h
 |t::l,L,hl,h=>zeh l (L:=Zi S I L t.tx t.added) (λe a=>hl e (List.mem_cons_of_mem _ a)) (by rw[hl t (List.mem_cons_self ..)];exact zfL h)
theorem zmY {L:List yd} (h:∀e∈L,e.added=0) (l:List TxD):∀e∈Ql S I L l 0,e.added=0:=
 zeh L h (zez l (λe a=>(by cases a)))
theorem WM.still (h:WM w0 wb w pc pp ps T X N A A.S A.bs X1) (val:vS A.S (ye A.bs) A.L):∃b X',xV w0 wb w pc pp ps T X N A b X':=by
 obtain⟨c,css,ma,ms,g,d,a,e,f,R,CS,h⟩:=h
 exact⟨_,_,⟨c,css,ma,ms,g,d,a,e,f,R,CS,{ch:=h.ch,po:=h.po,st:=h.st,cp:=h.cp,csd:=h.csd,psd:=h.psd,cx:=h.cx,xl:=h.xl,val:=val,l32:=h.l32,ad:=h.ad},rfl⟩,h.fr,h.tn,h.xn,h.xx⟩
theorem WP.chain {l b:Nat→Prop} {css c:List (List Value)} {q:zd→List Value} {R:Nat→Value} {CS:Nat→zd→List Value}
  (h:WP w0 wb pc l css pp ma ms g m q N ps o p R CS X A) (f:Fr l wb w) (k:∀j,b j→l j∨wb.heap.size≤j) (n:CX w0 w pc b X A.S0 S1 bs1 c):
  WM w0 wb w pc pp ps (wT l pp ma ms m ps o p R) X N A S1 bs1 (λj=>X j∨b j):=by
 have r:∀j,j<wb.heap.size→(X j∨b j)→X j:=λj a e=>e.elim id (λe=>(k j e).elim (h.cx j) (λe=>by omega))
 refine⟨b,c,ma,ms,g,m,q,o,p,R,CS,?_⟩
 exact
  {ch:={n with data:=λi d cs s t=>(n.data i d cs s t).step (Fr.refl _ _) (λj _ e=>e.elim .inl (λe=>e.elim .inr .inl))}
   po:=h.po.frV f (λj a e=>h.cp j e a) h.ch.g.lo h.cx r (λj a=>.inl (h.po.sub j a))
   st:=h.st.frV f (λj a e=>h.csd j e a) h.ch.g.lo h.cx r (λj a=>.inl (h.st.sub j a))
   cp:=λj a e=>(k j a).elim (λa=>h.cp j a e) (λa=>by have:=h.po.hi j e;omega)
   csd:=λj a e=>(k j a).elim (λa=>h.csd j a e) (λa=>by have:=h.st.hi j e;omega)
   psd:=h.psd
   cx:=λj a=>.inr a
   xl:=λj a=>a.elim (λe=>lt_of_lt_of_le (h.xl j e) f.size) (λe=>n.g.hi j e)
   l32:=h.l32
   ad:=h.ad
   fr:=f.mono (λj e=>.inl e)
   tn:=λj a=>by
    rcases a with e|e|e
    ·exact(k j e).imp_left .inl
    ·exact .inl (.inr (.inl e))
    ·exact .inl (.inr (.inr e))
   xn:=λj a=>a.elim .inl (λe=>(k j e).imp_left (h.cx j))
   xx:=λ_=>.inl
   pt:=.inr (.inl (.inl rfl))}
theorem zjh (k:q9 w0) (h:WS w0 w pc pp ps T X N A) (c:A.bs.length≤200) {b:qs} (d:jE w b cs):
  Calls prog 51 #[.pointer (some ⟨pc,0,none⟩),.agg cs.toArray] w λe w'=>e=.returned (.int .i64 (ji (ye A.bs) A.S A.bs b))∧∃X1,WM w0 w w' pc pp ps T X N A (Xi (ye A.bs) A.S A.bs b) (Ym (ye A.bs) A.S A.bs b) X1:=by
 obtain⟨n,css,ma,ms,g,o,m,p,q,R,CS,h,rfl⟩:=h
 exact(zmu k h.ch h.xl (λ_=>id) c d).mono λe w' ⟨j,f,V',a,l,i⟩=>⟨j,_,h.chain f l i⟩
theorem zmx (h:WS w0 w pc pp ps T X N A) {a:List yB} {d:yB} (b:A.bs=a++[d]) (m:a.length≤200):
  Calls prog 53 #[.pointer (some ⟨pc,0,none⟩)] w λe w'=>∃bcs X1,e=.returned (.tuple #[.agg bcs.toArray,.int .i64 0])∧WM w0 w w' pc pp ps T X N A (xS d.chg A.S) a X1∧Kept X1 w' (λw=>jE w d.blk bcs):=by
 obtain⟨q,css,ma,ms,g,r,p,s,t,R,CS,h,rfl⟩:=h
 have k:=h.ch
 rw[b] at k
 exact(zmz k m).mono λe w' ⟨bcs,V',i,n,f,l,c,o⟩=>⟨bcs,_,n,h.chain f (λj e=>.inl (l j e)) c,o.step (Fr.refl _ _) (λj _ e=>e.elim .inr (λe=>.inl (l j e)))⟩
theorem zjn (h:WS w0 w pc pp ps T X N A) (a:A.bs=[]):
  Calls prog 53 #[.pointer (some ⟨pc,0,none⟩)] w λe w'=>e=.returned (.tuple #[.agg Jw.toArray,.int .i64 9])∧Fr No w w':=by
 obtain⟨i,css,ma,ms,g,j,f,n,o,R,CS,h,rfl⟩:=h
 obtain⟨m,s,U,p,k,M,c,l,d,b⟩:=h.ch.gd
 exact zhH c a
theorem zhc (D:q9 w0) (h:WM w0 wb w pc pp ps T X N A S1 bs1 X1) (B:N≤1000) {t:Value} {first:List TxD} (C:Kept X1 w (λw=>Jz w t first)) (m:first.length≤700):
  Calls prog 52 #[.pointer (some ⟨pp,0,none⟩),.pointer (some ⟨pc,0,none⟩),t,.int .u64 0] w λe w'=>(∃k,e=.returned (.tuple #[k,.int .i64 0]))∧∃N' y X',N'≤first.length+A.L.length∧xV w0 wb w' pc pp ps T X N' {A with S:=S1,bs:=bs1,L:=Ql S1 (ye bs1) A.L first 0} y X':=by
 obtain⟨r,css,ma,ms,g,P,O,H,K,R,CS,h⟩:=h
 have b:∀j,j=pp→w0.heap.size≤j:=λj e=>by subst e;exact h.po.lo _ (.inl rfl)
 have c:∀j,j=pp→X1 j:=λj e=>by subst e;exact h.po.sub _ (.inl rfl)
 have d:∀j,r j→¬j=pp:=λj a e=>by subst e;exact h.cp _ a (.inl rfl)
 refine(zlq D h.po B h.xl h.l32 (λe l=>by rw[h.ad e l];decide) (λw' f=>(h.ch.frV f d b c (λ_ _ e=>e)).g.cn) h.ch.g.hok.ok C m (now:=0) (by decide)).mono ?_
 rintro e w' ⟨k,l,⟨n,o,z,i,s,x,N',F,E,v,q,M,p⟩,f,-⟩
 have u:∀j,j<w.heap.size→s j→X1 j:=λj a e=>(v j e).resolve_right (by omega)
 have G:=h.fr.size
 refine⟨⟨k,l⟩,N',_,s,E,⟨r,css,n,o,z,i,x,H,K,R,CS,?_,rfl⟩,h.fr.trans f (λj _ e=>by subst e;exact h.pt),λj a=>?_,λj a=>(v j a).elim (h.xn j) (λe=>.inr (by omega)),λj a=>q j (h.xx j a)⟩
 ·exact
   {ch:=h.ch.frV f d b c u
    po:=F
    st:=h.st.frV f (λj a e=>by subst e;exact h.psd _ (.inl rfl) a) b c u (λj a=>q j (h.st.sub j a))
    cp:=λj a e=>(p j e).elim (d j a) (λe=>by have:=h.ch.g.hi j a;omega)
    csd:=h.csd
    psd:=λj e a=>(p j e).elim (λe=>by subst e;exact h.psd _ (.inl rfl) a) (λe=>by have:=h.st.hi j a;omega)
    cx:=λj a=>q j (h.cx j a)
    xl:=M
    val:=(vS.ren A.L first 0).1
    l32:=(vS.ren A.L first 0).2
    ad:=zmY h.ad first}
 ·rcases a with e|e|e
  ·exact h.tn j (.inl e)
  ·exact(p j e).elim (λe=>by subst e;exact .inl h.pt) (λe=>.inr (by omega))
  ·exact h.tn j (.inr (.inr e))
end
section
open Go.ChangeShapes Go.WideShapes Go.Deep
structure vT where
 kind:Int
 src:Int
 tx:TxD
 id:zd
 blk:qs
def Yf (k s:Int) (tcs:List Value) (x:zd) (bcs:List Value):List Value:=.int .i64 k::.int .i64 s::(tcs++(zf x++bcs))
def qR (w:World) (a:vT) (cs:List Value):Prop:=∃tcs bcs,cs=Yf a.kind a.src tcs a.id bcs∧ZB a.src∧zY a.id∧TxQ w a.tx tcs∧jE w a.blk bcs
theorem qR.keep {w w':World} {x:vT} (h:qR w x cs) (f:Fr No w w'):qR w' x cs:=by
 obtain⟨t,b,e,a,c,d,g⟩:=h
 exact⟨t,b,e,a,c,d.keep f,g.keep f⟩
theorem jE.len3 {w:World} {b:qs} (h:jE w b cs):cs.length=3:=by
 obtain⟨_,_,_,_,rfl,_⟩:=h
 rfl
theorem qR.len {w:World} {a:vT} (h:qR w a cs):cs.length=40:=by
 obtain⟨t,b,rfl,f,c,d,e⟩:=h
 simp[Yf,d.len3,e.len3,zx c]
abbrev Yk (w:World) (v:Value) (L:List vT):Prop:=qT 40 qR w v L
theorem Yk.keep0 {w w':World} {L:List vT} (h:Yk w v L) (f:Fr No w w'):Yk w' v L:=qT.keep (λ_ _ h=>h.keep f) h f
section
variable {H:Type} {enc:TypeId×Value→H} {w:World} {base:Nat} {spare:Nat→Bool} {held:Bool}
theorem zgB {x:DataW H×List MemPlace} (h:DataW.trod enc prog w base spare held fuel 57 cs=some x):∃d,qR w d cs:=by
 have c1:prog.cellsOf 3=1:=by kernel_rfl
 have c2:prog.cellsOf 34=3:=by kernel_rfl
 have y:prog.cellsOf 41=32:=by kernel_rfl
 have z:prog.cellsOf 55=3:=by kernel_rfl
 have A:prog.cellsOf 57=40:=by kernel_rfl
 obtain⟨c,n,_,_,f,q,e⟩:=DataW.trod_struct Tryz.underlying57 h
 have g:DataW.trod enc prog w base spare held n 3 ((cs.drop 0).take (prog.cellsOf 3))=c[0]? :=e 0 _ rfl
 have i:DataW.trod enc prog w base spare held n 3 ((cs.drop 1).take (prog.cellsOf 3))=c[1]? :=e 1 _ rfl
 have j:DataW.trod enc prog w base spare held n 34 ((cs.drop 2).take (prog.cellsOf 34))=c[2]? :=e 2 _ rfl
 have m:DataW.trod enc prog w base spare held n 41 ((cs.drop 5).take (prog.cellsOf 41))=c[3]? :=e 3 _ rfl
 have o:DataW.trod enc prog w base spare held n 55 ((cs.drop 37).take (prog.cellsOf 55))=c[4]? :=e 4 _ rfl
 rw[c1] at g i
 rw[c2] at j
 rw[y] at m
 rw[z] at o
 rw[A] at f
 have I:c.length=5:=q
 rw[getElem?_eq_getElem (by omega)] at g i j m o
 obtain⟨k,u,_⟩:=DataW.trod_int Tryz.underlying3 g
 obtain⟨s,v,_,K⟩:=DataW.trod_int Tryz.underlying3 i
 obtain⟨t,G⟩:=zd3 j
 obtain⟨l,p,C⟩:=Q0 m
 obtain⟨B,F⟩:=zkt o
 refine⟨⟨k,s,t,l,B⟩,(cs.drop 2).take 3,(cs.drop 37).take 3,?_,?_,p,G,F⟩
 ·match cs,f with
  |a::b::r,f=>
   simp only[List.drop_zero,List.drop_succ_cons,List.take_succ_cons,List.take_zero,List.cons.injEq,and_true] at u v
   subst u
   subst v
   have L:r.length=38:=by simpa using f
   show Value.int .i64 k::Value.int .i64 s::r=Value.int .i64 k::Value.int .i64 s::(r.take 3++(zf l++(r.drop 35).take 3))
   have D:(r.drop 3).take 32=zf l:=C
   rw[←D,List.take_of_length_le (l:=r.drop 35) (by rw[List.length_drop];omega)]
   congr 2
   have E:r.drop 35=(r.drop 3).drop 32:=by rw[List.drop_drop]
   rw[E,List.take_append_drop,List.take_append_drop]
 ·simp[Lit.wf,IntKind.min,IntKind.max,IntKind.signed,IntKind.bits] at K
  unfold ZB
  omega
theorem ze3 {x:DataW H×List MemPlace} (h:DataW.trod enc prog w base spare held fuel 52 [v]=some x):∃L,Yk w v L:=by
 obtain⟨L,d,f,e,b,c⟩:=zax (q:=qR w) Tryz.underlying52 (k:=40) (by kernel_rfl) (by decide) (λa cs h=>h.len) (λ_ _ _ h=>zgB h) h
 exact⟨L,d,f,e,b,c⟩
end
end
def hvT (t:TxD):Bool:=decide (30<t.ins.length)||(decide (30<t.outs.length)||t.ins.any λx=>decide (100<x.key.length))
def zml (w:World) (t:TxD) (e:Ending) (w':World):Prop:=e=.returned (.bool (hvT t))∧Fr No w w'
theorem Xp (w:World) {t:TxD} (O:TxQ w t cs):
  Calls prog 11 #[.agg cs.toArray] w (zml w t):=by
 obtain⟨o,q,r,s,rfl,-,I,-⟩:=O
 have Y:=Yb
 have d:=J ((frN w).alloc (.cells #[.int .u32 t.ver,.slice o t.ins.length q,.slice r t.outs.length s] 34))
 have L:=J (I.keep0 d.o)
 obtain⟨-,c1,c2,-⟩:=qW w t.ver (.slice o t.ins.length q) (.slice r t.outs.length s)
 clear I
 show Calls prog 11 #[.agg #[.int .u32 t.ver,.slice o t.ins.length q,.slice r t.outs.length s]] w _
 by_cases h1:30<t.ins.length
 ·have Q:(30:Int)<(t.ins.length:Int):=by omega
  have e:=@J (hvT t=true) (by simp[hvT,h1])
  clear h1
  go_enter Tryz.func11,Tryz.ntmps11
  go_wp2_with fail
  go_ret
  exact⟨by rw[e.o];rfl,d.o⟩
 have Q:¬(30:Int)<(t.ins.length:Int):=by omega
 by_cases h2:30<t.outs.length
 ·have R:(30:Int)<(t.outs.length:Int):=by omega
  have e:=@J (hvT t=true) (by simp[hvT,h2])
  clear h1 h2
  go_enter Tryz.func11,Tryz.ntmps11
  go_wp2_with fail
  go_ret
  exact⟨by rw[e.o];rfl,d.o⟩
 have R:¬(30:Int)<(t.outs.length:Int):=by omega
 have T:t.ins.length≤30:=by omega
 have M:=@J (∀x∈t.ins,100<x.key.length→hvT t=true) (λx a h=>by
  have:t.ins.any (λx=>decide (100<x.key.length))=true:=List.any_eq_true.2 ⟨x,a,by simpa using h⟩
  simp[hvT,this])
 have K:=@J ((∀x∈t.ins,¬100<x.key.length)→hvT t=false) (λh=>by
  have:t.ins.any (λx=>decide (100<x.key.length))=false:=List.any_eq_false.2 (λx a=>by simpa using h x a)
  simp only[hvT,this]
  simp
  omega)
 clear h1 h2
 go_enter Tryz.func11,Tryz.ntmps11
 go_wp2_with fail
 generalize w.alloc (.cells #[.int .u32 t.ver,.slice o t.ins.length q,.slice r t.outs.length s] 34)=U at*
 clear c1 c2
 go_loopw [18] (λD wr=>∃n:Nat,D=.int .i64 n∧n≤t.ins.length∧(∀x∈t.ins.take n,¬100<x.key.length)∧Fr No U wr) (λD _=>t.ins.length-(intOf D).toNat)
 case atStart=>exact⟨0,rfl,zero_le _,by simp,Fr.refl _ _⟩
 case round=>
  obtain⟨n,rfl,W,f,fr⟩:=hrel
  have E:=J f
  clear f
  have l:=J fr
  clear fr
  by_cases B:n<t.ins.length
  ·have P:(n:Int)<(t.ins.length:Int):=by omega
   obtain⟨x,a⟩:∃x,t.ins[n]? =some x:=⟨_,getElem?_eq_getElem B⟩
   obtain⟨bx,X,V,xs,C,i,j,k,rfl,c,A⟩:=(L.o.keep0 l.o).at_ a
   cases C
   have m:=J (vC c (.slice j x.key.length k))
   have H:=J i
   have F:=J ((frN wr).alloc (.cells (inC x.from_ (.slice j x.key.length k)).toArray 108))
   have N:=(Xr wr (p:=x.from_) (kv:=.slice j x.key.length k) c).2
   have G:=J a
   clear i A a c
   by_cases hk:100<x.key.length
   ·have S:(100:Int)<(x.key.length:Int):=by omega
    have⟨v,z⟩:=tZ2
    go_wp2_with ((first|((with_reducible refine zt ?_);clear v;refine zn9 rfl rfl rfl H.o m.o ?_)|((with_reducible refine zv ?_);clear z;refine zoj (w:=wr) (cs:=inC x.from_ (.slice j x.key.length k)) rfl rfl rfl rfl m.o Jj ?_));go_frame)
    go_ret
    exact⟨by rw[M.o x (mem_of_getElem? G.o) hk];rfl,(d.o.trans0 l.o).trans0 F.o⟩
   ·have S:¬(100:Int)<(x.key.length:Int):=by omega
    have u:=@J (∀y∈t.ins.take (n+1),¬100<y.key.length) (λy b=>by
     rw[List.take_add_one,G.o] at b
     rcases mem_append.1 b with b|b
     ·exact E.o y b
     ·simp at b;subst b;exact hk)
    have⟨v,z⟩:=tZ2
    go_wp2_with ((first|((with_reducible refine zt ?_);clear v;refine zn9 rfl rfl rfl H.o m.o ?_)|((with_reducible refine zv ?_);clear z;refine zoj (w:=wr) (cs:=inC x.from_ (.slice j x.key.length k)) rfl rfl rfl rfl m.o Jj ?_));go_frame)
    go_roundw
    case rel=>exact⟨n+1,by go_num,by omega,u.o,l.o.trans0 F.o⟩
    case measure=>simp[intOf];omega
  ·have g:n=t.ins.length:=by omega
   have P:¬(n:Int)<(t.ins.length:Int):=by omega
   have e:=J (K.o (λx a=>E.o x (by rw[g,List.take_length];exact a)))
   clear g
   go_wp2_with fail
   go_ret
   exact⟨by rw[e.o];rfl,d.o.trans0 l.o⟩
theorem zcJ:∃d,prog.underlying 57=some d∧d.isRow=true:=jf (by kernel_rfl)
theorem vH:(prog.info? 57).map (·.size)=some 40:=by kernel_rfl
theorem zdl (w:World):(zeroValue 57).run prog w=.ok (.agg (Yf 0 0 VX yR Jw).toArray) w:=by kernel_rfl
theorem zcx {a:vT} (h:qR w a cs):∀v∈cs,v.oneCell'=true:=by
 obtain⟨t,b,rfl,f,g,d,e⟩:=h
 obtain⟨i,j,k,l,rfl⟩:=e.form
 intro v c
 unfold Yf at c
 rcases mem_cons.1 c with rfl|c
 ·rfl
 rcases mem_cons.1 c with rfl|c
 ·rfl
 rcases mem_append.1 c with c|c
 ·exact(YU d).2 v c
 rcases mem_append.1 c with c|c
 ·exact zU v c
 ·exact qM rfl rfl rfl v c
theorem jG {q:Nat} {k s:Int} {t b:List Value} {x:zd} (h:w.rangeAt q 0 (Yf k s t x b)) (f:t.length=3) (d:zY x):
  w.cell? ⟨q,0,none⟩=some (.int .i64 k)∧w.cell? ⟨q,1,none⟩=some (.int .i64 s)∧w.rangeAt q 2 t∧w.rangeAt q 5 (zf x)∧w.rangeAt q 37 b:=by
 have e:=zx d
 refine⟨by simpa using h 0 _ rfl,by simpa using h 1 _ rfl,λj v a=>?_,λj v a=>?_,λj v a=>?_⟩
 ·have c:=(List.getElem?_eq_some_iff.1 a).1
  have:=h (2+j) v (by rw[show 2+j=j+1+1 by omega];simp only[Yf,List.getElem?_cons_succ];rw[List.getElem?_append_left c];exact a)
  rwa [zero_add] at this
 ·have c:=(List.getElem?_eq_some_iff.1 a).1
  have:=h (5+j) v (by rw[show 5+j=(3+j)+1+1 by omega];simp only[Yf,List.getElem?_cons_succ];rw[List.getElem?_append_right (by omega),show 3+j-t.length=j by omega,List.getElem?_append_left c];exact a)
  rwa [zero_add] at this
 ·have:=h (37+j) v (by rw[show 37+j=(35+j)+1+1 by omega];simp only[Yf,List.getElem?_cons_succ];rw[List.getElem?_append_right (by omega),List.getElem?_append_right (by omega),show 35+j-t.length-(zf x).length=j by omega];exact a)
  rwa [zero_add] at this
def V7 (w:World) (F:List yI) (L:List vT) (e:Ending) (w':World):Prop:=
 (∃g:Int,e=.returned (.int .i64 g)∧(g=0∨g=1)∧(g=0→F.length≤256∧L.length≤60∧∀a∈L,a.blk.txs.length≤20))∧Fr No w w'
theorem zeC (w:World) {fv lv:Value} {F:List yI} {L:List vT} (hf:xu w fv F) (hl:Yk w lv L):
  Calls prog 19 #[fv,lv] w (V7 w F L):=by
 have HL:=J hl
 obtain⟨fa,fc,rfl⟩:=hf.2.form
 obtain⟨va,vc,rfl⟩:=hl.form
 obtain⟨dA,uA,Z⟩:=zcJ
 have zA:=zdl
 have zT:=show ∀w,(zeroValue 34).run prog w=.ok (.agg VX.toArray) w from vt
 have T1:=@J (∀w',Fr No w w'→V7 w F L (.returned (.int .i64 1)) w') (λw' f=>⟨⟨1,rfl,.inr rfl,λh=>by cases h⟩,f⟩)
 clear hf hl
 by_cases h1:256<F.length
 ·have j1:decide ((256:Int)<(F.length:Int))=true:=by simp;omega
  clear h1
  go_enter Tryz.func19,Tryz.ntmps19
  go_wp2
  go_ret
  exact T1.o _ (Fr.refl _ _)
 have j1:decide ((256:Int)<(F.length:Int))=false:=by simp;omega
 by_cases h2:60<L.length
 ·have j2:decide ((60:Int)<(L.length:Int))=true:=by simp;omega
  clear h1 h2
  go_enter Tryz.func19,Tryz.ntmps19
  go_wp2
  go_ret
  exact T1.o _ (Fr.refl _ _)
 have j2:decide ((60:Int)<(L.length:Int))=false:=by simp;omega
 have af:L.length≤60:=by omega
 have T0:=@J ((∀a∈L,a.blk.txs.length≤20)→∀w',Fr No w w'→V7 w F L (.returned (.int .i64 0)) w') (λh w' f=>⟨⟨0,rfl,.inl rfl,λ_=>⟨by omega,af,h⟩⟩,f⟩)
 clear h1 h2
 go_enter Tryz.func19,Tryz.ntmps19
 go_wp2
 clear j1 j2
 go_loopw [19] (λC wr=>∃n:Nat,C=.int .i64 n∧n≤L.length∧(∀a∈L.take n,a.blk.txs.length≤20)∧Fr No w wr) (λC _=>L.length-(intOf C).toNat)
 case atStart=>exact⟨0,rfl,zero_le _,by simp,Fr.refl _ _⟩
 case round=>
  obtain⟨n,rfl,hn,G,fr⟩:=hrel
  have FR:=J fr
  have HK:=J G
  clear fr G
  by_cases ab:n<L.length
  ·have i1:(n:Int)<(L.length:Int):=by omega
   obtain⟨a,I⟩:∃x,L[n]? =some x:=⟨_,getElem?_eq_getElem ab⟩
   obtain⟨bb,off,ai,cs,hv,hr,U⟩:=(HL.o.keep0 FR.o).at_ I
   cases hv
   have R:=J hr
   have c:=J U.len
   have N:=J (zcx U)
   have FA:=J ((frN wr).alloc (.cells cs.toArray 57))
   have HQ:=J (U.keep FA.o)
   obtain⟨aq,bcs,E,-,K,p,z⟩:=HQ.o
   have Q:=J (jG (q:=wr.heap.size) (by rw[←E];exact zy wr cs 57) (YU p).1 K)
   obtain⟨pa,pc,ta,tc,rfl⟩:=z.form
   have r:=J Q.o.2.2.1
   have S:=J (YU p).1
   have d:=Q.o.2.2.2.2 1 _ rfl
   have g:=Q.o.2.2.2.2 2 _ rfl
   have aa:=J p
   have u:=@J (Jz (wr.alloc (.cells cs.toArray 57)) (.slice ta a.blk.txs.length tc) a.blk.txs) (by
    obtain⟨aj,ak,an,ao,e,_,_,I⟩:=z
    simp only[zhv,List.cons.injEq,and_true] at e
    obtain⟨-,-,e2⟩:=e
    injection e2 with e21 _ e23
    subst e21;subst e23
    exact I)
   have HX:=J I
   clear hr U I E K p z Q HQ
   have y:=J (Xp _ aa.o)
   have P:=J (FR.o.trans0 FA.o)
   unfold zml at y
   cases hh:hvT a.tx with
   |true=>
    rw[hh] at y
    clear hh
    have⟨j,k,l,o⟩:=tZ4
    go_wp2_with ((first|((with_reducible refine zt ?_);first|(clear j;refine zg rfl (z7 (ty:=57) rfl rfl R.o uA Z (by rw[c.o];exact vH)) ?_)|(clear l;refine zoa rfl rfl rfl r.o S.o ?_))|((with_reducible refine zv ?_);clear k;refine zi rfl (zj (w:=wr) (ty:=57) (cs:=cs) rfl rfl rfl (by rw[c.o];rfl) (by rw[c.o];exact vH) N.o) ?_;generalize wr.heap.size=q at r d g⊢;generalize wr.alloc (.cells cs.toArray 57)=wA at*)|(clear o;go_at_call 11;refine y.o.mono ?_;rintro e w5 ⟨rfl,b⟩;have v:=J (P.o.trans0 b);have T:=J (u.o.keep0 b);clear u;have d1:=b.cell d id;have d2:=b.cell g id;clear b d g));go_frame)
    go_ret
    exact T1.o _ v.o
   |false=>
    rw[hh] at y
    clear hh
    by_cases h3:20<a.blk.pay.length
    ·have k1:(20:Int)<(a.blk.pay.length:Int):=by omega
     clear h3
     have⟨j,k,l,o⟩:=tZ4
     go_wp2_with ((first|((with_reducible refine zt ?_);first|(clear j;refine zg rfl (z7 (ty:=57) rfl rfl R.o uA Z (by rw[c.o];exact vH)) ?_)|(clear l;refine zoa rfl rfl rfl r.o S.o ?_))|((with_reducible refine zv ?_);clear k;refine zi rfl (zj (w:=wr) (ty:=57) (cs:=cs) rfl rfl rfl (by rw[c.o];rfl) (by rw[c.o];exact vH) N.o) ?_;generalize wr.heap.size=q at r d g⊢;generalize wr.alloc (.cells cs.toArray 57)=wA at*)|(clear o;go_at_call 11;refine y.o.mono ?_;rintro e w5 ⟨rfl,b⟩;have v:=J (P.o.trans0 b);have T:=J (u.o.keep0 b);clear u;have d1:=b.cell d id;have d2:=b.cell g id;clear b d g));go_frame)
     go_ret
     exact T1.o _ v.o
    have k1:¬(20:Int)<(a.blk.pay.length:Int):=by omega
    by_cases h4:20<a.blk.txs.length
    ·have k2:(20:Int)<(a.blk.txs.length:Int):=by omega
     clear h3 h4
     have⟨j,k,l,o⟩:=tZ4
     go_wp2_with ((first|((with_reducible refine zt ?_);first|(clear j;refine zg rfl (z7 (ty:=57) rfl rfl R.o uA Z (by rw[c.o];exact vH)) ?_)|(clear l;refine zoa rfl rfl rfl r.o S.o ?_))|((with_reducible refine zv ?_);clear k;refine zi rfl (zj (w:=wr) (ty:=57) (cs:=cs) rfl rfl rfl (by rw[c.o];rfl) (by rw[c.o];exact vH) N.o) ?_;generalize wr.heap.size=q at r d g⊢;generalize wr.alloc (.cells cs.toArray 57)=wA at*)|(clear o;go_at_call 11;refine y.o.mono ?_;rintro e w5 ⟨rfl,b⟩;have v:=J (P.o.trans0 b);have T:=J (u.o.keep0 b);clear u;have d1:=b.cell d id;have d2:=b.cell g id;clear b d g));go_frame)
     go_ret
     exact T1.o _ v.o
    have k2:¬(20:Int)<(a.blk.txs.length:Int):=by omega
    have AN:=@J (∀s∈L.take (n+1),s.blk.txs.length≤20) (λs B=>by
     rw[List.take_add_one,HX.o] at B
     rcases mem_append.1 B with B|B
     ·exact HK.o s B
     ·simp at B;subst B;omega)
    have al:a.blk.txs.length≤20:=by omega
    clear h3 h4
    have⟨j,k,l,o⟩:=tZ4
    go_wp2_with ((first|((with_reducible refine zt ?_);first|(clear j;refine zg rfl (z7 (ty:=57) rfl rfl R.o uA Z (by rw[c.o];exact vH)) ?_)|(clear l;refine zoa rfl rfl rfl r.o S.o ?_))|((with_reducible refine zv ?_);clear k;refine zi rfl (zj (w:=wr) (ty:=57) (cs:=cs) rfl rfl rfl (by rw[c.o];rfl) (by rw[c.o];exact vH) N.o) ?_;generalize wr.heap.size=q at r d g⊢;generalize wr.alloc (.cells cs.toArray 57)=wA at*)|(clear o;go_at_call 11;refine y.o.mono ?_;rintro e w5 ⟨rfl,b⟩;have v:=J (P.o.trans0 b);have T:=J (u.o.keep0 b);clear u;have d1:=b.cell d id;have d2:=b.cell g id;clear b d g));go_frame)
    go_loopw [44] (λC wr=>∃m:Nat,C=.int .i64 m∧m≤a.blk.txs.length∧Jz wr (.slice ta a.blk.txs.length tc) a.blk.txs∧Fr No w wr) (λC _=>a.blk.txs.length-(intOf C).toNat)
    case atStart=>exact⟨0,rfl,zero_le _,T.o,v.o⟩
    case round=>
     obtain⟨m,rfl,hm,M,fr⟩:=hrel
     rename World=>wq
     have XQ:=J M
     have FQ:=J fr
     clear M fr
     by_cases ad:m<a.blk.txs.length
     ·have i2:(m:Int)<(a.blk.txs.length:Int):=by omega
      obtain⟨t,ht⟩:∃t,a.blk.txs[m]? =some t:=⟨_,getElem?_eq_getElem ad⟩
      obtain⟨b2,ah,ag,ts,ae,H,A⟩:=XQ.o.at_ ht
      cases ae
      obtain⟨V,W,X,Y,rfl⟩:=A.form
      have R2:=J H
      have FB:=J ((frN wq).alloc (.cells #[.int .u32 t.ver,.slice V t.ins.length W,.slice X t.outs.length Y] 34))
      have RN:=J (qW wq t.ver (.slice V t.ins.length W) (.slice X t.outs.length Y)).2.2.2
      have i:=J (Xp _ (A.keep FB.o))
      clear ht H A
      unfold zml at i
      cases hh2:hvT t with
      |true=>
       rw[hh2] at i
       clear hh2
       have⟨j,k,l,o⟩:=tZ4
       go_wp2_with ((first|((with_reducible refine zt ?_);first|(clear j;refine zoa rfl rfl rfl R2.o rfl ?_)|(clear l;refine zoa rfl rfl rfl RN.o rfl ?_))|((with_reducible refine zv ?_);clear k;refine zi rfl (zj (w:=wq) (ty:=34) (cs:=[.int .u32 t.ver,.slice V t.ins.length W,.slice X t.outs.length Y]) rfl rfl rfl rfl y5 (qM rfl rfl rfl)) ?_)|(clear o;go_at_call 11;refine i.o.mono ?_;rintro e w4 ⟨rfl,D⟩;have O:=J (FB.o.trans0 D);clear D));go_frame)
       go_ret
       exact T1.o _ (FQ.o.trans0 O.o)
      |false=>
       rw[hh2] at i
       clear hh2
       have⟨j,k,l,o⟩:=tZ4
       go_wp2_with ((first|((with_reducible refine zt ?_);first|(clear j;refine zoa rfl rfl rfl R2.o rfl ?_)|(clear l;refine zoa rfl rfl rfl RN.o rfl ?_))|((with_reducible refine zv ?_);clear k;refine zi rfl (zj (w:=wq) (ty:=34) (cs:=[.int .u32 t.ver,.slice V t.ins.length W,.slice X t.outs.length Y]) rfl rfl rfl rfl y5 (qM rfl rfl rfl)) ?_)|(clear o;go_at_call 11;refine i.o.mono ?_;rintro e w4 ⟨rfl,D⟩;have O:=J (FB.o.trans0 D);clear D));go_frame)
       go_roundw
       case rel=>exact⟨m+1,by go_num,by omega,XQ.o.keep0 O.o,FQ.o.trans0 O.o⟩
       case measure=>simp[intOf];omega
     ·have i2:¬(m:Int)<(a.blk.txs.length:Int):=by omega
      go_wp2
      go_roundw
      case rel=>exact⟨n+1,by go_num,by omega,AN.o,FQ.o⟩
      case measure=>simp[intOf];omega
  ·have i1:¬(n:Int)<(L.length:Int):=by omega
   have HP:=J (T0.o (by
    have:=HK.o
    rw[show n=L.length by omega,List.take_length] at this
    exact this))
   go_wp2
   go_ret
   exact HP.o _ FR.o
theorem Qc {a b:Option Addr} {n m c d:Nat} (h:Value.slice a n c=.slice b m d):a=b∧n=m∧c=d:=by
 injection h with h1 h2 h3
 exact⟨h1,h2,h3⟩
theorem zlR {x:Int} (h:0≤x∧x≤18446744073709551615):(Lit.int .u64 x).wf=true:=by
 simp[Lit.wf,IntKind.min,IntKind.max,IntKind.signed,IntKind.bits]
 omega
theorem zaB:qG prog 103=[(48,0,true),(41,1,true)]:=by kernel_rfl
theorem zib {o:yI} (h:o.ok) (d:Nat):∀x∈qG prog 103,∃l,prog.keyLits (d+2) x.1 (((zJ o).drop x.2.1).take (prog.cellsOf x.1))=some l:=by
 rw[zaB]
 intro x a
 simp only[mem_cons,List.not_mem_nil,or_false] at a
 rcases a with rfl|rfl
 ·have e:((zJ o).drop 0).take (prog.cellsOf 48)=[.int .u64 o.value]:=by
   rw[show prog.cellsOf 48=1 by kernel_rfl];rfl
  simp only[e]
  exact⟨_,ZH (by kernel_rfl) _ (zlR h.1)⟩
 ·have e:((zJ o).drop 1).take (prog.cellsOf 41)=o.lock.map zN:=by
   rw[show prog.cellsOf 41=32 by kernel_rfl]
   show(o.lock.map zN).take 32=o.lock.map zN
   rw[List.take_of_length_le (by simp[h.2.1])]
  simp only[e]
  exact zbQ h.2 d
theorem zcY {o:yI} (h:o.ok):∃l,keyOf prog 103 (zdK o)=some l:=by
 have a:prog.types.size=prog.types.size-2+2:=by kernel_rfl
 refine Zl zaB (by simp) (by decide) (by kernel_rfl) (cs:=zJ o) (by rw[yz h];kernel_rfl) ?_
 rw[a,←zaB]
 exact zib h _
theorem zmF:EqN prog 103:=⟨Keyed.of_law (deep_law_laid Xs (m:=3) (by decide) (of_decide_eq_true (by kernel_rfl)) (by kernel_rfl) (by kernel_rfl)),⟨3,by decide,by kernel_rfl⟩,by kernel_rfl,by kernel_rfl⟩
theorem zkw:prog.underlying 9=some .string:=by kernel_rfl
theorem zkv:prog.underlying 106=some (.slice 5):=by kernel_rfl
theorem zkx:prog.underlying 5=some (.int .u8):=by kernel_rfl
theorem zhD (w:World) (a:Option Addr) (c:Nat):(convert 106 9 (.slice a 0 c)).run prog w=.ok (.string (strOfNums [])) w:=by
 rw[run_convert_bytes_string w 106 9 5 a 0 c zkv zkx zkw]
 cases a<;>simp[Conv.bytesToString,loadCells]
 all_goals rfl
theorem zep {a:Option Addr} {k:List Int} (h:xG w (.slice a n c) n (k.map zN)) (f:k.length=n):(convert 106 9 (.slice a n c)).run prog w=.ok (.string (strOfNums k)) w:=by
 rcases Nat.eq_zero_or_pos n with hn|hn
 ·subst hn
  have g:k=[]:=List.eq_nil_of_length_eq_zero f
  rw[g]
  exact zhD w a c
 ·rcases h with(⟨e,j,-⟩|⟨b,off,d,e,m,o,l,p⟩)|⟨a',d,e,j,-⟩
  ·omega
  ·injection e with e1 j e3
   subst e1 e3
   exact run_convert_bytes_arg (P:=prog) w 106 5 zkv zkx b off n _ k f (λi hi=>by
    have:=l i (zN (k.getD i 0)) (by rw[List.getElem?_map,getElem?_eq_getElem (by omega)];simp[f,hi])
    exact this) 9 zkw
  ·omega
theorem zdt (w:World) {a b:Option Addr} {k:List Int} (f:xG w (.slice a k.length c) k.length (k.map zN)) (g:xG w (.slice b k.length d) k.length (k.map zN)):
  Calls prog 68 #[.slice a k.length c,.slice b k.length d] w λe w'=>e=.returned (.bool true)∧Fr No w w':=by
 have h:=zep f rfl
 have i:=zep g rfl
 clear f g
 generalize strOfNums k=s at*
 go_enter Tryz.func68,Tryz.ntmps68
 go_wp2_with fail
 go_ret
 exact⟨by simp,Fr.refl _ _⟩
theorem zeu (w:World) {u v:Value} {l:List yI} (a:xu w u l) (p:xu w v l) (I:l.length≤1000):
  Calls prog 67 #[u,v] w λe w'=>e=.returned (.bool true)∧Fr No w w':=by
 obtain⟨H,y,t⟩:=YJ
 obtain⟨O,P,rfl⟩:=a.2.form
 obtain⟨Q,R,rfl⟩:=p.2.form
 have s:=J a
 have B:=J p
 clear a p
 go_enter Tryz.func67,Tryz.ntmps67
 go_wp2_with fail
 go_loopw [13] (λq wr=>∃n:Nat,q=.int .i64 n∧n≤l.length∧Fr No w wr) (λq _=>l.length-(intOf q).toNat)
 case atStart=>exact⟨0,rfl,zero_le _,Fr.refl _ _⟩
 case round=>
  obtain⟨n,rfl,L,fr⟩:=hrel
  have g:=J fr
  clear fr
  by_cases m:n<l.length
  ·have C:(n:Int)<(l.length:Int):=by omega
   obtain⟨x,a⟩:∃x,l[n]? =some x:=⟨_,getElem?_eq_getElem m⟩
   obtain⟨bx,D,F,d,b,-⟩:=(s.o.keep g.o).at_ a
   obtain⟨k,E,G,f,c,-⟩:=(B.o.keep g.o).at_ a
   obtain⟨rfl,-,rfl⟩:=Qc d
   obtain⟨rfl,-,rfl⟩:=Qc f
   have j:=J (s.o.1 x (mem_of_getElem? a))
   have r:=J (yz j.o)
   have i:=J ((frN wr).drew)
   have z:=J (za b i.o id)
   have A:=J (za c i.o id)
   clear b c d f a
   go_wp2_with fail
   refine wrLx [ff,ff,ff,ff,ff,ff,ff,ff,ff] (λW=>W.rangeAt bx (D+n*33) (zJ x)∧W.rangeAt k (E+n*33) (zJ x)) ?_ (λK hK=>?_)
   ·exact⟨z.o,A.o⟩
   repeat((first|(refine zl rfl ?_;constructor;constructor;(focus(first|exact xB (ty:=103) rfl (λw h=>h.1) y t (by rw[r.o];exact yG)|exact xB (ty:=103) rfl (λw h=>h.2) y t (by rw[r.o];exact yG)|exact λw' h=>zmF.exec_neq (u:=(zJ x).toArray) (v:=(zJ x).toArray) rfl rfl rfl (zcY j.o) (zcY j.o) true ⟨λ_=>rfl,λ_=>rfl⟩ w'|(rintro w' ⟨M,N⟩;exact goS))))|(refine zm rfl ?_));try simp only[Act.put,pA,pB,pC])
   refine zL (hK.out _ _ ?_)
   go_wp2_with fail
   go_roundw
   case rel=>exact⟨n+1,by go_num,by omega,g.o.trans0 i.o⟩
   case measure=>simp[intOf];omega
  ·have o:n=l.length:=by omega
   have C:¬(n:Int)<(l.length:Int):=by omega
   clear o
   go_wp2_with fail
   go_ret
   exact⟨rfl,g.o⟩
theorem zdb (w:World) {t:TxD} {cs ds:List Value} (P:TxQ w t cs) (hy:TxQ w t ds) (hI:t.ins.length≤1000) (hO:t.outs.length≤1000):
  Calls prog 34 #[.agg cs.toArray,.agg ds.toArray] w λe w'=>e=.returned (.bool true)∧Fr No w w':=by
 obtain⟨d,g,k,l,rfl,-,xi,xo⟩:=P
 obtain⟨ja,Q,qa,qc,rfl,-,yi,yo⟩:=hy
 have zI:=Yb
 have zO:=y9
 have f1:Fr No w (w.alloc (.cells #[.int .u32 t.ver,.slice d t.ins.length g,.slice k t.outs.length l] 34)):=(frN w).alloc _
 have F:Fr No (w.alloc (.cells #[.int .u32 t.ver,.slice d t.ins.length g,.slice k t.outs.length l] 34)) ((w.alloc (.cells #[.int .u32 t.ver,.slice d t.ins.length g,.slice k t.outs.length l] 34)).alloc (.cells #[.int .u32 t.ver,.slice ja t.ins.length Q,.slice qa t.outs.length qc] 34)):=(frN _).alloc _
 obtain⟨a0,a1,a2,-⟩:=qW w t.ver (.slice d t.ins.length g) (.slice k t.outs.length l)
 obtain⟨b0,X,b2,-⟩:=qW (w.alloc (.cells #[.int .u32 t.ver,.slice d t.ins.length g,.slice k t.outs.length l] 34)) t.ver (.slice ja t.ins.length Q) (.slice qa t.outs.length qc)
 rw[show(w.alloc (.cells #[.int .u32 t.ver,.slice d t.ins.length g,.slice k t.outs.length l] 34)).heap.size=w.heap.size+1 by simp] at b0 X b2
 have c1:=F.cell a1 _root_.id
 have c2:=F.cell a2 _root_.id
 have S:=J X
 have c:=J (f1.trans0 F)
 have T:=J (xi.keep0 c.o)
 have U:=J (yi.keep0 c.o)
 have XO:=J (xo.keep c.o)
 have YO:=J (yo.keep c.o)
 clear f1 xi yi xo yo a1 a2
 have c0:=F.cell a0 _root_.id
 clear a0 F
 show Calls prog 34 #[.agg #[.int .u32 t.ver,.slice d t.ins.length g,.slice k t.outs.length l],.agg #[.int .u32 t.ver,.slice ja t.ins.length Q,.slice qa t.outs.length qc]] w _
 go_enter Tryz.func34,Tryz.ntmps34
 have V:=tru
 go_wp2_with (clear V;go_at_call 67;refine(zeu _ XO.o YO.o hO).mono ?_;rintro e w3 ⟨rfl,Y⟩;have s:=J Y;have d1:=Y.cell c1 _root_.id;clear Y;go_frame)
 have r:=J (c.o.trans0 s.o)
 have D:=J (T.o.keep0 s.o)
 have E:=J (U.o.keep0 s.o)
 have q:=J (s.o.cell S.o _root_.id)
 clear T U S c s XO YO
 have c:=r
 have T:=D
 have U:=E
 have S:=q
 clear r D E q
 generalize w3=w2 at*
 clear d1
 clear c0 c1 c2 b0 X b2
 go_loopw [32] (λiv wr=>∃n:Nat,iv=.int .i64 n∧n≤t.ins.length∧Fr No w2 wr) (λiv _=>t.ins.length-(intOf iv).toNat)
 case atStart=>exact⟨0,rfl,zero_le _,Fr.refl _ _⟩
 case round=>
  obtain⟨n,rfl,hn,fr⟩:=hrel
  have y:=J fr
  clear fr
  by_cases I:n<t.ins.length
  ·have i1:(n:Int)<(t.ins.length:Int):=by omega
   obtain⟨x,P⟩:∃x,t.ins[n]? =some x:=⟨_,getElem?_eq_getElem I⟩
   obtain⟨bx,ox,cx,xs,N,L,i,j,rfl,b,G⟩:=(T.o.keep0 y.o).at_ P
   obtain⟨a,o,cy,ys,O,M,ma,mc,rfl,-,H⟩:=(U.o.keep0 y.o).at_ P
   obtain⟨rfl,-,rfl⟩:=Qc N
   obtain⟨rfl,-,rfl⟩:=Qc O
   have C:=J b
   have PL:=J (z6 b)
   have IL:=J (vC b (.slice i x.key.length j))
   have R1:=J L
   have R2:=J (zeI M b)
   have KX:=J G
   have KY:=J H
   have m:=J ((frN wr).alloc (.cells (inC x.from_ (.slice i x.key.length j)).toArray 108))
   have B:=J (Xr wr (p:=x.from_) (kv:=.slice i x.key.length j) b)
   clear L M G H N O P b
   have⟨V,K1⟩:=tZ2
   go_wp2_with ((first|((with_reducible refine zt ?_);clear V;refine zn9 rfl rfl rfl R1.o IL.o ?_)|((with_reducible refine zv ?_);clear K1;refine zoj (w:=wr) (cs:=inC x.from_ (.slice i x.key.length j)) rfl rfl rfl rfl IL.o Jj ?_;generalize wr.alloc (.cells (inC x.from_ (.slice i x.key.length j)).toArray 108)=R at*));go_frame)
   have SD:=J (λ(W:World) (f:Fr No R W)=>(⟨za B.o.1 f _root_.id,f.cell B.o.2 _root_.id,((y.o.trans0 m.o).trans0 f).cell S.o _root_.id,za R2.o.1 (m.o.trans0 f) _root_.id,(m.o.trans0 f).cell R2.o.2 _root_.id⟩:W.rangeAt wr.heap.size 0 (zn x.from_)∧W.cell? ⟨wr.heap.size,33,none⟩=some (.slice i x.key.length j)∧W.cell? ⟨w.heap.size+1,1,none⟩=some (.slice (some ⟨a,o,none⟩) t.ins.length Q)∧W.rangeAt a (o+n*34) (zn x.from_)∧W.cell? ⟨a,o+n*34+33,none⟩=some (.slice ma x.key.length mc)))
   have A:=@J (Fr No R R.drew) ((frN R).drew)
   refine wrLx [ff,ff,ff,ff,ff,ff,ff,ff,ff,ff,ff,ff,ff,ff,ff,ff,ff,ff,tt,ff,ff] (λW=>W.rangeAt wr.heap.size 0 (zn x.from_)∧W.cell? ⟨wr.heap.size,33,none⟩=some (.slice i x.key.length j)∧W.cell? ⟨w.heap.size+1,1,none⟩=some (.slice (some ⟨a,o,none⟩) t.ins.length Q)∧W.rangeAt a (o+n*34) (zn x.from_)∧W.cell? ⟨a,o+n*34+33,none⟩=some (.slice ma x.key.length mc)) ?_ (λK hK=>?_)
   ·exact SD.o _ A.o
   generalize R.drew=z at*
   repeat((first|(refine zl rfl ?_;constructor;constructor;(focus(first|exact zof rfl (λw h=>h.1) PL.o|exact zof rfl (λw h=>h.2.2.2.1) PL.o|exact λw' h=>JA.exec_neq (u:=(zn x.from_).toArray) (v:=(zn x.from_).toArray) rfl rfl rfl (qz C.o) (qz C.o) true ⟨λ_=>rfl,λ_=>rfl⟩ w'|(rintro w' ⟨s1,s2,s3,s4,s5⟩;exact goS))))|(refine zm rfl ?_));try simp only[Act.put,pA,pB,pC])
   (refine zF rfl (λK' hK'=>?_))
   go_simp
   refine(zdt z (KX.o.2.keep (m.o.trans0 A.o)) (KY.o.2.keep (m.o.trans0 A.o))).mono ?_
   rintro e w5 ⟨rfl,f5⟩
   have F5:=J f5
   clear f5
   refine nXt hK' ?_ λhS=>?_
   ·exact SD.o _ (A.o.trans0 F5.o)
   try simp only[Act.put,pA,pB,pC]
   repeat((first|(refine zl rfl ?_;constructor;constructor;(focus(first|(rintro w' ⟨s1,s2,s3,s4,s5⟩;exact goS))))|(refine zm rfl ?_));try simp only[Act.put,pA,pB,pC])
   refine zL (hK.out _ _ ?_)
   go_wp2_with fail
   go_roundw
   case rel=>exact⟨n+1,by go_num,by omega,(y.o.trans0 m.o).trans0 (A.o.trans0 F5.o)⟩
   case measure=>simp[intOf];omega
  ·have Z:n=t.ins.length:=by omega
   subst Z
   clear I hn
   have i1:¬(t.ins.length:Int)<(t.ins.length:Int):=by omega
   go_wp2_with fail
   go_ret
   exact⟨rfl,c.o.trans0 y.o⟩
def Zg:zd:=x9 []
def exA:TxD:=⟨0,[⟨⟨yR,0⟩,[]⟩],[⟨400,Zg⟩]⟩
def exB:TxD:=⟨1,[⟨⟨yR,0⟩,[]⟩],[⟨400,yR⟩]⟩
def exD:TxD:=⟨0,[⟨⟨idH exA,0⟩,[]⟩],[⟨300,yR⟩]⟩
def exS:List zr:=jV [] (ZJ yR [⟨500,Zg⟩])
def eA:StE:=⟨idH exA,exA⟩
def eB:StE:=⟨idH exB,exB⟩
def eD:StE:=⟨idH exD,exD⟩
set_option maxRecDepth 100000
theorem ex1:jL exS [] [] [] exA=0:=by decide+kernel
theorem ex2:jL exS [] [] [eA] exB=14:=by decide+kernel
theorem ex3:jL exS [] [] [] exB=0:=by decide+kernel
theorem ex4:jL exS [] [] [] exD=15:=by decide+kernel
theorem ex5:jL exS [] [] [eA] exD=0:=by decide+kernel
theorem ex6:qt [eA,eD] (idH exD)=[idH exD,idH exA]:=by decide+kernel
theorem ex7:idE exA=0:=by decide+kernel
theorem ex8:idE exD=0:=by decide+kernel
theorem ex9:jP [eA,eD] (idH exD)=[eA,eD]∧Qr [eA,eD] (idH exD)=[]:=by
 unfold jP Qr
 rw[ex6]
 simp[eA,eD]
theorem zaJ {P:Program} {t:TypeId} {b:List (Nat×Nat)} {vs:List (Nat×Value)} {z:Value} (h:xH P t=some (n,b)) (a:(P.info? t).bind (·.zero)=some z) (c:Jx (b.toArray[·]?) 0 vs) (e:(xE vs).length≤z.cells.size):P.built t vs=some (xE vs++z.cells.toList.drop (xE vs).length).toArray:=by
 unfold xH at h
 unfold Program.built
 cases hi:P.info? t with
 |none=>simp[hi] at h
 |some it=>
  cases hu:P.underlying t with
  |none=>simp[hi,hu] at h
  |some d=>
   cases d<;>try(simp[hi,hu] at h;done)
   rename_i fs
   rw[hi] at a
   simp only[Option.bind_some] at a
   cases hp:fs.toList.mapM (λf=>(P.info? f.type).map λi=>(f.offset,i.size)) with
   |none=>simp[hi,hu,a,hp] at h
   |some places=>
    simp[hi,hu,a,hp] at h
    obtain⟨rfl,rfl⟩:=h
    simp only[a,hp]
    have:=Vo (places.toArray[·]?) vs [] z.cells.toList c (by rw[Array.length_toList];exact e)
    simp only[List.nil_append,Array.toArray_toList] at this
    rw[this]
theorem zfD {x I B y p:World} {H o ps ma ms g m n:Nat} {s c:Nat→Prop} {q:List zr} (b:Gd I B H s q q []) (O:Fr No x I) (z:Fr No B y) (v:∀j,poV o ma ms c j→B.heap.size≤j) (u:∀X:Nat→Prop,(∀j,poV o ma ms c j→X j)→∀C,yq x y o ma ms g c X C [] 0)
  (A:Fr No y p) (l:∀j,stV ps m n RZ0 j→y.heap.size≤j) (w:∀X:Nat→Prop,(∀j,stV ps m n RZ0 j→X j)→∀C,yO x p ps m n RZ0 X C (λ_=>[])):
  ∃T:Nat→Prop,(∀X:Nat→Prop,(∀j,T j→X j)→(∀j,X j→j<p.heap.size)→WS x p H o ps T X 0 ⟨q,q,[],[],λ_=>[]⟩)∧∀j,T j→I.heap.size≤j∧j<p.heap.size:=by
 obtain⟨css,K⟩:=b.x
 have F:=K.cl
 have E:css=[]:=List.eq_nil_of_length_eq_zero F
 subst E
 have M:=u (poV o ma ms c) (λ_ h=>h) (λ_=>[])
 have t:∀j,poV o ma ms c j→j<y.heap.size:=M.hi
 have N:=w (stV ps m n RZ0) (λ_ h=>h) (λ_ _=>[])
 have G:∀j,stV ps m n RZ0 j→j<p.heap.size:=N.hi
 have a:∀j,s j→j<B.heap.size:=b.hi
 refine⟨wT s o ma ms c ps m n RZ0,λX D Q=>⟨s,[],ma,ms,g,c,λ_=>[],m,n,RZ0,λ_ _=>[],?_,rfl⟩,λj k=>?_⟩
 ·have L:CX x p H s X q q [] []:=zmr ⟨(K.fr0 z).fr0 A,b.srt0,b.ok0,b.len0,λi d cs f r=>by simp at f⟩ O
  exact
   {ch:=L
    po:=(u X (λj k=>D j (.inr (.inl k))) _).fr0 A
    st:=w X (λj k=>D j (.inr (.inr k))) _
    cp:=λj f r=>by have:=a j f;have:=v j r;omega
    csd:=λj f r=>by have:=a j f;have:=l j r;have:=z.size;omega
    psd:=λj f r=>by have:=t j f;have:=l j r;omega
    cx:=λj k=>D j (.inl k)
    xl:=Q
    val:=.nil
    l32:=by simp
    ad:=λe P=>by cases P}
 ·rcases k with e|e|e
  ·have:=a j e;have:=z.size;have:=A.size
   exact⟨b.lo j e,by omega⟩
  ·have:=t j e;have:=A.size;have:=v j e;have:=b.fr.size
   exact⟨by omega,by omega⟩
  ·have:=l j e;have:=b.fr.size;have:=z.size
   exact⟨by omega,G j e⟩
theorem zbN {a S:List zr} {Q:StQ} (d:n<65) {l:List StE} (c:Q n=l) {t:TxD} (h:jL S [] [] l t=0):vz ⟨a,S,[],[],Q⟩ n t=0∧qE ⟨a,S,[],[],Q⟩ n t=⟨a,S,[],[],jg Q n (l++[⟨idH t,t⟩])⟩:=by
 have hi:¬((n:Int)<0∨64<(n:Int)):=by omega
 subst c
 unfold vz qE
 rw[if_neg hi,if_neg hi]
 dsimp only
 rw[Int.toNat_natCast]
 have b:jL S (ye []) [] (Q n) t=0:=h
 refine⟨b,?_⟩
 unfold Y3
 rw[if_pos b]
theorem zeN {a S:List zr} {Q:StQ} (f:n<65) {l:List StE} (e:Q n=l) {t:TxD} {c:Int} (d:c≠0) (h:jL S [] [] l t=c):vz ⟨a,S,[],[],Q⟩ n t=c∧qE ⟨a,S,[],[],Q⟩ n t=⟨a,S,[],[],Q⟩:=by
 have hi:¬((n:Int)<0∨64<(n:Int)):=by omega
 subst e
 unfold vz qE
 rw[if_neg hi,if_neg hi]
 dsimp only
 rw[Int.toNat_natCast]
 have b:jL S (ye []) [] (Q n) t=c:=h
 refine⟨b,?_⟩
 unfold Y3
 rw[if_neg (by rw[b];exact d),zbm]
def zjt:StQ:=λ_=>[]
def zev:StQ:=jg zjt 3 [eA]
def zew:StQ:=jg zev 64 [eB]
def zak:StQ:=jg zew 3 [eA,eD]
def zdy:StQ:=jg zak 3 []
theorem zjv:ZM zdy=[64]:=by
 have h:∀i∈List.range 65,decide (zdy i≠[])=decide (i=64):=by
  intro i _
  unfold zdy zak zew zev zjt jg
  by_cases h3:i=3
  ·subst h3;simp
  ·by_cases h64:i=64
   ·subst h64;simp
   ·simp[h3,h64]
 unfold ZM
 rw[List.filter_congr h]
 decide
theorem zc8:xH prog 103=some (33,[(0,1),(1,32)]):=by kernel_rfl
theorem zey (v:Int) {x:zd} (h:zY x):Jx (([(0,1),(1,32)]:List (Nat×Nat)).toArray[·]?) 0 [(0,.int .u64 v),(1,.agg (zf x).toArray)]:=by
 have h:(Value.agg (zf x).toArray).cells.size=32:=by show(zf x).toArray.size=32;simpa using zx h
 exact⟨rfl,by rw[h];rfl,trivial⟩
theorem zc7 (v:Int) (x:zd):xE [(0,.int .u64 v),(1,.agg (zf x).toArray)]=zJ ⟨v,x⟩:=by simp[xE,Value.cells,zJ,zf]
theorem zi1 (w:World):(Instr.build 108 #[]).run prog w=.ok (.agg (inC xN (.slice none 0 0)).toArray) w:=by kernel_rfl
theorem zkM (w:World):(Instr.build 103 #[(0,.int .u64 400)]).run prog w=.ok (.agg (zJ ⟨400,yR⟩).toArray) w:=by kernel_rfl
theorem zkL (w:World):(Instr.build 103 #[(0,.int .u64 300)]).run prog w=.ok (.agg (zJ ⟨300,yR⟩).toArray) w:=by kernel_rfl
theorem zi4 (a b:Option Addr) (n c m d:Nat) (w:World):(Instr.build 34 #[(1,.slice a n c),(2,.slice b m d)]).run prog w=.ok (.agg [.int .u32 0,.slice a n c,.slice b m d].toArray) w:=by kernel_rfl
theorem zmp (a b:Option Addr) (n c m d:Nat) (w:World):(Instr.build 34 #[(0,.int .u32 1),(1,.slice a n c),(2,.slice b m d)]).run prog w=.ok (.agg [.int .u32 1,.slice a n c,.slice b m d].toArray) w:=by kernel_rfl
theorem zig:xH prog 95=some (33,[(0,32),(32,1)]):=by kernel_rfl
theorem zlX:(prog.info? 95).bind (·.zero)=some (.agg (zn xN).toArray):=by kernel_rfl
theorem zja {x:zd} (h:zY x):prog.built 95 [(0,.agg (zf x).toArray)]=some (zn ⟨x,0⟩).toArray:=by
 have a:(Value.agg (zf x).toArray).cells.size=32:=by show(zf x).toArray.size=32;simpa using zx h
 have e:xE [(0,.agg (zf x).toArray)]=zf x:=by simp[xE,Value.cells]
 have:=zaJ (P:=prog) (t:=95) (vs:=[(0,.agg (zf x).toArray)]) zig zlX ⟨by rw[a];rfl,trivial⟩ (by rw[e,zx h];decide)
 rw[this,e,zx h]
 rfl
theorem zif:xH prog 108=some (34,[(0,33),(33,1)]):=by kernel_rfl
theorem zlV:(prog.info? 108).bind (·.zero)=some (.agg (inC xN (.slice none 0 0)).toArray):=by kernel_rfl
theorem zi8 {q:zE} (h:q.ok):prog.built 108 [(0,.agg (zn q).toArray)]=some (inC q (.slice none 0 0)).toArray:=by
 have a:(Value.agg (zn q).toArray).cells.size=33:=by show(zn q).toArray.size=33;simpa using z6 h
 have e:xE [(0,.agg (zn q).toArray)]=zn q:=by simp[xE,Value.cells]
 have:=zaJ (P:=prog) (t:=108) (vs:=[(0,.agg (zn q).toArray)]) zif zlV ⟨by rw[a];rfl,trivial⟩ (by rw[e,z6 h];decide)
 rw[this,e,z6 h]
 rfl
theorem zc4 {o:yI} (h:w.heap[b]? =some (.cells (zJ o).toArray 103 (0,0))) (ok:o.ok):xu w (.slice (some ⟨b,0,none⟩) 1 1) [o]:=
 ⟨λx a=>by simp at a;subst a;exact ok,.inl (.inr ⟨b,0,1,rfl,le_refl _,by decide,λj u c=>by
  have:=zq h j u (by simpa using c)
  simpa using this,yF h⟩)⟩
theorem zjx {v:Int} {p:zE} {o:yI} (c:w.heap[a]? =some (.cells (inC p (.slice none 0 0)).toArray 108 (0,0))) (e:w.heap[b]? =some (.cells (zJ o).toArray 103 (0,0))) (g:p.ok) (f:o.ok) (h:0≤v∧v≤4294967295):TxQ w ⟨v,[⟨p,[]⟩],[o]⟩ [.int .u32 v,.slice (some ⟨a,0,none⟩) 1 1,.slice (some ⟨b,0,none⟩) 1 1]:=by
 refine⟨some ⟨a,0,none⟩,1,some ⟨b,0,none⟩,1,rfl,h,?_,zc4 e f⟩
 refine⟨some ⟨a,0,none⟩,1,rfl,by unfold maxLen;simp,λi d hi=>?_⟩
 cases i with
 |zero=>
  simp at hi
  subst hi
  refine⟨a,0,inC p (.slice none 0 0),rfl,by have:=zq c;simpa using this,none,0,rfl,g,by simp,?_⟩
  exact .inl (.inl ⟨rfl,rfl,rfl⟩)
 |succ i=>simp at hi
theorem zdz {v:Int} {p:zE} {o:yI} (c:w.heap[a]? =some (.cells (inC p (.slice none 0 0)).toArray 108 (0,0))) (d:w.heap[b]? =some (.cells (zJ o).toArray 103 (0,0))) (g:p.ok) (e:o.ok) (h:0≤v∧v≤4294967295) (i:¬X a) (j:¬X b):Kept X w (λw=>TxQ w ⟨v,[⟨p,[]⟩],[o]⟩ [.int .u32 v,.slice (some ⟨a,0,none⟩) 1 1,.slice (some ⟨b,0,none⟩) 1 1]):=
 λ_ f=>zjx (f.obj c i) (f.obj d j) g e h
section
variable {w0 w w':World} {pc pp ps N N':Nat} {T X T' X':Nat→Prop} {A A':WA}
theorem xV.kept (n:xV w0 w w' pc pp ps T X N' A' T' X') (h:WS w0 w pc pp ps T X N A) {Q:World→Prop} (k:Kept X w Q):Kept X' w' Q:=
 k.step (n.fr.mono (λj a=>(h.facts.1 j a).2.2)) (λj a e=>(n.xn j e).resolve_right (by omega))
theorem xV.out (n:xV w0 w w' pc pp ps T X N' A' T' X') (a:¬T b) (c:b<w.heap.size):¬T' b:=λe=>(n.tn b e).elim a (by omega)
end
def zdq (T:Nat→Prop) (w:World) (b:Nat) (cs:List Value):Prop:=w.rangeAt b 0 cs∧¬T b∧b<w.heap.size
theorem zdq.fr0 {T:Nat→Prop} {w w':World} (h:zdq T w b cs) (f:Fr No w w'):zdq T w' b cs:=⟨za h.1 f id,h.2.1,lt_of_lt_of_le h.2.2 f.size⟩
theorem zdq.next {w0 w w':World} {pc pp ps N':Nat} {T X T' X':Nat→Prop} {A':WA} (h:zdq T w b cs) (n:xV w0 w w' pc pp ps T X N' A' T' X'):zdq T' w' b cs:=⟨za h.1 n.fr h.2.1,n.out h.2.1 h.2.2,lt_of_lt_of_le h.2.2 n.fr.size⟩
theorem znG:vz ⟨exS,exS,[],[],zjt⟩ 3 exA=0∧qE ⟨exS,exS,[],[],zjt⟩ 3 exA=⟨exS,exS,[],[],zev⟩:=zbN (n:=3) (by decide) (l:=[]) rfl ex1
theorem znH:vz ⟨exS,exS,[],[],zev⟩ 3 exB=14∧qE ⟨exS,exS,[],[],zev⟩ 3 exB=⟨exS,exS,[],[],zev⟩:=zeN (n:=3) (by decide) (l:=[eA]) rfl (by decide) ex2
theorem znI:vz ⟨exS,exS,[],[],zev⟩ 64 exB=0∧qE ⟨exS,exS,[],[],zev⟩ 64 exB=⟨exS,exS,[],[],zew⟩:=zbN (n:=64) (by decide) (l:=[]) rfl ex3
theorem znJ:vz ⟨exS,exS,[],[],zew⟩ 4 exD=15∧qE ⟨exS,exS,[],[],zew⟩ 4 exD=⟨exS,exS,[],[],zew⟩:=zeN (n:=4) (by decide) (l:=[]) rfl (by decide) ex4
theorem znK:vz ⟨exS,exS,[],[],zew⟩ 3 exD=0∧qE ⟨exS,exS,[],[],zew⟩ 3 exD=⟨exS,exS,[],[],zak⟩:=zbN (n:=3) (by decide) (l:=[eA]) rfl ex5
theorem zju:zak 3=[eA,eD]:=rfl
theorem zjw:jP (zak 3) (idH exD)=[eA,eD]∧jg zak 3 (Qr (zak 3) (idH exD))=zdy:=by
 rw[zju,ex9.1,ex9.2]
 exact⟨rfl,rfl⟩
theorem zkY {w0 w:World} {pc pp ps N:Nat} {T X:Nat→Prop} (h:WS w0 w pc pp ps T X N ⟨exS,exS,[],[],zak⟩):
  Calls prog 14 #[.pointer (some ⟨ps,0,none⟩),.int .i64 3,.agg (zf (idH exD)).toArray] w λe w'=>∃g a cs,e=.returned (.tuple #[.slice (some ⟨g,0,none⟩) 2 a,.int .i64 0])∧w'.rangeAt g 0 cs∧TxQ w' exA cs∧∃T',xV w0 w w' pc pp ps T X N ⟨exS,exS,[],[],zdy⟩ T' X:=by
 have b:idH exD∈yM ((⟨exS,exS,[],[],zak⟩:WA).Q 3):=by
  show idH exD∈yM (zak 3)
  rw[zju]
  simp[yM,eD]
 refine(zkr (n:=3) h (by decide) b).mono λe w' ⟨tv,m,r,l,c,T',_,k⟩=>?_
 have o:jP ((⟨exS,exS,[],[],zak⟩:WA).Q 3) (idH exD)=[eA,eD]:=zjw.1
 have p:jg (⟨exS,exS,[],[],zak⟩:WA).Q 3 (Qr ((⟨exS,exS,[],[],zak⟩:WA).Q 3) (idH exD))=zdy:=zjw.2
 rw[o] at l c
 rw[p] at k
 have j:=(c eA (by simp)).now
 have q:=(c eD (by simp)).now
 obtain⟨g,a,rfl,s,-⟩:=JF (f:=m) (L:=[eA,eD]) (i:=0) (x:=eA) (by decide) (λx d=>by
  rcases mem_cons.1 d with rfl|d
  ·exact(YU j).1
  ·obtain rfl:=mem_singleton.1 d
   exact(YU q).1) l rfl
 exact⟨g,a,m eA,r,by simpa using s,j,T',k⟩
theorem zmH {w0 w:World} {pc pp ps N:Nat} {T X:Nat→Prop} (h:WS w0 w pc pp ps T X N ⟨exS,exS,[],[],zdy⟩):
  Calls prog 13 #[.pointer (some ⟨ps,0,none⟩),.int .i64 3] w λe w'=>∃a c,e=.returned (.slice a 0 c)∧Fr No w w':=by
 refine(zcy (n:=3) h (by decide)).mono λe w' ⟨g,b,d,f⟩=>?_
 obtain⟨a,c,rfl⟩:=d.slice.arg.form
 exact⟨a,c,b,f⟩
theorem zmI {w0 w:World} {pc pp ps N:Nat} {T X:Nat→Prop} (h:WS w0 w pc pp ps T X N ⟨exS,exS,[],[],zdy⟩):
  Calls prog 21 #[.pointer (some ⟨ps,0,none⟩)] w λe w'=>∃a c,e=.returned (.slice a 1 c)∧Fr No w w':=by
 refine(ziy h).mono λe w' ⟨i,g,b,f⟩=>?_
 have d:ZM (⟨exS,exS,[],[],zdy⟩:WA).Q=[64]:=zjv
 rw[d] at b
 obtain⟨a,c,rfl⟩:=b.slice.arg.form
 exact⟨a,c,g,f⟩
theorem Vv:zY Zg:=Ju []
theorem zdQ:xN.ok:=⟨xM,by decide,by decide⟩
theorem zmb:(⟨500,Zg⟩:yI).ok:=⟨by decide,Vv⟩
theorem zjU:(⟨400,Zg⟩:yI).ok:=⟨by decide,Vv⟩
theorem zmc:(⟨400,yR⟩:yI).ok:=⟨by decide,xM⟩
theorem zmd:(⟨300,yR⟩:yI).ok:=⟨by decide,xM⟩
theorem zgm:(⟨idH exA,0⟩:zE).ok:=⟨qC exA,by decide,by decide⟩
theorem zei {w:World} (hg:q9 w):Calls prog 9 #[] w λe w'=>e=.returned (.bool true)∧Fr No w w':=by
 obtain⟨dT,uT,rT⟩:=zfZ
 have zh:=yS
 have zT:=show ∀w,(zeroValue 34).run prog w=.ok (.agg VX.toArray) w from vt
 have F:=J hg
 have ae:=@J (∀w:World,xG w (.slice none 0 0) ([]:List Int).length (([]:List Int).map zN)) (λw=>.inl (.inl ⟨rfl,rfl,rfl⟩))
 have a6:=J (yz zmb)
 have a7:=J (yz zjU)
 have cp:=J (yz zmc)
 have cq:=J (yz zmd)
 have ay:=J (vC zdQ (.slice none 0 0))
 have bA:=J (vC zgm (.slice none 0 0))
 have bk:=J (zx (qC exA))
 have bl:=J (zx (qC exD))
 clear hg
 go_enter Tryz.func9,Tryz.ntmps9
 have⟨K0,K1,K2,K3,K4,K5,K6,K7,K8,K9,bB,bC,bD,bE,bF,bG,bH,bI,bJ,bK,bL,bM,bN,bO,bP,bQ,bR,bS,bT,bU,bV,bW,bX,bY,bZ,b1,b2,b3,b4,b5,b6,b7,b8,b9,ca⟩:=tZ45
 go_wp2_with ((first|(clear K0;go_at_call 36;refine(zbR F.o (ae.o _) (by decide)).mono ?_;rintro e w1 ⟨rfl,f1⟩;have F1:=J f1;clear f1)|(clear K3;go_at_call 35;refine(zma w2 (zc4 bt.o zmb) (by decide)).mono ?_;rintro e w3 ⟨pc,rfl,VC,hc⟩;have HC:=J hc;have F3:=J (F2.o.trans0 hc.fr);clear hc)|(clear K4;go_at_call 37;refine(zl8 w w3 F3.o).mono ?_;rintro e w4 ⟨rfl,f4,ma,ms,g,VG,bo,bn⟩;have F4:=J (F3.o.trans0 f4);have PV:=J bo;have PO:=J bn;have FP:=J f4;clear bo bn f4;generalize cZ:w3.heap.size=pp at*)|(clear K5;go_at_call 38;refine(zl9 w w4 F4.o).mono ?_;rintro e w5 ⟨ps,ka,ks,rfl,f5,bq,bp⟩;have F5:=J (F4.o.trans0 f5);obtain⟨T,br,ar⟩:=zfD HC.o F2.o FP.o (λj hj=>by have:=PV.o j hj;omega) PO.o f5 bq bp;have cy:=J (br T (λ_ h=>h) (λj hj=>(ar j hj).2));have S5:=J (frN w5);have I:=J (λj hj=>(ar j hj).2);clear br ar f5 bq bp HC PV PO FP)|(clear K8;go_at_call 36;refine(zbR (F.o.keep0 F6.o) (ae.o _) (by decide)).mono ?_;rintro e w7 ⟨rfl,f7⟩;have F7:=J (F6.o.trans0 f7);have S7:=J (S6.o.trans0 f7);have b:=J (f7.obj b.o id);clear f7)|(clear bL;go_at_call 15;refine(Xq (F.o.keep0 bx.o) TA.o).mono ?_;rintro e C ⟨rfl,n⟩;rw[ex7];have ct:=J (cr.o.trans0 n);have b:=J (n.obj b.o id);have c:=J (n.obj c.o id);have d:=J (n.obj d.o id);have f:=J (n.obj f.o id);have i:=J (n.obj i.o id);have k:=J (n.obj k.o id);clear n)|(clear bW;go_at_call 12;refine(YM (F.o.keep0 v.o.facts.2.2.1) v.o 3 Y.o).mono ?_;rintro e c0 ⟨rfl,cM,cS,l⟩;rw[znG.1];rw[znG.2] at l;have x:=J l.ws;have aB:=J (l.kept v.o Y.o);have aN:=J (af.o.next l);have Z:=J (l.kept v.o az.o);have ag:=J (aV.o.next l);have aC:=J (l.kept v.o aA.o);have aY:=J (aX.o.next l);clear l)|(clear bY;go_at_call 12;refine(YM (F.o.keep0 x.o.facts.2.2.1) x.o 3 Z.o).mono ?_;rintro e c3 ⟨rfl,cN,cT,m⟩;rw[znH.1];rw[znH.2] at m;have L:=J m.ws;have aD:=J (m.kept x.o aB.o);have aO:=J (aN.o.next m);have aE:=J (m.kept x.o Z.o);have aW:=J (ag.o.next m);have aF:=J (m.kept x.o aC.o);have aZ:=J (aY.o.next m);clear m)|(clear b1;go_at_call 12;refine(YM (F.o.keep0 L.o.facts.2.2.1) L.o 64 aE.o).mono ?_;rintro e c4 ⟨rfl,cO,cU,p⟩;rw[znI.1];rw[znI.2] at p;have M:=J p.ws;have aG:=J (p.kept L.o aD.o);have aP:=J (aO.o.next p);have ab:=J (p.kept L.o aF.o);have ah:=J (aZ.o.next p);clear p)|(clear b3;go_at_call 12;refine(YM (F.o.keep0 M.o.facts.2.2.1) M.o 4 ab.o).mono ?_;rintro e c7 ⟨rfl,cP,cV,q⟩;rw[znJ.1];rw[znJ.2] at q;have O:=J q.ws;have aH:=J (q.kept M.o aG.o);have aQ:=J (aP.o.next q);have ad:=J (q.kept M.o ab.o);have ai:=J (ah.o.next q);clear q)|(clear b5;go_at_call 12;refine(YM (F.o.keep0 O.o.facts.2.2.1) O.o 3 ad.o).mono ?_;rintro e c8 ⟨rfl,cQ,cW,r⟩;rw[znK.1];rw[znK.2] at r;have bf:=J r.ws;have aI:=J (r.kept O.o aH.o);have aR:=J (aQ.o.next r);have aJ:=J (r.kept O.o ad.o);have a1:=J (ai.o.next r);clear r)|(clear b7;go_at_call 15;refine(Xq (F.o.keep0 bf.o.facts.2.2.1) aJ.o.now).mono ?_;rintro e E ⟨rfl,P⟩;rw[ex8];have cv:=J (bf.o.fr0 P);have aK:=J (aI.o.same P.of0);have aS:=J (aR.o.fr0 P);clear P)|(clear ca;go_at_call 14;refine(zkY bg.o).mono ?_;rintro e bs ⟨g,cX,cs,rfl,hg,hq,cR,R⟩;obtain⟨ja,jc,ka,kc,cz⟩:=hq.form;subst cz;have RG:=J hg;have HQ:=J hq;have cw:=J R.ws;have aM:=J (R.kept bg.o aL.o);have aU:=J (aT.o.next R);clear hg hq R)|((with_reducible refine zt ?_);first|(clear K1;refine zg rfl (yQ (t:=103) rfl rfl zc8 (zey _ Vv) (zc7 _ _) a6.o) ?_)|(clear K2;refine zg rfl (zS (t:=22) (cs:=zJ ⟨500,Zg⟩) rfl rfl qN Jp (by rw[←yA];rfl) (by decide) (by decide) a6.o) ?_;generalize cA:w1.heap.size=b0 at*;have bt:=J (yJ w1 (.cells (zJ ⟨500,Zg⟩).toArray 103) cA.symm);have F2:=J (F1.o.alloc (.cells (zJ ⟨500,Zg⟩).toArray 103));generalize w1.alloc (.cells (zJ ⟨500,Zg⟩).toArray 103)=w2 at*)|(clear K6;with_reducible refine yv 37 ?_;refine zg rfl (yk (t:=108) rfl rfl (zi1 _)) ?_)|(clear K7;refine zg rfl (zS (t:=32) (cs:=inC xN (.slice none 0 0)) rfl rfl XB Vs rfl (by decide) (by decide) ay.o) ?_;generalize cF:w5.heap.size=y at*;have b:=J (yJ w5 (.cells (inC xN (.slice none 0 0)).toArray 108) cF.symm);have F6:=J (F5.o.alloc (.cells (inC xN (.slice none 0 0)).toArray 108));have S6:=J (S5.o.alloc (.cells (inC xN (.slice none 0 0)).toArray 108));have cg:=@J (¬T y) (λe=>by have:=I.o _ e;have:=S5.o.size;omega);have a:=J ((frN w5).alloc (.cells (inC xN (.slice none 0 0)).toArray 108));clear a;generalize w5.alloc (.cells (inC xN (.slice none 0 0)).toArray 108)=w6 at*)|(clear K9;refine zg rfl (yQ (t:=103) rfl rfl zc8 (zey _ Vv) (zc7 _ _) a7.o) ?_)|(clear bB;refine zg rfl (zS (t:=22) (cs:=zJ ⟨400,Zg⟩) rfl rfl qN Jp (by rw[←yA];rfl) (by decide) (by decide) a7.o) ?_;generalize cI:w7.heap.size=z at*;have c:=J (yJ w7 (.cells (zJ ⟨400,Zg⟩).toArray 103) cI.symm);have F8:=J (F7.o.alloc (.cells (zJ ⟨400,Zg⟩).toArray 103));have S8:=J (S7.o.alloc (.cells (zJ ⟨400,Zg⟩).toArray 103));have ck:=@J (¬T z) (λe=>by have:=I.o _ e;have:=S7.o.size;omega);have a:=J ((frN w7).alloc (.cells (zJ ⟨400,Zg⟩).toArray 103));have b:=J (a.o.obj b.o id);clear a;generalize w7.alloc (.cells (zJ ⟨400,Zg⟩).toArray 103)=w8 at*)|(clear bC;with_reducible refine yv 42 ?_;refine zg rfl (yk (t:=34) rfl rfl (zi4 _ _ _ _ _ _ _)) ?_)|(clear bE;with_reducible refine yv 43 ?_;refine zg rfl (yk (t:=108) rfl rfl (zi1 _)) ?_)|(clear bF;refine zg rfl (zS (t:=32) (cs:=inC xN (.slice none 0 0)) rfl rfl XB Vs rfl (by decide) (by decide) ay.o) ?_;generalize cG:w9.heap.size=Q at*;have f:=J (yJ w9 (.cells (inC xN (.slice none 0 0)).toArray 108) cG.symm);have bu:=J (F9.o.alloc (.cells (inC xN (.slice none 0 0)).toArray 108));have a8:=J (S9.o.alloc (.cells (inC xN (.slice none 0 0)).toArray 108));have ch:=@J (¬T Q) (λe=>by have:=I.o _ e;have:=S9.o.size;omega);have a:=J ((frN w9).alloc (.cells (inC xN (.slice none 0 0)).toArray 108));have b:=J (a.o.obj b.o id);have c:=J (a.o.obj c.o id);have d:=J (a.o.obj d.o id);clear a;generalize w9.alloc (.cells (inC xN (.slice none 0 0)).toArray 108)=U at*)|(clear bG;with_reducible refine yv 45 ?_;refine zg rfl (yk (t:=103) rfl rfl (zkM _)) ?_)|(clear bH;refine zg rfl (zS (t:=22) (cs:=zJ ⟨400,yR⟩) rfl rfl qN Jp (by rw[←yA];rfl) (by decide) (by decide) cp.o) ?_;generalize cJ:U.heap.size=S at*;have i:=J (yJ U (.cells (zJ ⟨400,yR⟩).toArray 103) cJ.symm);have bw:=J (bu.o.alloc (.cells (zJ ⟨400,yR⟩).toArray 103));have ba:=J (a8.o.alloc (.cells (zJ ⟨400,yR⟩).toArray 103));have cm:=@J (¬T S) (λe=>by have:=I.o _ e;have:=a8.o.size;omega);have a:=J ((frN U).alloc (.cells (zJ ⟨400,yR⟩).toArray 103));have b:=J (a.o.obj b.o id);have c:=J (a.o.obj c.o id);have d:=J (a.o.obj d.o id);have f:=J (a.o.obj f.o id);clear a;generalize U.alloc (.cells (zJ ⟨400,yR⟩).toArray 103)=B at*)|(clear bI;with_reducible refine yv 47 ?_;refine zg rfl (yk (t:=34) rfl rfl (zmp _ _ _ _ _ _ _)) ?_)|(clear bK;refine zoa rfl rfl rfl LD.o rfl ?_)|(clear bN;refine zoc rfl rfl rfl LH.o bk.o ?_)|(clear bO;with_reducible refine yv 54 ?_;refine zg rfl (Xm (t:=95) rfl rfl (zja (qC exA))) ?_)|(clear bP;with_reducible refine yv 55 ?_;refine zg rfl (Xm (t:=108) rfl rfl (zi8 zgm)) ?_)|(clear bQ;refine zg rfl (zS (t:=32) (cs:=inC ⟨idH exA,0⟩ (.slice none 0 0)) rfl rfl XB Vs rfl (by decide) (by decide) bA.o) ?_;generalize cH:V.heap.size=i3 at*;have u:=J (yJ V (.cells (inC ⟨idH exA,0⟩ (.slice none 0 0)).toArray 108) cH.symm);have bc:=J (bb.o.alloc (.cells (inC ⟨idH exA,0⟩ (.slice none 0 0)).toArray 108));have cj:=@J (¬T i3) (λe=>by have:=I.o _ e;have:=bb.o.size;omega);have a:=J ((frN V).alloc (.cells (inC ⟨idH exA,0⟩ (.slice none 0 0)).toArray 108));have b:=J (a.o.obj b.o id);have c:=J (a.o.obj c.o id);have d:=J (a.o.obj d.o id);have f:=J (a.o.obj f.o id);have i:=J (a.o.obj i.o id);have k:=J (a.o.obj k.o id);have o:=J (a.o.obj o.o id);clear a;generalize V.alloc (.cells (inC ⟨idH exA,0⟩ (.slice none 0 0)).toArray 108)=W at*)|(clear bR;with_reducible refine yv 57 ?_;refine zg rfl (yk (t:=103) rfl rfl (zkL _)) ?_)|(clear bS;refine zg rfl (zS (t:=22) (cs:=zJ ⟨300,yR⟩) rfl rfl qN Jp (by rw[←yA];rfl) (by decide) (by decide) cq.o) ?_;generalize cK:W.heap.size=o3 at*;have aj:=J (yJ W (.cells (zJ ⟨300,yR⟩).toArray 103) cK.symm);have bd:=J (bc.o.alloc (.cells (zJ ⟨300,yR⟩).toArray 103));have cn:=@J (¬T o3) (λe=>by have:=I.o _ e;have:=bc.o.size;omega);have a:=J ((frN W).alloc (.cells (zJ ⟨300,yR⟩).toArray 103));have b:=J (a.o.obj b.o id);have c:=J (a.o.obj c.o id);have d:=J (a.o.obj d.o id);have f:=J (a.o.obj f.o id);have i:=J (a.o.obj i.o id);have k:=J (a.o.obj k.o id);have o:=J (a.o.obj o.o id);have u:=J (a.o.obj u.o id);clear a;generalize W.alloc (.cells (zJ ⟨300,yR⟩).toArray 103)=D at*)|(clear bT;with_reducible refine yv 59 ?_;refine zg rfl (yk (t:=34) rfl rfl (zi4 _ _ _ _ _ _ _)) ?_)|(clear bV;refine zoa rfl rfl rfl af.o.1 rfl ?_)|(clear bX;refine xU rfl (z7 (ty:=34) rfl rfl ag.o.1 uT rT y5) ?_)|(clear bZ;refine xU rfl (z7 (ty:=34) rfl rfl aW.o.1 uT rT y5) ?_)|(clear b2;refine xU rfl (z7 (ty:=34) rfl rfl ah.o.1 uT rT y5) ?_)|(clear b4;refine xU rfl (z7 (ty:=34) rfl rfl ai.o.1 uT rT y5) ?_)|(clear b6;refine zoa rfl rfl rfl a1.o.1 rfl ?_)|(clear b9;refine zoc rfl rfl rfl LX.o bl.o ?_))|((with_reducible refine zv ?_);first|(clear bD;refine zi rfl (zj (w:=w8) (ty:=34) (cs:=[.int .u32 0,.slice (some ⟨y,0,none⟩) 1 1,.slice (some ⟨z,0,none⟩) 1 1]) rfl rfl rfl rfl y5 (qM rfl rfl rfl)) ?_;generalize cB:w8.heap.size=c5 at*;have d:=J (yJ w8 (.cells ([.int .u32 0,.slice (some ⟨y,0,none⟩) 1 1,.slice (some ⟨z,0,none⟩) 1 1]).toArray 34) cB.symm);have F9:=J (F8.o.alloc (.cells ([.int .u32 0,.slice (some ⟨y,0,none⟩) 1 1,.slice (some ⟨z,0,none⟩) 1 1]).toArray 34));have S9:=J (S8.o.alloc (.cells ([.int .u32 0,.slice (some ⟨y,0,none⟩) 1 1,.slice (some ⟨z,0,none⟩) 1 1]).toArray 34));have cc:=@J (¬T c5) (λe=>by have:=I.o _ e;have:=S8.o.size;omega);have a:=J ((frN w8).alloc (.cells ([.int .u32 0,.slice (some ⟨y,0,none⟩) 1 1,.slice (some ⟨z,0,none⟩) 1 1]).toArray 34));have b:=J (a.o.obj b.o id);have c:=J (a.o.obj c.o id);clear a;generalize w8.alloc (.cells ([.int .u32 0,.slice (some ⟨y,0,none⟩) 1 1,.slice (some ⟨z,0,none⟩) 1 1]).toArray 34)=w9 at*)|(clear bJ;refine zi rfl (zj (w:=B) (ty:=34) (cs:=[.int .u32 1,.slice (some ⟨Q,0,none⟩) 1 1,.slice (some ⟨S,0,none⟩) 1 1]) rfl rfl rfl rfl y5 (qM rfl rfl rfl)) ?_;generalize cC:B.heap.size=c6 at*;have k:=J (yJ B (.cells ([.int .u32 1,.slice (some ⟨Q,0,none⟩) 1 1,.slice (some ⟨S,0,none⟩) 1 1]).toArray 34) cC.symm);have bx:=J (bw.o.alloc (.cells ([.int .u32 1,.slice (some ⟨Q,0,none⟩) 1 1,.slice (some ⟨S,0,none⟩) 1 1]).toArray 34));have cr:=J (ba.o.alloc (.cells ([.int .u32 1,.slice (some ⟨Q,0,none⟩) 1 1,.slice (some ⟨S,0,none⟩) 1 1]).toArray 34));have cd:=@J (¬T c6) (λe=>by have:=I.o _ e;have:=ba.o.size;omega);have a:=J ((frN B).alloc (.cells ([.int .u32 1,.slice (some ⟨Q,0,none⟩) 1 1,.slice (some ⟨S,0,none⟩) 1 1]).toArray 34));have b:=J (a.o.obj b.o id);have c:=J (a.o.obj c.o id);have d:=J (a.o.obj d.o id);have f:=J (a.o.obj f.o id);have i:=J (a.o.obj i.o id);clear a;generalize B.alloc (.cells ([.int .u32 1,.slice (some ⟨Q,0,none⟩) 1 1,.slice (some ⟨S,0,none⟩) 1 1]).toArray 34)=cL at*;have LD:=J (zq d.o);have TA:=@J (TxQ cL exA [.int .u32 0,.slice (some ⟨y,0,none⟩) 1 1,.slice (some ⟨z,0,none⟩) 1 1]) (zjx b.o c.o zdQ zjU (by decide)))|(clear bM;refine zol (w:=C) (cs:=zf (idH exA)) rfl rfl rfl rfl bk.o zU ?_;generalize cE:C.heap.size=h7 at*;have o:=J (yJ C (.cells (zf (idH exA)).toArray 41) cE.symm);have bb:=J (ct.o.alloc (.cells (zf (idH exA)).toArray 41));have a:=J ((frN C).alloc (.cells (zf (idH exA)).toArray 41));have b:=J (a.o.obj b.o id);have c:=J (a.o.obj c.o id);have d:=J (a.o.obj d.o id);have f:=J (a.o.obj f.o id);have i:=J (a.o.obj i.o id);have k:=J (a.o.obj k.o id);clear a;generalize C.alloc (.cells (zf (idH exA)).toArray 41)=V at*;have LH:=J (zq o.o))|(clear bU;refine zi rfl (zj (w:=D) (ty:=34) (cs:=[.int .u32 0,.slice (some ⟨i3,0,none⟩) 1 1,.slice (some ⟨o3,0,none⟩) 1 1]) rfl rfl rfl rfl y5 (qM rfl rfl rfl)) ?_;generalize cD:D.heap.size=c9 at*;have au:=J (yJ D (.cells ([.int .u32 0,.slice (some ⟨i3,0,none⟩) 1 1,.slice (some ⟨o3,0,none⟩) 1 1]).toArray 34) cD.symm);have cu:=J (bd.o.alloc (.cells ([.int .u32 0,.slice (some ⟨i3,0,none⟩) 1 1,.slice (some ⟨o3,0,none⟩) 1 1]).toArray 34));have cf:=@J (¬T c9) (λe=>by have:=I.o _ e;have:=bd.o.size;omega);have a:=J ((frN D).alloc (.cells ([.int .u32 0,.slice (some ⟨i3,0,none⟩) 1 1,.slice (some ⟨o3,0,none⟩) 1 1]).toArray 34));have b:=J (a.o.obj b.o id);have c:=J (a.o.obj c.o id);have d:=J (a.o.obj d.o id);have f:=J (a.o.obj f.o id);have i:=J (a.o.obj i.o id);have k:=J (a.o.obj k.o id);have o:=J (a.o.obj o.o id);have u:=J (a.o.obj u.o id);have aj:=J (a.o.obj aj.o id);clear a;generalize D.alloc (.cells ([.int .u32 0,.slice (some ⟨i3,0,none⟩) 1 1,.slice (some ⟨o3,0,none⟩) 1 1]).toArray 34)=s at*;have ax:=cu;have v:=@J (WS w s pc pp ps T T 0 ⟨exS,exS,[],[],zjt⟩) (cy.o.fr0 ax.out);have Y:=@J (Kept T s (λw=>TxQ w exA [.int .u32 0,.slice (some ⟨y,0,none⟩) 1 1,.slice (some ⟨z,0,none⟩) 1 1])) (zdz b.o c.o zdQ zjU (by decide) cg.o ck.o);have az:=@J (Kept T s (λw=>TxQ w exB [.int .u32 1,.slice (some ⟨Q,0,none⟩) 1 1,.slice (some ⟨S,0,none⟩) 1 1])) (zdz f.o i.o zdQ zmc (by decide) ch.o cm.o);have aA:=@J (Kept T s (λw=>TxQ w exD [.int .u32 0,.slice (some ⟨i3,0,none⟩) 1 1,.slice (some ⟨o3,0,none⟩) 1 1])) (zdz u.o aj.o zgm zmd (by decide) cj.o cn.o);have af:=@J (zdq T s c5 [.int .u32 0,.slice (some ⟨y,0,none⟩) 1 1,.slice (some ⟨z,0,none⟩) 1 1]) (⟨zq d.o,cc.o,yF d.o⟩);have aV:=@J (zdq T s c6 [.int .u32 1,.slice (some ⟨Q,0,none⟩) 1 1,.slice (some ⟨S,0,none⟩) 1 1]) (⟨zq k.o,cd.o,yF k.o⟩);have aX:=@J (zdq T s c9 [.int .u32 0,.slice (some ⟨i3,0,none⟩) 1 1,.slice (some ⟨o3,0,none⟩) 1 1]) (⟨zq au.o,cf.o,yF au.o⟩))|(clear b8;refine zol (w:=E) (cs:=zf (idH exD)) rfl rfl rfl rfl bl.o zU ?_;generalize bm:E.heap.size=cY at*;have a:=J ((frN E).alloc (.cells (zf (idH exD)).toArray 41));have av:=J (yJ E (.cells (zf (idH exD)).toArray 41) bm.symm);generalize E.alloc (.cells (zf (idH exD)).toArray 41)=da at*;have bg:=J (cv.o.fr0 a.o);have aL:=J (aK.o.same a.o.of0);have aT:=J (aS.o.fr0 a.o);have LX:=J (zq av.o))));go_frame)
 have FD:=J (frN bs).drew
 have WD:=J (cw.o.fr0 FD.o)
 have H:=J (za RG.o FD.o id)
 have G:=J (za aU.o.1 FD.o id)
 have bz:=J (HQ.o.keep FD.o)
 have cb:=J (aM.o.now.keep FD.o)
 refine wrLx [ff,ff,ff,ff,ff,ff,ff,ff,ff,ff,ff,ff,tt,ff,ff,ff,tt,ff,ff,ff,ff,ff,tt,ff,ff,ff,ff] (λw'=>w'.rangeAt g 0 [.int .u32 exA.ver,.slice ja exA.ins.length jc,.slice ka exA.outs.length kc]∧w'.rangeAt c5 0 [.int .u32 0,.slice (some ⟨y,0,none⟩) 1 1,.slice (some ⟨z,0,none⟩) 1 1]) ?_ (λK hK=>?_)
 ·exact⟨H.o,G.o⟩
 generalize bs.drew=wd at*
 repeat((first|(refine zl rfl ?_;constructor;constructor;(focus(first|exact zoh rfl (λw h=>h.1) rfl|exact zoh rfl (λw h=>h.2) rfl|(rintro w' ⟨s1,s2⟩;exact goS))))|(refine zm rfl ?_));try simp only[Act.put,pA,pB,pC])
 (refine zF rfl (λK' hK'=>?_))
 go_simp
 refine(zdb wd bz.o cb.o (by decide) (by decide)).mono ?_
 rintro e db ⟨rfl,an⟩
 have bh:=J (WD.o.fr0 an)
 have ak:=J an
 clear an
 refine nXt hK' ?_ λhS=>?_
 ·exact⟨za H.o ak.o id,za G.o ak.o id⟩
 try simp only[Act.put,pA,pB,pC]
 repeat((first|(refine zl rfl ?_;constructor;constructor;(focus(first|(rintro w' ⟨s1,s2⟩;exact goS))))|(refine zm rfl ?_));try simp only[Act.put,pA,pB,pC])
 (refine zF rfl (λK' hK'=>?_))
 go_simp
 refine(zmH bh.o).mono ?_
 rintro e dc ⟨aa,ac,rfl,ao⟩
 have bj:=J (bh.o.fr0 ao)
 have al:=J (ak.o.trans0 ao)
 clear ao
 refine nXt hK' ?_ λhS=>?_
 ·exact⟨za H.o al.o id,za G.o al.o id⟩
 try simp only[Act.put,pA,pB,pC]
 repeat((first|(refine zl rfl ?_;constructor;constructor;(focus(first|(rintro w' ⟨s1,s2⟩;exact goS))))|(refine zm rfl ?_));try simp only[Act.put,pA,pB,pC])
 (refine zF rfl (λK' hK'=>?_))
 go_simp
 refine(zmI bj.o).mono ?_
 rintro e dd ⟨sa,sc,rfl,aq⟩
 have cx:=J (bj.o.fr0 aq)
 have aw:=J (al.o.trans0 aq)
 clear aq
 refine nXt hK' ?_ λhS=>?_
 ·exact⟨za H.o aw.o id,za G.o aw.o id⟩
 try simp only[Act.put,pA,pB,pC]
 repeat((first|(refine zl rfl ?_;constructor;constructor;(focus(first|(rintro w' ⟨s1,s2⟩;exact goS))))|(refine zm rfl ?_));try simp only[Act.put,pA,pB,pC])
 refine zL (hK.out _ _ ?_)
 go_wp2_with fail
 go_ret
 exact⟨rfl,cx.o.facts.2.2.1⟩
def jh (pc pp ps:Nat):List Value:=[.pointer (some ⟨pc,0,none⟩),.pointer (some ⟨pp,0,none⟩),.pointer (some ⟨ps,0,none⟩)]
theorem zdm (w:World):(zeroValue 29).run prog w=.ok (.agg #[.pointer none,.pointer none,.pointer none]) w:=by kernel_rfl
theorem zi5 (a b c:Option Addr) (w:World):(Instr.build 29 #[(0,.pointer a),(1,.pointer b),(2,.pointer c)]).run prog w=.ok (.agg [.pointer a,.pointer b,.pointer c].toArray) w:=by kernel_rfl
theorem XY:(prog.info? 29).map (·.size)=some 3:=by kernel_rfl
def ziZ (first:List yI):List zr:=jV [] (ZJ yR first)
theorem zfP {u w:World} (S:Fr No u w) {first:List yI} (V:xu w v first) (hN:first.length≤256):
  Calls prog 10 #[v] w λe w'=>∃c d ps T,e=.returned (.agg (jh c d ps).toArray)∧(∀X:Nat→Prop,(∀j,T j→X j)→(∀j,X j→T j∨j<w.heap.size)→WS u w' c d ps T X 0 ⟨ziZ first,ziZ first,[],[],λ_=>[]⟩)∧(∀j,T j→w.heap.size≤j)∧Fr No w w':=by
 have zw:=zdm
 have x:=J S
 have B:=J ((frN w).alloc (.cells #[.pointer none,.pointer none,.pointer none] 29))
 have Y:=J (yj w (.cells #[.pointer none,.pointer none,.pointer none] 29))
 have HC:=J (zma _ (V.keep B.o) hN)
 clear V S
 go_enter Tryz.func10,Tryz.ntmps10
 have⟨K0,K1,K2,K3,K4⟩:=tZ5
 go_wp2_with ((first|(clear K0;go_at_call 35;generalize G:w.heap.size=f at*;generalize r:w.alloc (.cells #[.pointer none,.pointer none,.pointer none] 29)=w1 at*;have R:=@J (w1.heap.size=f+1) (by rw[←r,←G];simp);clear r;refine HC.o.mono ?_;rintro e W ⟨c,rfl,VC,A⟩;have GC:=J A;have C:=J (B.o.trans0 A.fr);have Z:=J (A.fr.obj Y.o id);clear A)|(clear K1;go_at_call 37;refine(zl8 u W (x.o.trans0 C.o)).mono ?_;rintro e w4 ⟨rfl,y,ma,ms,g,VG,o,n⟩;have L:=J (C.o.trans0 y);have Q:=J o;have O:=J n;have M:=J y;have I:=J (y.obj Z.o id);clear o n y;generalize ab:W.heap.size=d at*)|(clear K2;go_at_call 38;refine(zl9 u w4 (x.o.trans0 L.o)).mono ?_;rintro e H ⟨ps,ka,ks,rfl,l,q,p⟩;have D:=J (L.o.trans0 l);obtain⟨T,s,m⟩:=zfD GC.o (x.o.trans0 B.o) M.o (λj a=>by have:=Q.o j a;omega) O.o l q p;have E:=J s;have k:=J m;have Z5:=@J (f<H.heap.size) (by have:=D.o.size;have:=R.o;have:=C.o.size;have z:=yF (l.obj I.o id);exact z);have K:=J (l.obj I.o id);clear s m l q p GC Q O M)|((with_reducible refine zt ?_);clear K3;refine zg rfl (yk (t:=29) rfl rfl (zi5 _ _ _ _)) ?_)|((with_reducible refine zv ?_);clear K4;refine zi rfl (zK (ty:=29) (b:=f) (off:=0) (cs:=[.pointer (some ⟨c,0,none⟩),.pointer (some ⟨d,0,none⟩),.pointer (some ⟨ps,0,none⟩)]) rfl rfl rfl (zX K.o (le_refl 3)) XY (qM rfl rfl rfl)) ?_));go_frame)
 have BE:=Yj (cs:=[.pointer (some ⟨c,0,none⟩),.pointer (some ⟨d,0,none⟩),.pointer (some ⟨ps,0,none⟩)]) K.o rfl
 have F:=zu f [.pointer (some ⟨c,0,none⟩),.pointer (some ⟨d,0,none⟩),.pointer (some ⟨ps,0,none⟩)] 0 H
 have HW:=E.o
 have N:∀j,T j→f+1≤j:=λj a=>by have:=(k.o j a).1;have:=R.o;omega
 have aa:u.heap.size≤f:=by have:=x.o.size;omega
 have WE:=λ(X:Nat→Prop) (z:∀j,T j→X j) (h2:∀j,X j→T j∨j<w.heap.size)=>
  have U:∀j,X j→j<H.heap.size:=λj a=>(h2 j a).elim (λe=>(k.o j e).2) (λe=>by have:=D.o.size;omega)
  (HW (λj=>X j∨j=f) (λj h=>.inl (z j h)) (λj a=>a.elim (U j) (λe=>by rw[e];exact Z5.o))).frV (X':=X) F (λj a e=>by have:=N j a;omega) (λj e=>by omega) (λj e=>.inr e) (λj _ e=>.inl e) z (λj a=>lt_of_lt_of_le (U j a) F.size)
 refine bodyPost_ret (v:=.agg [.pointer (some ⟨c,0,none⟩),.pointer (some ⟨d,0,none⟩),.pointer (some ⟨ps,0,none⟩)].toArray) (results_cell_row (P:=prog) (fn:=Tryz.f10) rfl _ _ f 29 _ (0,0) _ rfl BE Tryz.underlying29 rfl XY) rfl ⟨c,d,ps,T,rfl,WE,λj a=>by have:=N j a;omega,D.o.trans F (λi hi e=>by omega)⟩
section
variable {w0 w w':World} {pc pp ps N N':Nat} {T X T' X':Nat→Prop} {A A':WA}
end
def FlA (w0 w:World) (c7 pc pp ps:Nat) (T X:Nat→Prop) (N:Nat) (A:WA):Prop:=
 WS w0 w pc pp ps T X N A∧(∀j,X j→w0.heap.size≤j)∧¬T c7∧w.heap[c7]? =some (.cells (jh pc pp ps).toArray 29 (0,0))
section
variable {w0 w w':World} {c7 pc pp ps N N':Nat} {T X T' X':Nat→Prop} {A A':WA}
theorem FlA.fr0 (h:FlA w0 w c7 pc pp ps T X N A) (f:Fr No w w'):FlA w0 w' c7 pc pp ps T X N A:=⟨h.1.fr0 f,h.2.1,h.2.2.1,f.obj h.2.2.2 id⟩
theorem FlA.next (h:FlA w0 w c7 pc pp ps T X N A) (n:xV w0 w w' pc pp ps T X N' A' T' X'):FlA w0 w' c7 pc pp ps T' X' N' A':=
 ⟨n.ws,λj a=>(n.xn j a).elim (h.2.1 j) (λe=>le_trans h.1.facts.2.2.1.size e),n.out h.2.2.1 (yF h.2.2.2),n.fr.obj h.2.2.2 h.2.2.1⟩
theorem FlA.cells (h:FlA w0 w c7 pc pp ps T X N A):w.cell? ⟨c7,0,none⟩=some (.pointer (some ⟨pc,0,none⟩))∧w.cell? ⟨c7,1,none⟩=some (.pointer (some ⟨pp,0,none⟩))∧w.cell? ⟨c7,2,none⟩=some (.pointer (some ⟨ps,0,none⟩)):=by
 have:=zq h.2.2.2
 exact⟨by simpa using this 0 _ rfl,by simpa using this 1 _ rfl,by simpa using this 2 _ rfl⟩
theorem FlA.fr (h:FlA w0 w c7 pc pp ps T X N A):Fr No w0 w:=h.1.facts.2.2.1
theorem FlA.kept (h:FlA w0 w c7 pc pp ps T X N A) {t:TxD} (a:TxQ w0 t cs):Kept X w (λw=>TxQ w t cs):=λ_ f=>
 a.keep (h.fr.trans f (λi hi e=>by have:=h.2.1 i e;omega))
end
def zaU (T:Nat→Prop) (w:World) (B:Nat) (ty:TypeId) (k:Nat) (v:Value) (n:Nat) (xs:List Value):Prop:=w.ownsRow B ty k v n xs∧∀j,v.ownBlock=some j→¬T j
theorem zaU.fr0 {T:Nat→Prop} {w w':World} {B k n:Nat} {ty:TypeId} {xs:List Value} (h:zaU T w B ty k v n xs) (f:Fr No w w'):zaU T w' B ty k v n xs:=⟨zb h.1 f (λ_ _=>id),h.2⟩
theorem zaU.next {w0 w w':World} {pc pp ps N':Nat} {T X T' X':Nat→Prop} {A':WA} {B k n:Nat} {ty:TypeId} {xs:List Value} (h:zaU T w B ty k v n xs) (m:xV w0 w w' pc pp ps T X N' A' T' X'):zaU T' w' B ty k v n xs:=
 ⟨zb h.1 m.fr h.2,λj a=>m.out (h.2 j a) (h.1.lt j a).2⟩
def xg (e:Int) (tv lv:Value):List Value:=[.int .i64 e,tv,lv]
theorem JU (w:World):(zeroValue 60).run prog w=.ok (.agg (xg 0 (.slice none 0 0) (.slice none 0 0)).toArray) w:=by kernel_rfl
theorem qi:(prog.info? 60).map (·.size)=some 3:=by kernel_rfl
section
variable {w0 w w' w3 w5 w6:World} {pc pp ps N:Nat} {T X T' X':Nat→Prop} {A A':WA} {c:Nat}
theorem xV.more (n:xV w0 w w' pc pp ps T X N A' T' X') (h:N≤N'):xV w0 w w' pc pp ps T X N' A' T' X':={n with ws:=n.ws.more h}
theorem WS.into (h:WS w0 w pc pp ps T X N A) (b:Fr No w w3) (f:w.heap.size≤c) (d:c<w3.heap.size):WS w0 w3 pc pp ps T (λj=>X j∨j=c) N A:=
 h.frV b (λ_ _=>id) (λ_ h=>h.elim) (λ_ h=>h.elim) (λj a e=>e.resolve_right (by omega)) (λj a=>.inl (h.facts.1 j a).2.2) (λj a=>a.elim (λe=>lt_of_lt_of_le (h.facts.2.1 j e) b.size) (λe=>by omega))
theorem Kept.into {Q:World→Prop} (k:Kept X w Q) (a:Fr No w w3) (b:w.heap.size≤c):Kept (λj=>X j∨j=c) w3 Q:=k.step a.of0 (λj d e=>e.resolve_right (by omega))
theorem xV.ans (n:xV w0 w3 w5 pc pp ps T (λj=>X j∨j=c) N A' T' X') {f:Nat} (h:WS w0 w pc pp ps T X f A) (b:Fr No w w3) (k:w.heap.size≤c) (g:c<w3.heap.size) (d:Fr (λj=>j=c) w5 w6):xV w0 w w6 pc pp ps T X N A' T' X':=by
 have i:=h.facts.2.2.1.size
 refine⟨n.ws.frV d (λj a e=>?_) (λj e=>by omega) (λj e=>n.xx j (.inr e)) (λ_ _ h=>h) (λj a=>(n.ws.facts.1 j a).2.2) (λj a=>lt_of_lt_of_le (n.ws.facts.2.1 j a) d.size),((b.of0:Fr T w w3).trans n.fr (λ_ _ h=>h)).trans d (λj a e=>by omega),λj a=>(n.tn j a).imp_right (λe=>le_trans b.size e),λj a=>(n.xn j a).elim (λe=>e.elim .inl (λe=>.inr (by omega))) (λe=>.inr (le_trans b.size e)),λj a=>n.xx j (.inl a)⟩
 subst e
 exact(n.tn j a).elim (λe=>by have:=(h.facts.1 j e).2.1;omega) (λe=>by omega)
end
theorem xX (w:World) (d b a:Obj):(((w.alloc d).alloc b).alloc a).heap[w.heap.size]? =some d∧(((w.alloc d).alloc b).alloc a).heap[w.heap.size+1]? =some b∧(((w.alloc d).alloc b).alloc a).heap[w.heap.size+1+1]? =some a∧Fr No w (((w.alloc d).alloc b).alloc a)∧w.heap.size+1+1<(((w.alloc d).alloc b).alloc a).heap.size:=by
 refine⟨JE (JE (yj w d) b) a,JE (yJ _ b (by simp)) a,yJ _ a (by simp),(((frN w).alloc d).alloc b).alloc a,by simp⟩
theorem qD {X:Nat→Prop} {w:World} {a:vT} (k:Kept X w (λw=>qR w a cs)):∃d bcs,cs=Yf a.kind a.src d a.id bcs∧ZB a.src∧zY a.id∧d.length=3∧bcs.length=3∧Kept X w (λw=>TxQ w a.tx d)∧Kept X w (λw=>jE w a.blk bcs):=by
 obtain⟨t,b,rfl,o,p,j,q⟩:=k.now
 have h:∀w',Fr X w w'→TxQ w' a.tx t∧jE w' a.blk b:=λw' f=>by
  obtain⟨s,r,e,-,-,g,i⟩:=k w' f
  simp only[Yf,List.cons.injEq,true_and] at e
  obtain⟨l,m⟩:=List.append_inj e (by rw[j.len3,g.len3])
  have n:=List.append_cancel_left m
  subst l
  subst n
  exact⟨g,i⟩
 exact⟨t,b,rfl,o,p,j.len3,q.len3,λw' f=>(h w' f).1,λw' f=>(h w' f).2⟩
theorem XG (e:Int) (w:World):(Instr.build 60 #[(0,.int .i64 e)]).run prog w=.ok (.agg (xg e (.slice none 0 0) (.slice none 0 0)).toArray) w:=by kernel_rfl
theorem zgO (e:Int) (a:Option Addr) (n c:Nat) (w:World):(Instr.build 60 #[(0,.int .i64 e),(1,.slice a n c)]).run prog w=.ok (.agg (xg e (.slice a n c) (.slice none 0 0)).toArray) w:=by kernel_rfl
theorem zkJ (a:Option Addr) (n c:Nat) (w:World):(Instr.build 60 #[(2,.slice a n c)]).run prog w=.ok (.agg (xg 0 (.slice none 0 0) (.slice a n c)).toArray) w:=by kernel_rfl
def zfJ (w:World) (v:Value) (l:List Nat):Prop:=xG w v l.length (l.map iV)
def YZ (X:Nat→Prop) (w:World) (tv lv:Value) (ts:List TxD) (is:List Nat):Prop:=Kept X w (λw=>Jz w tv ts)∧Kept X w (λw=>zfJ w lv is)
theorem zhk (w:World):Jz w (.slice none 0 0) []:=⟨none,0,rfl,zero_le _,λi d h=>by simp at h⟩
theorem zjI (w:World):zfJ w (.slice none 0 0) []:=(World.ownsRow_nil w 0 3 1).slice.arg
theorem JR {X:Nat→Prop} {w:World}:YZ X w (.slice none 0 0) (.slice none 0 0) [] []:=⟨λw' _=>zhk w',λw' _=>zjI w'⟩
theorem zlM {X:Nat→Prop} {w:World} {l:List StE} {k:StE→List Value} (n:w.ownsRow B 34 3 v l.length (l.flatMap k)) (p:∀j,X j→j<B) (m:∀e∈l,Kept X w (λw=>TxQ w e.tx (k e))) (r:l.length≤maxLen):Kept X w (λw=>Jz w v (l.map (·.tx))):=λw' f=>by
 have b:=zb n f (λj q e=>by have:=(n.lt j q).1;have:=p j e;omega)
 obtain⟨a,c,rfl⟩:=b.slice.arg.form
 refine⟨a,c,by rw[length_map],by rw[length_map];exact r,λi d hi=>?_⟩
 rw[List.getElem?_map] at hi
 obtain⟨e,h,rfl⟩:=Option.map_eq_some_iff.1 hi
 obtain⟨g,o,t,s,-⟩:=JF (f:=k) (by decide) (λe h=>(m e h).now.len3) b h
 cases t
 exact⟨g,0,k e,rfl,by rw[zero_add];exact s,m e (mem_of_getElem? h) w' f⟩
theorem zjJ {X:Nat→Prop} {w:World} {l:List Nat} (a:w.ownsRow B 3 1 v l.length (l.map iV)) (b:∀j,X j→j<B):Kept X w (λw=>zfJ w v l):=λw' f=>
 (zb a f (λj d e=>by have:=(a.lt j d).1;have:=b j e;omega)).slice.arg
section
variable {w0 w:World} {pc pp ps N:Nat} {T X:Nat→Prop} {A:WA}
theorem zn2 (F:q9 w0) (h:WS w0 w pc pp ps T X N A) {a:vT} (E:Kept X w (λw=>qR w a cs)) (G:a.kind=0):
  Calls prog 20 #[.agg (jh pc pp ps).toArray,.agg cs.toArray] w λe w'=>e=.returned (.agg (xg (vz A a.src a.tx) (.slice none 0 0) (.slice none 0 0)).toArray)∧∃T' X',xV w0 w w' pc pp ps T X N (qE A a.src a.tx) T' X'∧YZ X' w' (.slice none 0 0) (.slice none 0 0) [] []:=by
 obtain⟨l,C,D,m,s⟩:=xX w (.cells (jh pc pp ps).toArray 29) (.cells cs.toArray 57) (.cells (xg 0 (.slice none 0 0) (.slice none 0 0)).toArray 60)
 obtain⟨aa,bcs,g,j,i,f,p,kt,kb⟩:=qD E
 have d:=J (h.into (c:=w.heap.size+1+1) m (by omega) s)
 have y:=J (kt.into (c:=w.heap.size+1+1) m (by omega))
 have k:=J (jG (q:=w.heap.size+1) (by rw[←g];exact zq C) f i)
 have S:=J k.o.2.2.1
 have Y:=k.o.1
 have cS:=k.o.2.1
 have p0:=by simpa using zq l 0 _ rfl
 have p1:=by simpa using zq l 1 _ rfl
 have p2:=by simpa using zq l 2 _ rfl
 have u:=J D
 have I:=J m
 have B:=J s
 have n:=@J (w.heap.size≤w.heap.size+1+1) (by omega)
 have V:=J f
 have z:=J h
 have K:=J (F.keep0 d.o.facts.2.2.1)
 have zA:=JU
 clear h F E g j i f p kt kb l C D m s k
 rw[G] at Y
 clear G
 go_enter Tryz.func20,Tryz.ntmps20
 have⟨L,M,O,Q⟩:=tZ4
 go_wp2_with ((first|((with_reducible refine zt ?_);first|(clear L;refine zoa rfl rfl rfl S.o V.o ?_;generalize w.heap.size+1+1=o at d y u B n⊢;generalize (((w.alloc (.cells (jh pc pp ps).toArray 29)).alloc (.cells cs.toArray 57)).alloc (.cells (xg 0 (.slice none 0 0) (.slice none 0 0)).toArray 60))=w3 at*)|(clear O;refine zg rfl (yk (t:=60) rfl rfl (XG _)) ?_))|(clear M;go_at_call 12;refine(YM K.o d.o a.src y.o).mono ?_;rintro e w5 ⟨rfl,U,W,r⟩;have R:=J r;have x:=J (r.fr.obj u.o (λe=>by have:=(z.o.facts.1 _ e).2.1;have:=n.o;omega));clear r)|((with_reducible refine zv ?_);clear Q;refine zi rfl (zK (ty:=60) (b:=o) (off:=0) (cs:=xg (vz A a.src a.tx) (.slice none 0 0) (.slice none 0 0)) rfl rfl rfl (zX x.o (le_refl 3)) qi (qM rfl rfl rfl)) ?_));go_frame)
 have H:=Yj (cs:=xg (vz A a.src a.tx) (.slice none 0 0) (.slice none 0 0)) x.o rfl
 have Z:=zu o (xg (vz A a.src a.tx) (.slice none 0 0) (.slice none 0 0)) 0 w5
 refine bodyPost_ret (v:=.agg (xg (vz A a.src a.tx) (.slice none 0 0) (.slice none 0 0)).toArray) (results_cell_row (P:=prog) (fn:=Tryz.f20) rfl _ _ o 60 _ (0,0) _ rfl H Tryz.underlying60 rfl qi) rfl ⟨rfl,U,W,R.o.ans z.o I.o n.o B.o Z,JR⟩
theorem znB (hg:q9 w0) (h:WS w0 w pc pp ps T X N A) {a:vT} (R:Kept X w (λw=>qR w a cs)) (S:a.kind=1) (U:a.src=(n:Int)) (hn:n<65) (k:a.id∈yM (A.Q n)):
  Calls prog 20 #[.agg (jh pc pp ps).toArray,.agg cs.toArray] w λe w'=>∃tv,e=.returned (.agg (xg 0 tv (.slice none 0 0)).toArray)∧∃T' X',xV w0 w w' pc pp ps T X N {A with Q:=jg A.Q n (Qr (A.Q n) a.id)} T' X'∧YZ X' w' tv (.slice none 0 0) ((jP (A.Q n) a.id).map (·.tx)) []:=by
 obtain⟨r,L,M,z,F⟩:=xX w (.cells (jh pc pp ps).toArray 29) (.cells cs.toArray 57) (.cells (xg 0 (.slice none 0 0) (.slice none 0 0)).toArray 60)
 obtain⟨aa,bcs,i,m,g,o,B,kt,kb⟩:=qD R
 have d:=J (h.into (c:=w.heap.size+1+1) z (by omega) F)
 have p:=J (jG (q:=w.heap.size+1) (by rw[←i];exact zq L) o g)
 have RH:=J p.o.2.2.2.1
 have cK:=p.o.1
 have cS:=p.o.2.1
 have p0:=by simpa using zq r 0 _ rfl
 have p1:=by simpa using zq r 1 _ rfl
 have p2:=by simpa using zq r 2 _ rfl
 have G:=J M
 have W:=J z
 have K:=J F
 have x:=@J (w.heap.size≤w.heap.size+1+1) (by omega)
 have Z:=J (zx g)
 have I:=J h
 have zA:=JU
 clear h hg R i m g o B kt kb r L M z F p
 rw[S] at cK
 clear S
 rw[U] at cS
 have u:=J k
 clear U k
 go_enter Tryz.func20,Tryz.ntmps20
 have⟨K0,K1,K2,K3⟩:=tZ4
 go_wp2_with ((first|((with_reducible refine zt ?_);first|(clear K0;refine zoc rfl rfl rfl RH.o Z.o ?_;generalize w.heap.size+1+1=y at d G K x⊢;generalize (((w.alloc (.cells (jh pc pp ps).toArray 29)).alloc (.cells cs.toArray 57)).alloc (.cells (xg 0 (.slice none 0 0) (.slice none 0 0)).toArray 60))=w3 at*)|(clear K2;refine zg rfl (yk (t:=60) rfl rfl (zgO _ _ _ _)) ?_))|(clear K1;go_at_call 14;refine(zkr d.o hn u.o).mono ?_;rintro e w5 ⟨tv,tc,rfl,C,l,T5,t5,E⟩;have N5:=J E;have H:=J (E.fr.obj G.o (λe=>by have:=(I.o.facts.1 _ e).2.1;have:=x.o;omega));have HR:=J C;have Y:=J l;obtain⟨s,f,D⟩:=C.slice.arg.form;subst D;clear E C l)|((with_reducible refine zv ?_);clear K3;refine zi rfl (zK (ty:=60) (b:=y) (off:=0) (cs:=xg (0) (.slice s (jP (A.Q n) a.id).length f) (.slice none 0 0)) rfl rfl rfl (zX H.o (le_refl 3)) qi (qM rfl rfl rfl)) ?_));go_frame)
 have V:=Yj (cs:=xg (0) (.slice s (jP (A.Q n) a.id).length f) (.slice none 0 0)) H.o rfl
 have O:=zu y (xg (0) (.slice s (jP (A.Q n) a.id).length f) (.slice none 0 0)) 0 w5
 refine bodyPost_ret (v:=.agg (xg (0) (.slice s (jP (A.Q n) a.id).length f) (.slice none 0 0)).toArray) (results_cell_row (P:=prog) (fn:=Tryz.f20) rfl _ _ y 60 _ (0,0) _ rfl V Tryz.underlying60 rfl qi) rfl ⟨_,rfl,T5,_,N5.o.ans I.o W.o x.o K.o O,⟨(zlM HR.o (λj hj=>(d.o.facts.2.1 j hj)) Y.o (le_trans (List.length_filter_le _ _) (le_trans (d.o.facts.2.2.2.2.2.2 n).len (by decide)))).step (O.mono (λj e=>.inr e)) (λ_ _ h=>h),JR.2⟩⟩
theorem znA (Z:q9 w0) (h:WS w0 w pc pp ps T X N A) {a:vT} (G:Kept X w (λw=>qR w a cs)) (H:a.kind=1) (j:vq A.Q a.src a.id=false):
  Calls prog 20 #[.agg (jh pc pp ps).toArray,.agg cs.toArray] w λe w'=>e=.returned (.agg (xg 9 (.slice none 0 0) (.slice none 0 0)).toArray)∧∃T' X',xV w0 w w' pc pp ps T X N A T' X'∧YZ X' w' (.slice none 0 0) (.slice none 0 0) [] []:=by
 obtain⟨m,E,F,s,y⟩:=xX w (.cells (jh pc pp ps).toArray 29) (.cells cs.toArray 57) (.cells (xg 0 (.slice none 0 0) (.slice none 0 0)).toArray 60)
 obtain⟨aa,bcs,i,f,d,k,x,kt,kb⟩:=qD G
 have g:=J (h.into (c:=w.heap.size+1+1) s (by omega) y)
 have l:=J (jG (q:=w.heap.size+1) (by rw[←i];exact zq E) k d)
 have U:=J l.o.2.2.2.1
 have W:=l.o.1
 have cS:=l.o.2.1
 have p0:=by simpa using zq m 0 _ rfl
 have p1:=by simpa using zq m 1 _ rfl
 have p2:=by simpa using zq m 2 _ rfl
 have z:=J F
 have K:=J s
 have D:=J y
 have C:=@J (w.heap.size≤w.heap.size+1+1) (by omega)
 have L:=J (zx d)
 have o:=J d
 have p:=J f
 have V:=J h
 have zA:=JU
 clear h Z G i f d k x kt kb m E F s y l
 rw[H] at W
 clear H
 have n:=J j
 clear j
 go_enter Tryz.func20,Tryz.ntmps20
 have⟨M,O,Q,R⟩:=tZ4
 go_wp2_with ((first|((with_reducible refine zt ?_);first|(clear M;refine zoc rfl rfl rfl U.o L.o ?_;generalize w.heap.size+1+1=r at g z D C⊢;generalize (((w.alloc (.cells (jh pc pp ps).toArray 29)).alloc (.cells cs.toArray 57)).alloc (.cells (xg 0 (.slice none 0 0) (.slice none 0 0)).toArray 60))=w3 at*)|(clear Q;refine zg rfl (yk (t:=60) rfl rfl (zgO _ _ _ _)) ?_))|(clear O;go_at_call 14;refine(zkp g.o p.o o.o n.o).mono ?_;rintro e w5 ⟨rfl,u⟩;have S:=J (g.o.idle u);have B:=J (u.obj z.o id);clear u)|((with_reducible refine zv ?_);clear R;refine zi rfl (zK (ty:=60) (b:=r) (off:=0) (cs:=xg (9) (.slice none 0 0) (.slice none 0 0)) rfl rfl rfl (zX B.o (le_refl 3)) qi (qM rfl rfl rfl)) ?_));go_frame)
 have I:=Yj (cs:=xg (9) (.slice none 0 0) (.slice none 0 0)) B.o rfl
 have Y:=zu r (xg (9) (.slice none 0 0) (.slice none 0 0)) 0 w5
 refine bodyPost_ret (v:=.agg (xg (9) (.slice none 0 0) (.slice none 0 0)).toArray) (results_cell_row (P:=prog) (fn:=Tryz.f20) rfl _ _ r 60 _ (0,0) _ rfl I Tryz.underlying60 rfl qi) rfl ⟨rfl,_,_,S.o.ans V.o K.o C.o D.o Y,JR⟩
theorem zn3 (hg:q9 w0) (h:WS w0 w pc pp ps T X N A) {a:vT} (M:Kept X w (λw=>qR w a cs)) (O:a.kind=2):
  Calls prog 20 #[.agg (jh pc pp ps).toArray,.agg cs.toArray] w λe w'=>∃B,e=.returned (.agg (xg 0 (.slice none 0 0) B).toArray)∧∃T' X',xV w0 w w' pc pp ps T X N {A with Q:=JP A.Q a.id 65} T' X'∧YZ X' w' (.slice none 0 0) B [] (jo A.Q a.id 65):=by
 obtain⟨n,I,K,u,D⟩:=xX w (.cells (jh pc pp ps).toArray 29) (.cells cs.toArray 57) (.cells (xg 0 (.slice none 0 0) (.slice none 0 0)).toArray 60)
 obtain⟨aa,bcs,i,k,d,l,x,kt,kb⟩:=qD M
 have g:=J (h.into (c:=w.heap.size+1+1) u (by omega) D)
 have m:=J (jG (q:=w.heap.size+1) (by rw[←i];exact zq I) l d)
 have RH:=J m.o.2.2.2.1
 have cK:=m.o.1
 have cS:=m.o.2.1
 have p0:=by simpa using zq n 0 _ rfl
 have p1:=by simpa using zq n 1 _ rfl
 have p2:=by simpa using zq n 2 _ rfl
 have E:=J K
 have S:=J u
 have H:=J D
 have r:=@J (w.heap.size≤w.heap.size+1+1) (by omega)
 have U:=J (zx d)
 have p:=J d
 have G:=J h
 have zA:=JU
 clear h hg M i k d l x kt kb n I K u D m
 rw[O] at cK
 clear O
 go_enter Tryz.func20,Tryz.ntmps20
 have⟨W,Y,Z,K3⟩:=tZ4
 go_wp2_with ((first|((with_reducible refine zt ?_);first|(clear W;refine zoc rfl rfl rfl RH.o U.o ?_;generalize w.heap.size+1+1=s at g E H r⊢;generalize (((w.alloc (.cells (jh pc pp ps).toArray 29)).alloc (.cells cs.toArray 57)).alloc (.cells (xg 0 (.slice none 0 0) (.slice none 0 0)).toArray 60))=w3 at*)|(clear Z;refine zg rfl (yk (t:=60) rfl rfl (zkJ _ _ _ _)) ?_))|(clear Y;go_at_call 23;refine(zm5 g.o p.o).mono ?_;rintro e w5 ⟨B,rfl,y,T5,C⟩;have N5:=J C;have F:=J (C.fr.obj E.o (λe=>by have:=(G.o.facts.1 _ e).2.1;have:=r.o;omega));have V:=J y;obtain⟨o,f,z⟩:=y.slice.arg.form;subst z;clear C y)|((with_reducible refine zv ?_);clear K3;refine zi rfl (zK (ty:=60) (b:=s) (off:=0) (cs:=xg (0) (.slice none 0 0) (.slice o (jo A.Q a.id 65).length f)) rfl rfl rfl (zX F.o (le_refl 3)) qi (qM rfl rfl rfl)) ?_));go_frame)
 have R:=Yj (cs:=xg (0) (.slice none 0 0) (.slice o (jo A.Q a.id 65).length f)) F.o rfl
 have L:=zu s (xg (0) (.slice none 0 0) (.slice o (jo A.Q a.id 65).length f)) 0 w5
 refine bodyPost_ret (v:=.agg (xg (0) (.slice none 0 0) (.slice o (jo A.Q a.id 65).length f)).toArray) (results_cell_row (P:=prog) (fn:=Tryz.f20) rfl _ _ s 60 _ (0,0) _ rfl R Tryz.underlying60 rfl qi) rfl ⟨_,rfl,T5,_,N5.o.ans G.o S.o r.o H.o L,⟨JR.1,(zjJ V.o (λj hj=>(g.o.facts.2.1 j hj))).step (L.mono (λj e=>.inr e)) (λ_ _ h=>h)⟩⟩
theorem zn4 (F:q9 w0) (h:WS w0 w pc pp ps T X N A) (hN:N≤800) {a:vT} (E:Kept X w (λw=>qR w a cs)) (G:a.kind=3):
  Calls prog 20 #[.agg (jh pc pp ps).toArray,.agg cs.toArray] w λe w'=>e=.returned (.agg (xg (Zh A.S (ye A.bs) A.L a.tx) (.slice none 0 0) (.slice none 0 0)).toArray)∧∃T' X',xV w0 w w' pc pp ps T X (N+1) {A with L:=Zi A.S (ye A.bs) A.L a.tx 0} T' X'∧YZ X' w' (.slice none 0 0) (.slice none 0 0) [] []:=by
 obtain⟨l,C,D,m,s⟩:=xX w (.cells (jh pc pp ps).toArray 29) (.cells cs.toArray 57) (.cells (xg 0 (.slice none 0 0) (.slice none 0 0)).toArray 60)
 obtain⟨aa,bcs,g,j,i,f,p,kt,kb⟩:=qD E
 have d:=J (h.into (c:=w.heap.size+1+1) m (by omega) s)
 have y:=J (kt.into (c:=w.heap.size+1+1) m (by omega))
 have k:=J (jG (q:=w.heap.size+1) (by rw[←g];exact zq C) f i)
 have U:=J k.o.2.2.1
 have Z:=k.o.1
 have cS:=k.o.2.1
 have p0:=by simpa using zq l 0 _ rfl
 have p1:=by simpa using zq l 1 _ rfl
 have p2:=by simpa using zq l 2 _ rfl
 have u:=J D
 have I:=J m
 have B:=J s
 have n:=@J (w.heap.size≤w.heap.size+1+1) (by omega)
 have W:=J f
 have z:=J h
 have K:=J (F.keep0 d.o.facts.2.2.1)
 have zA:=JU
 clear h F E g j i f p kt kb l C D m s k
 rw[G] at Z
 clear G
 go_enter Tryz.func20,Tryz.ntmps20
 have⟨M,O,Q,R⟩:=tZ4
 go_wp2_with ((first|((with_reducible refine zt ?_);first|(clear M;refine zoa rfl rfl rfl U.o W.o ?_;generalize w.heap.size+1+1=o at d y u B n⊢;generalize (((w.alloc (.cells (jh pc pp ps).toArray 29)).alloc (.cells cs.toArray 57)).alloc (.cells (xg 0 (.slice none 0 0) (.slice none 0 0)).toArray 60))=w3 at*)|(clear Q;refine zg rfl (yk (t:=60) rfl rfl (XG _)) ?_))|(clear O;go_at_call 16;refine(ziT K.o d.o hN y.o).mono ?_;rintro e w5 ⟨gv,rfl,-,V,Y,r⟩;have S:=J r;have x:=J (r.fr.obj u.o (λe=>by have:=(z.o.facts.1 _ e).2.1;have:=n.o;omega));clear r)|((with_reducible refine zv ?_);clear R;refine zi rfl (zK (ty:=60) (b:=o) (off:=0) (cs:=xg (Zh A.S (ye A.bs) A.L a.tx) (.slice none 0 0) (.slice none 0 0)) rfl rfl rfl (zX x.o (le_refl 3)) qi (qM rfl rfl rfl)) ?_));go_frame)
 have H:=Yj (cs:=xg (Zh A.S (ye A.bs) A.L a.tx) (.slice none 0 0) (.slice none 0 0)) x.o rfl
 have fE:=zu o (xg (Zh A.S (ye A.bs) A.L a.tx) (.slice none 0 0) (.slice none 0 0)) 0 w5
 refine bodyPost_ret (v:=.agg (xg (Zh A.S (ye A.bs) A.L a.tx) (.slice none 0 0) (.slice none 0 0)).toArray) (results_cell_row (P:=prog) (fn:=Tryz.f20) rfl _ _ o 60 _ (0,0) _ rfl H Tryz.underlying60 rfl qi) rfl ⟨rfl,V,Y,S.o.ans z.o I.o n.o B.o fE,JR⟩
end
section
variable {w0 wb w w':World} {pc pp ps N:Nat} {T X X1:Nat→Prop} {A:WA} {S1:List zr} {bs1:List yB}
theorem WM.frm (h:WM w0 wb w pc pp ps T X N A S1 bs1 X1):Fr T wb w:=by
 obtain⟨b,css,ma,ms,g,c,a,d,e,R,CS,h⟩:=h
 exact h.fr
theorem WM.fr0 (h:WM w0 wb w pc pp ps T X N A S1 bs1 X1) (f:Fr No w w'):WM w0 wb w' pc pp ps T X N A S1 bs1 X1:=by
 obtain⟨b,css,ma,ms,g,c,a,e,i,R,CS,h⟩:=h
 exact⟨b,css,ma,ms,g,c,a,e,i,R,CS,
  {h with
   ch:=h.ch.frV f (λ_ _=>id) (λ_ h=>h.elim) (λ_ h=>h.elim) (λ_ _ h=>h)
   po:=h.po.frV f (λ_ _=>id) (λ_ h=>h.elim) (λ_ h=>h.elim) (λ_ _ h=>h) h.po.sub
   st:=h.st.frV f (λ_ _=>id) (λ_ h=>h.elim) (λ_ h=>h.elim) (λ_ _ h=>h) h.st.sub
   xl:=λj d=>lt_of_lt_of_le (h.xl j d) f.size
   fr:=h.fr.trans (f.of0:Fr T w w') (λ_ _ h=>h)}⟩
theorem zkO {b:qs} {t:Int} {a:Option Addr} (h:jE w b [.int .u64 t,v,.slice a b.txs.length c]):Jz w (.slice a b.txs.length c) b.txs:=by
 obtain⟨g,i,j,k,e,_,_,f⟩:=h
 simp only[zhv,List.cons.injEq,and_true] at e
 obtain⟨-,-,d⟩:=e
 injection d with e21 _ e23
 subst e21;subst e23
 exact f
end
section
variable {w0 w:World} {pc pp ps N:Nat} {T X:Nat→Prop} {A:WA}
theorem znC (I:q9 w0) (h:WS w0 w pc pp ps T X N A) (hB:A.bs.length≤200) {a:vT} (H:Kept X w (λw=>qR w a cs)) (K:a.kind=4) (s:¬ji (ye A.bs) A.S A.bs a.blk=0):
  Calls prog 20 #[.agg (jh pc pp ps).toArray,.agg cs.toArray] w λe w'=>e=.returned (.agg (xg (ji (ye A.bs) A.S A.bs a.blk) (.slice none 0 0) (.slice none 0 0)).toArray)∧∃T' X',xV w0 w w' pc pp ps T X N A T' X'∧YZ X' w' (.slice none 0 0) (.slice none 0 0) [] []:=by
 obtain⟨m,F,G,n,x⟩:=xX w (.cells (jh pc pp ps).toArray 29) (.cells cs.toArray 57) (.cells (xg 0 (.slice none 0 0) (.slice none 0 0)).toArray 60)
 obtain⟨ab,bcs,g,j,i,k,f,kt,M⟩:=qD H
 have d:=J (h.into (c:=w.heap.size+1+1) n (by omega) x)
 have B:=J (M.into (c:=w.heap.size+1+1) n (by omega))
 have l:=J (jG (q:=w.heap.size+1) (by rw[←g];exact zq F) k i)
 have RB:=J l.o.2.2.2.2
 have cK:=l.o.1
 have cS:=l.o.2.1
 have p0:=by simpa using zq m 0 _ rfl
 have p1:=by simpa using zq m 1 _ rfl
 have p2:=by simpa using zq m 2 _ rfl
 have y:=J G
 have R:=J n
 have D:=J x
 have p:=@J (w.heap.size≤w.heap.size+1+1) (by omega)
 have Q:=J f
 have C:=J h
 have S:=J I
 have zA:=JU
 clear h I H g j i k f kt M m F G n x l
 rw[K] at cK
 clear K
 have o:=J (zjh S.o d.o hB B.o.now)
 rw[show Xi (ye A.bs) A.S A.bs a.blk=A.S from if_neg s,show Ym (ye A.bs) A.S A.bs a.blk=A.bs from if_neg s] at o
 generalize ji (ye A.bs) A.S A.bs a.blk=E at*
 have aa:(E==0)=false:=by simpa using s
 go_enter Tryz.func20,Tryz.ntmps20
 have⟨U,V,W,Y⟩:=tZ4
 go_wp2_with ((first|((with_reducible refine zt ?_);first|(clear U;refine zoe rfl rfl rfl RB.o Q.o ?_;generalize w.heap.size+1+1=r at d B y D p o⊢;generalize (((w.alloc (.cells (jh pc pp ps).toArray 29)).alloc (.cells cs.toArray 57)).alloc (.cells (xg 0 (.slice none 0 0) (.slice none 0 0)).toArray 60))=w3 at*)|(clear W;refine zg rfl (yk (t:=60) rfl rfl (XG _)) ?_))|(clear V;go_at_call 51;refine o.o.mono ?_;rintro e w5 ⟨rfl,X1,L⟩;obtain⟨T5,X5,u⟩:=L.still d.o.facts.2.2.2.1;have Z:=J u;have z:=J (u.fr.obj y.o (λe=>by have:=(C.o.facts.1 _ e).2.1;have:=p.o;omega));clear u L)|((with_reducible refine zv ?_);clear Y;refine zi rfl (zK (ty:=60) (b:=r) (off:=0) (cs:=xg (E) (.slice none 0 0) (.slice none 0 0)) rfl rfl rfl (zX z.o (le_refl 3)) qi (qM rfl rfl rfl)) ?_));go_frame)
 have O:=Yj (cs:=xg (E) (.slice none 0 0) (.slice none 0 0)) z.o rfl
 have fE:=zu r (xg (E) (.slice none 0 0) (.slice none 0 0)) 0 w5
 refine bodyPost_ret (v:=.agg (xg (E) (.slice none 0 0) (.slice none 0 0)).toArray) (results_cell_row (P:=prog) (fn:=Tryz.f20) rfl _ _ r 60 _ (0,0) _ rfl O Tryz.underlying60 rfl qi) rfl ⟨rfl,T5,X5,Z.o.ans C.o R.o p.o D.o fE,JR⟩
theorem znD (Q:q9 w0) (h:WS w0 w pc pp ps T X N A) (hB:A.bs.length≤200) (hN:N≤1000) (f:52≤N) {a:vT} (O:Kept X w (λw=>qR w a cs)) (R:a.kind=4) (s:ji (ye A.bs) A.S A.bs a.blk=0):
  Calls prog 20 #[.agg (jh pc pp ps).toArray,.agg cs.toArray] w λe w'=>e=.returned (.agg (xg 0 (.slice none 0 0) (.slice none 0 0)).toArray)∧∃T' X',xV w0 w w' pc pp ps T X N {A with S:=(doR (ye A.bs) A.S a.blk).S,bs:=A.bs++[(doR (ye A.bs) A.S a.blk).d],L:=Ql (doR (ye A.bs) A.S a.blk).S (ye (A.bs++[(doR (ye A.bs) A.S a.blk).d])) A.L [] 0} T' X'∧YZ X' w' (.slice none 0 0) (.slice none 0 0) [] []:=by
 obtain⟨p,K,M,r,D⟩:=xX w (.cells (jh pc pp ps).toArray 29) (.cells cs.toArray 57) (.cells (xg 0 (.slice none 0 0) (.slice none 0 0)).toArray 60)
 obtain⟨aa,bcs,i,l,j,m,g,kt,U⟩:=qD O
 have d:=J (h.into (c:=w.heap.size+1+1) r (by omega) D)
 have H:=J (U.into (c:=w.heap.size+1+1) r (by omega))
 have n:=J (jG (q:=w.heap.size+1) (by rw[←i];exact zq K) m j)
 have RB:=J n.o.2.2.2.2
 have cK:=n.o.1
 have cS:=n.o.2.1
 have V:=by simpa using zq p 0 _ rfl
 have W:=by simpa using zq p 1 _ rfl
 have p2:=by simpa using zq p 2 _ rfl
 have E:=J M
 have F3:=J r
 have I:=J D
 have z:=@J (w.heap.size≤w.heap.size+1+1) (by omega)
 have Z:=J g
 have o:=J h
 have G:=J Q
 have zA:=JU
 clear h Q O i l j m g kt U p K M r D n
 rw[R] at cK
 clear R
 have x:=J (zjh G.o d.o hB H.o.now)
 rw[show Xi (ye A.bs) A.S A.bs a.blk=(doR (ye A.bs) A.S a.blk).S from if_pos s,show Ym (ye A.bs) A.S A.bs a.blk=A.bs++[(doR (ye A.bs) A.S a.blk).d] from if_pos s,s] at x
 have y:=J f
 clear s f
 go_enter Tryz.func20,Tryz.ntmps20
 have⟨K0,K1,K2,K3,K4⟩:=tZ5
 go_wp2_with ((first|((with_reducible refine zt ?_);first|(clear K0;refine zoe rfl rfl rfl RB.o Z.o ?_;generalize w.heap.size+1+1=B at d H E I z x⊢;generalize (((w.alloc (.cells (jh pc pp ps).toArray 29)).alloc (.cells cs.toArray 57)).alloc (.cells (xg 0 (.slice none 0 0) (.slice none 0 0)).toArray 60))=w3 at*)|(clear K3;refine zg rfl (yk (t:=60) rfl rfl (XG _)) ?_))|(clear K1;go_at_call 51;refine x.o.mono ?_;rintro e w5 ⟨rfl,X1,u⟩;have HM:=J u;have r0:=u.frm.cell V (λe=>absurd (o.o.facts.1 _ e).2.1 (Nat.lt_irrefl _));have r1:=u.frm.cell W (λe=>absurd (o.o.facts.1 _ e).2.1 (Nat.lt_irrefl _));clear u V W p2)|(clear K2;go_at_call 52;refine(zhc G.o HM.o hN (λw' _=>zhk w') (by decide)).mono ?_;rintro e w6 ⟨⟨gv,rfl⟩,N6,T5,X5,k,C⟩;have N5:=J (C.more (N':=N) (by have:=d.o.facts.2.2.2.2.1;have:=y.o;simp only[List.length_nil] at k;omega));have F:=J (C.fr.obj E.o (λe=>by have:=(o.o.facts.1 _ e).2.1;have:=z.o;omega));clear C k r0 r1)|((with_reducible refine zv ?_);clear K4;refine zi rfl (zK (ty:=60) (b:=B) (off:=0) (cs:=xg (0) (.slice none 0 0) (.slice none 0 0)) rfl rfl rfl (zX F.o (le_refl 3)) qi (qM rfl rfl rfl)) ?_));go_frame)
 have Y:=Yj (cs:=xg (0) (.slice none 0 0) (.slice none 0 0)) F.o rfl
 have fE:=zu B (xg (0) (.slice none 0 0) (.slice none 0 0)) 0 w6
 refine bodyPost_ret (v:=.agg (xg (0) (.slice none 0 0) (.slice none 0 0)).toArray) (results_cell_row (P:=prog) (fn:=Tryz.f20) rfl _ _ B 60 _ (0,0) _ rfl Y Tryz.underlying60 rfl qi) rfl ⟨rfl,T5,X5,N5.o.ans o.o F3.o z.o I.o fE,JR⟩
theorem znE (Z:q9 w0) (h:WS w0 w pc pp ps T X N A) {a:vT} (G:Kept X w (λw=>qR w a cs)) (H:a.kind=5) (f:A.bs=[]):
  Calls prog 20 #[.agg (jh pc pp ps).toArray,.agg cs.toArray] w λe w'=>e=.returned (.agg (xg 9 (.slice none 0 0) (.slice none 0 0)).toArray)∧∃U X',xV w0 w w' pc pp ps T X N A U X'∧YZ X' w' (.slice none 0 0) (.slice none 0 0) [] []:=by
 obtain⟨l,D,E,o,s⟩:=xX w (.cells (jh pc pp ps).toArray 29) (.cells cs.toArray 57) (.cells (xg 0 (.slice none 0 0) (.slice none 0 0)).toArray 60)
 obtain⟨ab,bcs,g,j,i,k,p,kt,kb⟩:=qD G
 have d:=J (h.into (c:=w.heap.size+1+1) o (by omega) s)
 have m:=J (jG (q:=w.heap.size+1) (by rw[←g];exact zq D) k i)
 have W:=m.o.1
 have cS:=m.o.2.1
 have p0:=by simpa using zq l 0 _ rfl
 have p1:=by simpa using zq l 1 _ rfl
 have p2:=by simpa using zq l 2 _ rfl
 have u:=J E
 have K:=J o
 have C:=J s
 have B:=@J (w.heap.size≤w.heap.size+1+1) (by omega)
 have V:=J h
 have zA:=JU
 clear h Z G g j i k p kt kb l D E o s m
 rw[H] at W
 clear H
 have zB:=YY
 have y:=J (zjn d.o f)
 clear f
 go_enter Tryz.func20,Tryz.ntmps20
 have⟨M,O,Q,R⟩:=tZ4
 go_wp2_with ((first|(clear M;go_at_call 53;generalize w.heap.size+1+1=n at d u C B y⊢;generalize (((w.alloc (.cells (jh pc pp ps).toArray 29)).alloc (.cells cs.toArray 57)).alloc (.cells (xg 0 (.slice none 0 0) (.slice none 0 0)).toArray 60))=w3 at*;refine y.o.mono ?_;rintro e r ⟨rfl,F⟩;have L:=J F;clear F)|((with_reducible refine zv ?_);first|(clear O;refine zi rfl (zj (w:=r) (ty:=55) (cs:=Jw) rfl rfl rfl rfl JS (qM rfl rfl rfl)) ?_;have z:=J (L.o.alloc (.cells Jw.toArray 55));generalize r.heap.size=aa at⊢;generalize r.alloc (.cells Jw.toArray 55)=w6 at*;have S:=J (d.o.idle z.o);have x:=J (z.o.obj u.o id))|(clear R;refine zi rfl (zK (ty:=60) (b:=n) (off:=0) (cs:=xg (9) (.slice none 0 0) (.slice none 0 0)) rfl rfl rfl (zX x.o (le_refl 3)) qi (qM rfl rfl rfl)) ?_))|((with_reducible refine zt ?_);clear Q;refine zg rfl (yk (t:=60) rfl rfl (XG _)) ?_));go_frame)
 have I:=Yj (cs:=xg (9) (.slice none 0 0) (.slice none 0 0)) x.o rfl
 have Y:=zu n (xg (9) (.slice none 0 0) (.slice none 0 0)) 0 w6
 refine bodyPost_ret (v:=.agg (xg (9) (.slice none 0 0) (.slice none 0 0)).toArray) (results_cell_row (P:=prog) (fn:=Tryz.f20) rfl _ _ n 60 _ (0,0) _ rfl I Tryz.underlying60 rfl qi) rfl ⟨rfl,_,_,S.o.ans V.o K.o B.o C.o Y,JR⟩
theorem znF (hg:q9 w0) (h:WS w0 w pc pp ps T X N A) {bs:List yB} {d:yB} (n:A.bs=bs++[d]) (hB:bs.length≤200) (hT:d.blk.txs.length≤20) (hN:N≤1000) (m:52≤N) {a:vT} (ha:Kept X w (λw=>qR w a cs)) (hk:a.kind=5):
  Calls prog 20 #[.agg (jh pc pp ps).toArray,.agg cs.toArray] w λe w'=>e=.returned (.agg (xg 0 (.slice none 0 0) (.slice none 0 0)).toArray)∧∃T' X',xV w0 w w' pc pp ps T X N {A with S:=xS d.chg A.S,bs:=bs,L:=Ql (xS d.chg A.S) (ye bs) A.L d.blk.txs 0} T' X'∧YZ X' w' (.slice none 0 0) (.slice none 0 0) [] []:=by
 obtain⟨z,b1,b2,M,V⟩:=xX w (.cells (jh pc pp ps).toArray 29) (.cells cs.toArray 57) (.cells (xg 0 (.slice none 0 0) (.slice none 0 0)).toArray 60)
 obtain⟨ab,bcs,o,r,p,s,O,kt,kb⟩:=qD ha
 have i:=J (h.into (c:=w.heap.size+1+1) M (by omega) V)
 have H:=J (jG (q:=w.heap.size+1) (by rw[←o];exact zq b1) s p)
 have cK:=H.o.1
 have cS:=H.o.2.1
 have p0:=by simpa using zq z 0 _ rfl
 have p1:=by simpa using zq z 1 _ rfl
 have p2:=by simpa using zq z 2 _ rfl
 have W:=J b2
 have F3:=J M
 have Z3:=J V
 have I:=@J (w.heap.size≤w.heap.size+1+1) (by omega)
 have y:=J h
 have G0:=J hg
 have zA:=JU
 clear h hg ha o r p s O kt kb z b1 b2 M V H
 rw[hk] at cK
 clear hk
 have zB:=YY
 have Z:=J (zmx i.o n hB)
 have D:=J m
 have HT:=J hT
 clear n m hT
 go_enter Tryz.func20,Tryz.ntmps20
 have⟨K0,K1,K2,K3,K4⟩:=tZ5
 go_wp2_with ((first|(clear K0;go_at_call 53;generalize w.heap.size+1+1=K at i W Z3 I Z⊢;generalize (((w.alloc (.cells (jh pc pp ps).toArray 29)).alloc (.cells cs.toArray 57)).alloc (.cells (xg 0 (.slice none 0 0) (.slice none 0 0)).toArray 60))=w3 at*;refine Z.o.mono ?_;rintro e u ⟨aa,X1,rfl,B,j⟩;obtain⟨C,g,k,l,rfl⟩:=j.now.form;have F:=J B;have E:=J j;have r0:=B.frm.cell p0 (λe=>absurd (y.o.facts.1 _ e).2.1 (Nat.lt_irrefl _));have r1:=B.frm.cell p1 (λe=>absurd (y.o.facts.1 _ e).2.1 (Nat.lt_irrefl _));clear B j p0 p1 p2)|(clear K2;go_at_call 52;refine(zhc G0.o G.o hN HX.o (by have:=HT.o;omega)).mono ?_;rintro e w7 ⟨⟨gv,rfl⟩,N6,T5,X5,Q,R⟩;have N5:=J (R.more (N':=N) (by have:=i.o.facts.2.2.2.2.1;have:=D.o;have:=HT.o;omega));have Y:=J (R.fr.obj W.o (λe=>by have:=(y.o.facts.1 _ e).2.1;have:=I.o;omega));clear R Q t0 t1 ct)|((with_reducible refine zv ?_);first|(clear K1;refine zi rfl (zj (w:=u) (ty:=55) (cs:=[.int .u64 d.blk.tag,.slice C d.blk.pay.length g,.slice k d.blk.txs.length l]) rfl rfl rfl rfl JS (qM rfl rfl rfl)) ?_;have RN:=J (zy u [.int .u64 d.blk.tag,.slice C d.blk.pay.length g,.slice k d.blk.txs.length l] 55);have x:=J ((frN u).alloc (.cells ([.int .u64 d.blk.tag,.slice C d.blk.pay.length g,.slice k d.blk.txs.length l]:List Value).toArray 55));generalize u.heap.size=U at RN⊢;generalize u.alloc (.cells ([.int .u64 d.blk.tag,.slice C d.blk.pay.length g,.slice k d.blk.txs.length l]:List Value).toArray 55)=w6 at*;have G:=J (F.o.fr0 x.o);have HX:=@J (Kept X1 w6 (λw=>Jz w (.slice k d.blk.txs.length l) d.blk.txs)) (λw' f=>zkO ((E.o.same x.o.of0) w' f));have t0:=x.o.cell r0 id;have t1:=x.o.cell r1 id;have ct:w6.cell? ⟨U,2,none⟩=some (.slice k d.blk.txs.length l):=(by simpa using RN.o 2 _ rfl);clear r0 r1)|(clear K4;refine zi rfl (zK (ty:=60) (b:=K) (off:=0) (cs:=xg (0) (.slice none 0 0) (.slice none 0 0)) rfl rfl rfl (zX Y.o (le_refl 3)) qi (qM rfl rfl rfl)) ?_))|((with_reducible refine zt ?_);clear K3;refine zg rfl (yk (t:=60) rfl rfl (XG _)) ?_));go_frame)
 have BE:=Yj (cs:=xg (0) (.slice none 0 0) (.slice none 0 0)) Y.o rfl
 have fE:=zu K (xg (0) (.slice none 0 0) (.slice none 0 0)) 0 w7
 refine bodyPost_ret (v:=.agg (xg (0) (.slice none 0 0) (.slice none 0 0)).toArray) (results_cell_row (P:=prog) (fn:=Tryz.f20) rfl _ _ K 60 _ (0,0) _ rfl BE Tryz.underlying60 rfl qi) rfl ⟨rfl,T5,X5,N5.o.ans y.o F3.o I.o Z3.o fE,JR⟩
theorem zn6 (K:q9 w0) (h:WS w0 w pc pp ps T X N A) {a:vT} (z:Kept X w (λw=>qR w a cs)) (L:¬a.kind=0) (M:¬a.kind=1) (O:¬a.kind=2) (Q:¬a.kind=3) (R:¬a.kind=4) (S:¬a.kind=5):
  Calls prog 20 #[.agg (jh pc pp ps).toArray,.agg cs.toArray] w λe w'=>e=.returned (.agg (xg 0 (.slice none 0 0) (.slice none 0 0)).toArray)∧∃G X',xV w0 w w' pc pp ps T X N A G X'∧YZ X' w' (.slice none 0 0) (.slice none 0 0) [] []:=by
 obtain⟨k,x,y,n,p⟩:=xX w (.cells (jh pc pp ps).toArray 29) (.cells cs.toArray 57) (.cells (xg 0 (.slice none 0 0) (.slice none 0 0)).toArray 60)
 obtain⟨V,bcs,f,i,g,j,o,kt,U⟩:=qD z
 have d:=J (h.into (c:=w.heap.size+1+1) n (by omega) p)
 have l:=J (jG (q:=w.heap.size+1) (by rw[←f];exact zq x) j g)
 have W:=l.o.1
 have Y:=l.o.2.1
 have p0:=by simpa using zq k 0 _ rfl
 have p1:=by simpa using zq k 1 _ rfl
 have p2:=by simpa using zq k 2 _ rfl
 have r:=J y
 have D:=J n
 have u:=J p
 have t:=@J (w.heap.size≤w.heap.size+1+1) (by omega)
 have H:=J h
 have zA:=JU
 clear h K z f i g j o kt U k x y n p l
 have Z:(a.kind==0)=false:=by simpa using L
 have e1:(a.kind==1)=false:=by simpa using M
 have e2:(a.kind==2)=false:=by simpa using O
 have e3:(a.kind==3)=false:=by simpa using Q
 have e4:(a.kind==4)=false:=by simpa using R
 have e5:(a.kind==5)=false:=by simpa using S
 go_enter Tryz.func20,Tryz.ntmps20
 have E:=tru
 go_wp2_with ((with_reducible refine zv ?_);clear E;generalize w.heap.size+1+1=m at d r u t⊢;generalize (((w.alloc (.cells (jh pc pp ps).toArray 29)).alloc (.cells cs.toArray 57)).alloc (.cells (xg 0 (.slice none 0 0) (.slice none 0 0)).toArray 60))=B at*;have F:=J (d.o.idle (frN B));have s:=J r.o;refine zi rfl (zK (ty:=60) (b:=m) (off:=0) (cs:=xg (0) (.slice none 0 0) (.slice none 0 0)) rfl rfl rfl (zX s.o (le_refl 3)) qi (qM rfl rfl rfl)) ?_;go_frame)
 have C:=Yj (cs:=xg (0) (.slice none 0 0) (.slice none 0 0)) s.o rfl
 have I:=zu m (xg (0) (.slice none 0 0) (.slice none 0 0)) 0 B
 refine bodyPost_ret (v:=.agg (xg (0) (.slice none 0 0) (.slice none 0 0)).toArray) (results_cell_row (P:=prog) (fn:=Tryz.f20) rfl _ _ m 60 _ (0,0) _ rfl C Tryz.underlying60 rfl qi) rfl ⟨rfl,_,_,F.o.ans H.o D.o t.o u.o I,JR⟩
end
noncomputable def doA (A:WA) (a:vT):WA:=
 if a.kind=0 then qE A a.src a.tx
 else if a.kind=1 then(if vq A.Q a.src a.id=true then {A with Q:=jg A.Q a.src.toNat (Qr (A.Q a.src.toNat) a.id)} else A)
 else if a.kind=2 then {A with Q:=JP A.Q a.id 65}
 else if a.kind=3 then {A with L:=Zi A.S (ye A.bs) A.L a.tx 0}
 else if a.kind=4 then(if ji (ye A.bs) A.S A.bs a.blk=0 then {A with S:=(doR (ye A.bs) A.S a.blk).S,bs:=A.bs++[(doR (ye A.bs) A.S a.blk).d],L:=Ql (doR (ye A.bs) A.S a.blk).S (ye (A.bs++[(doR (ye A.bs) A.S a.blk).d])) A.L [] 0} else A)
 else if a.kind=5 then(match A.bs.getLast? with
  |none=>A
  |some d=>{A with S:=xS d.chg A.S,bs:=A.bs.dropLast,L:=Ql (xS d.chg A.S) (ye A.bs.dropLast) A.L d.blk.txs 0})
 else A
noncomputable def doE (A:WA) (a:vT):Int:=
 if a.kind=0 then vz A a.src a.tx
 else if a.kind=1 then(if vq A.Q a.src a.id=true then 0 else 9)
 else if a.kind=3 then Zh A.S (ye A.bs) A.L a.tx
 else if a.kind=4 then ji (ye A.bs) A.S A.bs a.blk
 else if a.kind=5 then(if A.bs=[] then 9 else 0)
 else 0
def doT (A:WA) (a:vT):List TxD:=if a.kind=1∧vq A.Q a.src a.id=true then(jP (A.Q a.src.toNat) a.id).map (·.tx) else[]
def doI (A:WA) (a:vT):List Nat:=if a.kind=2 then jo A.Q a.id 65 else[]
section
variable {w0 w:World} {pc pp ps N:Nat} {T X:Nat→Prop} {A:WA}
theorem zn5 (l:q9 w0) (h:WS w0 w pc pp ps T X N A) (y:N≤800) (q:52≤N) (t:A.bs.length≤200) (z:∀d∈A.bs,d.blk.txs.length≤20) {a:vT} (k:Kept X w (λw=>qR w a cs)):
  Calls prog 20 #[.agg (jh pc pp ps).toArray,.agg cs.toArray] w λe w'=>∃tv u,e=.returned (.agg (xg (doE A a) tv u).toArray)∧∃b X',xV w0 w w' pc pp ps T X (N+1) (doA A a) b X'∧YZ X' w' tv u (doT A a) (doI A a):=by
 by_cases k0:a.kind=0
 ·refine(zn2 l h k k0).mono λe w' ⟨g,b,X',n,i⟩=>?_
  have j:doE A a=vz A a.src a.tx:=by simp[doE,k0]
  have c:doA A a=qE A a.src a.tx:=by simp[doA,k0]
  have m:doT A a=[]:=by simp[doT,k0]
  have o:doI A a=[]:=by simp[doI,k0]
  rw[j,c,m,o]
  exact⟨_,_,g,b,X',n.more (by omega),i⟩
 by_cases k1:a.kind=1
 ·have o:doI A a=[]:=by simp[doI,k1]
  cases hm:vq A.Q a.src a.id with
  |false=>
   have j:doE A a=9:=by simp[doE,k1,hm]
   have c:doA A a=A:=by simp[doA,k1,hm]
   have m:doT A a=[]:=by simp[doT,hm]
   rw[j,c,m,o]
   exact(znA l h k k1 hm).mono λe w' ⟨g,b,X',n,i⟩=>⟨_,_,g,b,X',n.more (by omega),i⟩
  |true=>
   have s:=hm
   unfold vq at s
   obtain⟨C,D,x⟩:=of_decide_eq_true s
   obtain⟨n,v⟩:∃n:Nat,a.src=(n:Int):=⟨a.src.toNat,(Int.toNat_of_nonneg C).symm⟩
   have p:a.src.toNat=n:=by rw[v,Int.toNat_natCast]
   rw[p] at x
   have j:doE A a=0:=by simp[doE,k1,hm]
   have c:doA A a={A with Q:=jg A.Q n (Qr (A.Q n) a.id)}:=by simp[doA,k1,hm,p]
   have m:doT A a=(jP (A.Q n) a.id).map (·.tx):=by simp[doT,k1,hm,p]
   rw[j,c,m,o]
   exact(znB l h k k1 v (by omega) x).mono λe w' ⟨tv,g,b,X',n,i⟩=>⟨_,_,g,b,X',n.more (by omega),i⟩
 by_cases k2:a.kind=2
 ·have j:doE A a=0:=by simp[doE,k2]
  have c:doA A a={A with Q:=JP A.Q a.id 65}:=by simp[doA,k2]
  have m:doT A a=[]:=by simp[doT,k2]
  have o:doI A a=jo A.Q a.id 65:=by simp[doI,k2]
  rw[j,c,m,o]
  exact(zn3 l h k k2).mono λe w' ⟨u,g,b,X',n,i⟩=>⟨_,_,g,b,X',n.more (by omega),i⟩
 have m:doT A a=[]:=by simp[doT,k1]
 have o:doI A a=[]:=by simp[doI,k2]
 rw[m,o]
 by_cases k3:a.kind=3
 ·have j:doE A a=Zh A.S (ye A.bs) A.L a.tx:=by simp[doE,k3]
  have c:doA A a={A with L:=Zi A.S (ye A.bs) A.L a.tx 0}:=by simp[doA,k3]
  rw[j,c]
  exact(zn4 l h y k k3).mono λe w' ⟨g,b,X',n,i⟩=>⟨_,_,g,b,X',n,i⟩
 by_cases k4:a.kind=4
 ·have j:doE A a=ji (ye A.bs) A.S A.bs a.blk:=by simp[doE,k4]
  rw[j]
  by_cases hE:ji (ye A.bs) A.S A.bs a.blk=0
  ·have c:doA A a={A with S:=(doR (ye A.bs) A.S a.blk).S,bs:=A.bs++[(doR (ye A.bs) A.S a.blk).d],L:=Ql (doR (ye A.bs) A.S a.blk).S (ye (A.bs++[(doR (ye A.bs) A.S a.blk).d])) A.L [] 0}:=by simp[doA,k4,hE]
   rw[c,hE]
   exact(znD l h t (by omega) q k k4 hE).mono λe w' ⟨g,b,X',n,i⟩=>⟨_,_,g,b,X',n.more (by omega),i⟩
  ·have c:doA A a=A:=by simp[doA,k4,hE]
   rw[c]
   exact(znC l h t k k4 hE).mono λe w' ⟨g,b,X',n,i⟩=>⟨_,_,g,b,X',n.more (by omega),i⟩
 by_cases k5:a.kind=5
 ·cases hl:A.bs.getLast? with
  |none=>
   have f:A.bs=[]:=List.getLast?_eq_none_iff.1 hl
   have j:doE A a=9:=by simp[doE,k5,f]
   have c:doA A a=A:=by simp[doA,k5,f]
   rw[j,c]
   exact(znE l h k k5 f).mono λe w' ⟨g,b,X',n,i⟩=>⟨_,_,g,b,X',n.more (by omega),i⟩
  |some d=>
   obtain⟨bs,f⟩:=List.getLast?_eq_some_iff.1 hl
   have B:A.bs.dropLast=bs:=by rw[f,List.dropLast_concat]
   have r:bs.length≤200:=by rw[f,List.length_append] at t;omega
   have j:doE A a=0:=by simp[doE,k5,f]
   have c:doA A a={A with S:=xS d.chg A.S,bs:=bs,L:=Ql (xS d.chg A.S) (ye bs) A.L d.blk.txs 0}:=by
    unfold doA
    rw[if_neg k0,if_neg k1,if_neg k2,if_neg k3,if_neg k4,if_pos k5,hl]
    dsimp only
    rw[B]
   rw[j,c]
   exact(znF l h f r (z d (by rw[f];simp)) (by omega) q k k5).mono λe w' ⟨g,b,X',n,i⟩=>⟨_,_,g,b,X',n.more (by omega),i⟩
 ·have j:doE A a=0:=by simp[doE,k0,k1,k3,k4,k5]
  have c:doA A a=A:=by simp[doA,k0,k1,k2,k3,k4,k5]
  rw[j,c]
  exact(zn6 l h k k0 k1 k2 k3 k4 k5).mono λe w' ⟨g,b,X',n,i⟩=>⟨_,_,g,b,X',n.more (by omega),i⟩
theorem zkW (K:List zd) (S:List zr) (b:qs):(doR K S b).d.blk=b:=by
 unfold doR
 repeat' split
 all_goals rfl
theorem zjp (A:WA) (a:vT):(doA A a).bs.length≤A.bs.length+1∧∀d∈(doA A a).bs,d∈A.bs∨d.blk=a.blk:=by
 have same:∀B:WA,B.bs=A.bs→B.bs.length≤A.bs.length+1∧∀d∈B.bs,d∈A.bs∨d.blk=a.blk:=λB h=>by rw[h];exact⟨by omega,λd b=>.inl b⟩
 unfold doA
 split
 ·refine same _ ?_
  unfold qE
  split<;>rfl
 split
 ·split<;>exact same _ rfl
 split
 ·exact same _ rfl
 split
 ·exact same _ rfl
 split
 ·split
  ·refine⟨by simp,λd b=>?_⟩
   rcases mem_append.1 b with b|b
   ·exact .inl b
   ·rw[mem_singleton.1 b,zkW]
    exact .inr rfl
  ·exact same _ rfl
 split
 ·split
  ·exact same _ rfl
  ·exact⟨by show A.bs.dropLast.length≤_;rw[List.length_dropLast];omega,λd b=>.inl (List.dropLast_subset _ b)⟩
 ·exact same _ rfl
end
theorem zhG:∃d,prog.underlying 29=some d∧d.isRow=true:=jf (by kernel_rfl)
theorem FlA.keptQ {a w:World} {A:WA} (h:FlA a w b d g ps T X N A) {Q:World→Prop} (c:∀w',Fr No a w'→Q w'):Kept X w Q:=λ_ f=>
 c _ (h.fr.trans f (λi hi e=>by have:=h.2.1 i e;omega))
def QY (R:Nat→Value):List Value:=(List.range 65).map R
theorem zbg {R:Nat→Value} (h:i<65):(QY R)[i]? =some (R i):=by
 unfold QY
 rw[List.getElem?_map,List.getElem?_range h]
 rfl
theorem zdS (R:Nat→Value):(QY R).length=65:=by simp[QY]
theorem zlo {R:Nat→Value} (h:i<65) (v:Value):(QY R).set i v=QY (vr R i v):=by
 refine List.ext_getElem? λk=>?_
 unfold vr
 by_cases hk:k=i
 ·subst hk
  rw[List.getElem?_set_self (by rw[zdS];omega),zbg h,if_pos rfl]
 ·rw[List.getElem?_set_ne (λe=>hk e.symm)]
  by_cases h65:k<65
  ·rw[zbg h65,zbg h65,if_neg hk]
  ·rw[List.getElem?_eq_none (by rw[zdS];omega),List.getElem?_eq_none (by rw[zdS];omega)]
def zlQ (K:Nat→List zd) (i:Nat) (l:List zd):Nat→List zd:=λj=>if j=i then l else K j
section
variable {w0 w w' w4:World} {c7 pc pp ps N N' B c:Nat} {T X T' X':Nat→Prop} {A A':WA} {R:Nat→Value} {K:Nat→List zd} {v v4:Value}
structure j9 (T X:Nat→Prop) (w:World) (B c:Nat) (R:Nat→Value) (K:Nat→List zd):Prop where
 obj:w.heap[c]? =some (.cells (QY R).toArray 63 (0,0))
 row:∀i,i<65→zaU T w B 41 32 (R i) (K i).length ((K i).flatMap zf)
 own:∀i,i<65→∀j,(R i).ownBlock=some j→X j
 ap:∀i k,i<65→k<65→i≠k→∀j,(R i).ownBlock=some j→(R k).ownBlock≠some j
 cX:X c
 cT:¬T c
 cB:c<B
theorem j9.cell (h:j9 T X w B c R K) (hi:i<65):w.cell? ⟨c,i,none⟩=some (R i):=by
 simpa using zq h.obj i _ (zbg hi)
theorem j9.fr0 (h:j9 T X w B c R K) (f:Fr No w w'):j9 T X w' B c R K:=
 {h with obj:=f.obj h.obj id,row:=λi hi=>(h.row i hi).fr0 f}
theorem j9.next (h:j9 T X w B c R K) (n:xV w0 w w' pc pp ps T X N' A' T' X'):j9 T' X' w' B c R K:=
 {h with
  obj:=n.fr.obj h.obj h.cT
  row:=λi hi=>(h.row i hi).next n
  own:=λi hi j a=>n.xx j (h.own i hi j a)
  cX:=n.xx _ h.cX
  cT:=n.out h.cT (yF h.obj)}
theorem j9.frB (h:j9 T X w B c R K) {U X':Nat→Prop} (f:Fr U w w') (b:¬U c) (e:∀i,i<65→∀j,(R i).ownBlock=some j→¬U j) (a:∀j,X j→X' j):j9 T X' w' B c R K:=
 {h with
  obj:=f.obj h.obj b
  row:=λi hi=>⟨zb (h.row i hi).1 f (e i hi),(h.row i hi).2⟩
  own:=λi hi j d=>a j (h.own i hi j d)
  cX:=a _ h.cX}
theorem j9.put (h:j9 T X w B c R K) (hi:i<65) {l:List zd} (y:zaU T w B 41 32 v l.length (l.flatMap zf)) (t:∀j,v.ownBlock=some j→X j) (r:∀k,k<65→k≠i→∀j,(R k).ownBlock=some j→v.ownBlock≠some j):
  j9 T X (w.setCell ⟨c,i,none⟩ v) B c (vr R i v) (zlQ K i l):=by
 have f:Fr (λj=>j=c) w (w.setCell ⟨c,i,none⟩ v):=(Fr.refl (λj=>j=c) w).setCell ⟨c,i,none⟩ (.inr rfl) _
 have g:∀(u:Value) (l:List zd),zaU T w B 41 32 u l.length (l.flatMap zf)→zaU T (w.setCell ⟨c,i,none⟩ v) B 41 32 u l.length (l.flatMap zf):=λu l o=>
  ⟨zb o.1 f (λj b e=>by have:=(o.1.lt j b).1;have:=h.cB;omega),o.2⟩
 refine⟨?_,λk d=>?_,λk d=>?_,λk m d s q=>?_,h.cX,h.cT,h.cB⟩
 ·have p:=heap_setCell_same w c i _ _ v h.obj
  have:=zlo (R:=R) hi v
  rw[p]
  rw[←this]
  simp
 ·unfold vr zlQ
  by_cases e:k=i
  ·rw[if_pos e,if_pos e]
   exact g _ _ y
  ·rw[if_neg e,if_neg e]
   exact g _ _ (h.row k d)
 ·unfold vr
  by_cases e:k=i
  ·rw[if_pos e]
   exact t
  ·rw[if_neg e]
   exact h.own k d
 ·unfold vr
  intro j b a
  by_cases e:k=i
  ·rw[if_pos e] at b
   rw[if_neg (by omega)] at a
   exact r m s (by omega) j a b
  ·rw[if_neg e] at b
   by_cases e2:m=i
   ·rw[if_pos e2] at a
    exact r k d e j b a
   ·rw[if_neg e2] at a
    exact h.ap k m d s q j b a
theorem FlA.set (h:FlA w0 w c7 pc pp ps T X N A) (b:X c) (g:¬T c) (d:c7≠c) (v:Value):FlA w0 (w.setCell ⟨c,o,none⟩ v) c7 pc pp ps T X N A:=by
 have f:Fr (λj=>j=c) w (w.setCell ⟨c,o,none⟩ v):=(Fr.refl (λj=>j=c) w).setCell ⟨c,o,none⟩ (.inr rfl) _
 exact⟨h.1.frV f (λj a e=>g (by rw[←e];exact a)) (λj e=>by rw[e];exact h.2.1 c b) (λj e=>by rw[e];exact b) (λ_ _ e=>e) (λj a=>(h.1.facts.1 j a).2.2) (λj a=>lt_of_lt_of_le (h.1.facts.2.1 j a) f.size),h.2.1,h.2.2.1,f.obj h.2.2.2 d⟩
theorem FlA.grow (h:FlA w0 w c7 pc pp ps T X N A) (f:Fr (λj=>v.ownBlock=some j) w w') (b:∀j,v.ownBlock=some j→X j) (g:∀j,v.ownBlock=some j→¬T j) (d:∀j,v.ownBlock=some j→c7<j):
  FlA w0 w' c7 pc pp ps T (λj=>X j∨(w.heap.size≤j∧j<w'.heap.size)) N A:=by
 refine⟨?_,?_,h.2.2.1,?_⟩
 ·exact h.1.frV f (λj a e=>g j e a) (λj e=>h.2.1 j (b j e)) b (λj a e=>e.resolve_right (by omega)) (λj a=>.inl (h.1.facts.1 j a).2.2) (λj a=>a.elim (λe=>lt_of_lt_of_le (h.1.facts.2.1 j e) f.size) (·.2))
 ·exact λj a=>a.elim (h.2.1 j) (λe=>le_trans h.fr.size e.1)
 ·exact f.obj h.2.2.2 (λe=>by have:=d _ e;omega)
variable {c5:Nat} {x:zd} {l:List Nat}
section
variable {k n:Nat} {ty:TypeId} {u:Value} {xs:List Value}
end
end
def zbt (Q:StQ) (s:Int):List zd:=if 0≤s∧s<65 then yM (Q s.toNat) else[]
section
variable {w0 w w':World} {c7 pc pp ps N N':Nat} {T X T' X':Nat→Prop} {A A' B:WA}
theorem ziW (w:World) (p:Nat) (h:¬(0≤s∧s<65)):Calls prog 13 #[.pointer (some ⟨p,0,none⟩),.int .i64 s] w λe w'=>e=.returned (.slice none 0 0)∧Fr No w w':=by
 by_cases h0:s<0
 ·go_enter Tryz.func13,Tryz.ntmps13
  go_wp2
  go_ret
  exact⟨rfl,Fr.refl _ _⟩
 ·have a:(64:Int)<s:=by omega
  clear h
  go_enter Tryz.func13,Tryz.ntmps13
  go_wp2
  go_ret
  exact⟨rfl,Fr.refl _ _⟩
theorem ziV (h:WS w0 w pc pp ps T X N A) (s:Int):
  Calls prog 13 #[.pointer (some ⟨ps,0,none⟩),.int .i64 s] w λe w'=>∃a,e=.returned a∧yP w' a (zbt A.Q s)∧w'.ownsRow w.heap.size 41 32 a (zbt A.Q s).length ((zbt A.Q s).flatMap zf)∧Fr No w w':=by
 unfold zbt
 by_cases hs:0≤s∧s<65
 ·rw[if_pos hs]
  obtain⟨n,rfl⟩:∃n:Nat,s=(n:Int):=Int.eq_ofNat_of_zero_le hs.1
  rw[Int.toNat_natCast]
  refine(zcy h (n:=n) (by omega)).mono ?_
  rintro e w' ⟨a,b,c,f⟩
  exact⟨a,b,⟨h.ids n,c.slice.arg⟩,c,f⟩
 ·rw[if_neg hs]
  refine(ziW w ps hs).mono ?_
  rintro e w' ⟨b,f⟩
  have d:w'.ownsRow w.heap.size 41 32 (.slice none 0 0) ([]:List zd).length (([]:List zd).flatMap zf):=World.ownsRow_nil _ _ _ _
  exact⟨_,b,⟨λ_ h=>(by cases h),d.slice.arg⟩,d,f⟩
theorem ziX (h:WS w0 w pc pp ps T X N A) (s:Int):(zbt A.Q s).length≤4:=by
 unfold zbt
 split
 ·rw[Je];exact(h.facts.2.2.2.2.2.2 _).len
 ·simp
end
section
open Go.ChangeShapes Go.WideShapes Go.Deep
structure zfK where
 first:List yI
 l:List vT
 src:Int
 tx:TxD
def ZZ (v1 v2:Value) (s:Int) (tcs:List Value):List Value:=v1::v2::.int .i64 s::tcs
def zdp (w:World) (q:zfK) (cs:List Value):Prop:=∃fa fc la lc tcs,cs=ZZ (.slice fa q.first.length fc) (.slice la q.l.length lc) q.src tcs∧xu w (.slice fa q.first.length fc) q.first∧Yk w (.slice la q.l.length lc) q.l∧ZB q.src∧TxQ w q.tx tcs
section
variable {H:Type} {enc:TypeId×Value→H} {w:World} {base:Nat} {spare:Nat→Bool} {held:Bool}
theorem zmM (a:(Lit.int .i64 s).wf=true):ZB s:=by
 simp[Lit.wf,IntKind.min,IntKind.max,IntKind.signed,IntKind.bits] at a
 unfold ZB
 omega
theorem zfy {x:DataW H×List MemPlace} (h:DataW.trod enc prog w base spare held fuel 97 cs=some x):∃d,zdp w d cs:=by
 have c1:prog.cellsOf 22=1:=by kernel_rfl
 have c2:prog.cellsOf 52=1:=by kernel_rfl
 have u:prog.cellsOf 3=1:=by kernel_rfl
 have v:prog.cellsOf 34=3:=by kernel_rfl
 have y:prog.cellsOf 97=6:=by kernel_rfl
 obtain⟨g,n,_,_,t,o,m⟩:=DataW.trod_struct Tryz.underlying97 h
 have i:DataW.trod enc prog w base spare held n 22 ((cs.drop 0).take (prog.cellsOf 22))=g[0]? :=m 0 _ rfl
 have j:DataW.trod enc prog w base spare held n 52 ((cs.drop 1).take (prog.cellsOf 52))=g[1]? :=m 1 _ rfl
 have k:DataW.trod enc prog w base spare held n 3 ((cs.drop 2).take (prog.cellsOf 3))=g[2]? :=m 2 _ rfl
 have l:DataW.trod enc prog w base spare held n 34 ((cs.drop 3).take (prog.cellsOf 34))=g[3]? :=m 3 _ rfl
 rw[c1] at i
 rw[c2] at j
 rw[u] at k
 rw[v] at l
 rw[y] at t
 have C:g.length=4:=o
 rw[getElem?_eq_getElem (by omega)] at i j k l
 match cs,t with
 |[a,b,c,d,e,f],_=>
  simp only[List.drop_zero,List.drop_succ_cons,List.take_succ_cons,List.take_zero] at i j k l
  obtain⟨O,r⟩:=zaw i
  obtain⟨L,q⟩:=ze3 j
  obtain⟨s,p,_,F⟩:=DataW.trod_int Tryz.underlying3 k
  obtain⟨T,B⟩:=zd3 l
  obtain⟨z,A,rfl⟩:=r.2.form
  obtain⟨D,E,rfl⟩:=q.form
  simp only[List.cons.injEq,and_true] at p
  subst p
  exact⟨⟨O,L,s,T⟩,z,A,D,E,_,rfl,r,q,zmM F,B⟩
theorem ze4 {r:Reach} {d:DataW H} {p:List MemPlace} (f:Value.okWide prog w r a 97 v) (h:DataW.Trod enc prog w base spare held 97 v d p):
  ∃(k:zfK) (cs:List Value),zdp w k cs∧v=.agg cs.toArray:=by
 obtain⟨cs,rfl,e⟩:=okWide_struct Tryz.underlying97 f
 obtain⟨fuel,b⟩:=h
 obtain⟨k,c⟩:=zfy b
 exact⟨k,cs.toList,c,by simp⟩
end
end
theorem Vd (w:World) {v x:Value} {S T:List zd} (i:w.ownsRow B 41 32 v S.length (S.flatMap zf)) (c:yP w x T) (l:S.length+T.length≤1000) (h:B≤w.heap.size) (a:x≠.slice none 0 0):
  ∃b w',(Builtin.append_ #[38,38] 38 #[v,x]).run prog w=.ok b w'∧w'.ownsRow B 41 32 b (S++T).length ((S++T).flatMap zf)∧Fr (λj=>v.ownBlock=some j) w w':=by
 obtain⟨b,w',d,f,g,-,-⟩:=jH (P:=prog) w B 38 38 41 32 32 _ xP qm rfl (by decide) v S.length (S.flatMap zf) i x T.length (T.flatMap zf) c.2 (JB c.1) JC (by omega) (by unfold maxLen;omega) h a
 refine⟨b,w',d,?_,(Fr.refl _ w).grown g (λk e=>.inr e)⟩
 rw[List.length_append,List.flatMap_append]
 exact f
section
variable {w0 w w' w4:World} {c7 pc pp ps N N' c1:Nat} {T X T' X':Nat→Prop} {A A':WA} {bx:List Value} {wv iv v4:Value} {was inn:List zd}
structure jw (w0 w:World) (c7 pc pp ps:Nat) (T X:Nat→Prop) (N:Nat) (A:WA) (c1:Nat) (bx:List Value) (wv iv:Value) (was inn:List zd):Prop where
 fl:FlA w0 w c7 pc pp ps T X N A
 bx:w.rangeAt c1 0 bx
 t1:¬T c1
 l1:c1<w.heap.size
 was:zaU T w 0 41 32 wv was.length (was.flatMap zf)
 wx:∀j,wv.ownBlock=some j→X j
 wl:∀j,wv.ownBlock=some j→c7<j∧c1<j
 inn:zaU T w 0 41 32 iv inn.length (inn.flatMap zf)
theorem jw.fr0 (h:jw w0 w c7 pc pp ps T X N A c1 bx wv iv was inn) (f:Fr No w w'):jw w0 w' c7 pc pp ps T X N A c1 bx wv iv was inn:=
 {h with fl:=h.fl.fr0 f,bx:=za h.bx f id,l1:=lt_of_lt_of_le h.l1 f.size,was:=h.was.fr0 f,inn:=h.inn.fr0 f}
theorem jw.next (h:jw w0 w c7 pc pp ps T X N A c1 bx wv iv was inn) (n:xV w0 w w' pc pp ps T X N' A' T' X'):jw w0 w' c7 pc pp ps T' X' N' A' c1 bx wv iv was inn:=
 {h with fl:=h.fl.next n,bx:=za h.bx n.fr h.t1,t1:=n.out h.t1 h.l1,l1:=lt_of_lt_of_le h.l1 n.fr.size,was:=h.was.next n,wx:=λj a=>n.xx j (h.wx j a),inn:=h.inn.next n}
theorem jw.wide (h:jw w0 w c7 pc pp ps T X N A c1 bx wv iv was inn) (f:Fr No w w'):jw w0 w' c7 pc pp ps T (λj=>X j∨(w.heap.size≤j∧j<w'.heap.size)) N A c1 bx wv iv was inn:=
 {h.fr0 f with
  fl:=h.fl.grow (v:=.slice none 0 0) (f.mono (λj e=>e.elim)) (λj e=>by cases e) (λj e=>by cases e) (λj e=>by cases e)
  wx:=λj a=>.inl (h.wx j a)}
theorem jw.app (h:jw w0 w c7 pc pp ps T X N A c1 bx wv iv was inn) (a:Fr (λj=>wv.ownBlock=some j) w w4):FlA w0 w4 c7 pc pp ps T (λj=>X j∨(w.heap.size≤j∧j<w4.heap.size)) N A∧w4.rangeAt c1 0 bx:=
 ⟨h.fl.grow a h.wx h.was.2 (λj b=>(h.wl j b).1),za h.bx a (λe=>by have:=(h.wl _ e).2;omega)⟩
theorem jw.set (h:jw w0 w c7 pc pp ps T X N A c1 bx wv iv was inn) (i:X c) (g:¬T c) (d:c7≠c) (b:c1≠c) (k:wv.ownBlock≠some c) (hi:iv.ownBlock≠some c) (v:Value):jw w0 (w.setCell ⟨c,o,none⟩ v) c7 pc pp ps T X N A c1 bx wv iv was inn:=by
 have f:Fr (λj=>j=c) w (w.setCell ⟨c,o,none⟩ v):=(Fr.refl (λj=>j=c) w).setCell ⟨c,o,none⟩ (.inr rfl) _
 exact {h with fl:=h.fl.set i g d v,bx:=za h.bx f b,l1:=lt_of_lt_of_le h.l1 f.size,was:=⟨zb h.was.1 f (λj a e=>k (by rw[←e];exact a)),h.was.2⟩,inn:=⟨zb h.inn.1 f (λj a e=>hi (by rw[←e];exact a)),h.inn.2⟩}
def ze5 (Q:StQ) (k:Nat):Nat→List zd:=λj=>if j<k then yM (Q j) else[]
theorem zh9 (Q:StQ):ze5 Q 0=λ_=>[]:=by
 funext j
 unfold ze5
 rw[if_neg (by omega)]
theorem zh8 (Q:StQ) (k:Nat):zlQ (ze5 Q k) k (yM (Q k))=ze5 Q (k+1):=by
 funext j
 unfold zlQ ze5
 by_cases c:j=k
 ·rw[if_pos c,if_pos (by omega),c]
 ·rw[if_neg c]
  by_cases c2:j<k
  ·rw[if_pos c2,if_pos (by omega)]
  ·rw[if_neg c2,if_neg (by omega)]
theorem zjY (Q:StQ) {j:Nat} (h:j<65):ze5 Q 65 j=yM (Q j):=if_pos h
end
section
variable {A:WA} {s:Int} {t:TxD}
theorem zk8:(qE A s t).L=A.L:=by unfold qE;split<;>rfl
theorem zeM (h:(i:Int)≠s):(qE A s t).Q i=A.Q i:=by
 unfold qE
 split
 ·rfl
 ·show jg A.Q s.toNat _ i=_
  exact qA _ _ (by omega)
theorem zjK (h:vz A s t≠0):qE A s t=A:=by
 unfold vz at h
 unfold qE
 split
 ·rfl
 ·rename_i h0
  rw[if_neg h0] at h
  unfold Y3
  rw[if_neg h,zbm]
theorem zjL (h:vz A s t=0):∃n:Nat,n<65∧s=(n:Int)∧yC t=0∧(qE A s t).Q n=A.Q n++[⟨idH t,t⟩]∧vz (qE A s t) s t=10:=by
 unfold vz at h
 split at h
 ·cases h
 rename_i h0
 obtain⟨n,rfl⟩:∃n:Nat,s=(n:Int):=Int.eq_ofNat_of_zero_le (by omega)
 rw[Int.toNat_natCast] at h
 have b:=keep0 h
 have c:(qE A n t).Q n=A.Q n++[⟨idH t,t⟩]:=by
  unfold qE
  rw[if_neg h0]
  show jg A.Q (n:Int).toNat _ n=_
  rw[Int.toNat_natCast,xQ]
  unfold Y3
  rw[if_pos h]
 refine⟨n,by omega,rfl,b.1,c,?_⟩
 unfold vz
 rw[if_neg h0,Int.toNat_natCast,c]
 unfold jL
 rw[if_neg (by rw[b.1];simp)]
 have:∀S I L,jC I L (A.Q n++[⟨idH t,t⟩]) (idH t)=10∨S=0:=λS I L=>.inl (by
  unfold jC
  rw[if_pos (.inl (by unfold yM;simp))])
 have a:=(this 1 (ye (qE A n t).bs) (qE A n t).L).resolve_right (by decide)
 rw[a]
 rfl
end
theorem Yo {c d:Value} {a:List Value} (h:w.rangeAt b 0 (ZZ c d s a)):w.cell? ⟨b,0,none⟩=some c∧w.cell? ⟨b,1,none⟩=some d∧w.cell? ⟨b,2,none⟩=some (.int .i64 s)∧w.rangeAt b 3 a:=by
 refine⟨by simpa using h 0 _ rfl,by simpa using h 1 _ rfl,by simpa using h 2 _ rfl,λj v e=>?_⟩
 have:=h (j+3) v (by simpa[ZZ] using e)
 rw[show 0+(j+3)=3+j by omega] at this
 exact this
theorem zlY (w:World):(zeroValue 63).run prog w=.ok (.agg (QY RZ0).toArray) w:=by kernel_rfl
theorem zhY (hg:q9 w) {q:zfK} (hq:zdp w q cs):
  Calls prog 8 #[.agg cs.toArray] w λe w'=>e=.returned (.bool true)∧Fr No w w':=by
 obtain⟨dT,uT,rT⟩:=zfZ
 obtain⟨dA,uA,rA⟩:=zcJ
 obtain⟨dW,uW,rW⟩:=zhG
 have zT:=show ∀w,(zeroValue 34).run prog w=.ok (.agg VX.toArray) w from vt
 have zh:=yS
 have zw:=zdm
 have zA:=zdl
 obtain⟨first,l,s,t⟩:=q
 obtain⟨fa,fc,la,lc,Q,rfl,hl,hx,hs,ht⟩:=hq
 dsimp only at hl hx hs ht⊢
 have HG:=J hg
 have HL:=J hl
 have HX:=J hx
 have HT:=J ht
 have I:=J ht.len3
 have FB:=J ((frN w).alloc (.cells (ZZ (.slice fa first.length fc) (.slice la l.length lc) s Q).toArray 97))
 have RB:=J (zy w (ZZ (.slice fa first.length fc) (.slice la l.length lc) s Q) 97)
 have LB:=@J (w.heap.size<(w.alloc (.cells (ZZ (.slice fa first.length fc) (.slice la l.length lc) s Q).toArray 97)).heap.size) (by simp)
 have bI:=J (zei (hg.keep0 FB.o))
 clear hg hl hx ht hs
 go_enter Tryz.func8,Tryz.ntmps8
 have⟨K0,K1,K2,K3⟩:=tZ4
 go_wp2_with ((first|(clear K0;go_at_call 9;generalize bP:w.heap.size=c1 at RB LB⊢;clear bP;generalize w.alloc (.cells (ZZ (.slice fa first.length fc) (.slice la l.length lc) s Q).toArray 97)=wa at*;refine bI.o.mono ?_;rintro e w1 ⟨rfl,f1⟩;have F1:=J (FB.o.trans0 f1);have R1:=J (za RB.o f1 id);have L1:=J (lt_of_lt_of_le LB.o f1.size);have d0:=(Yo R1.o).1;have d1:=(Yo R1.o).2.1;clear f1)|(clear K1;go_at_call 19;refine(zeC w1 (HL.o.keep F1.o) (HX.o.keep0 F1.o)).mono ?_;rintro e w2 ⟨⟨g,rfl,bO,hz⟩,f2⟩;have GZ:=J hz;have F2:=J (F1.o.trans0 f2);have R2:=J (za R1.o f2 id);have L2:=J (lt_of_lt_of_le L1.o f2.size);clear hz f2 d0 d1;rcases bO with rfl|rfl)|(clear K3;go_at_call 11;refine(Xp w2 (HT.o.keep F2.o)).mono ?_;rintro e w3 ⟨rfl,f3⟩;have F3:=J (F2.o.trans0 f3);have R3:=J (za R2.o f3 id);have L3:=J (lt_of_lt_of_le L2.o f3.size);have d0:=(Yo R3.o).1;clear f3)|((with_reducible refine yv 26 ?_);clear K2;refine xU (o:=⟨some 26,_,_,_,_,_⟩) rfl (z7 (ty:=34) rfl rfl (Yo R2.o).2.2.2 uT rT (by rw[I.o];exact y5)) ?_));go_frame)
 ·go_ret
  exact⟨rfl,F3.o⟩
 rotate_left
 ·go_ret
  exact⟨rfl,F2.o⟩
 have ak:=J (GZ.o trivial)
 clear GZ
 have bX:=ak.o.2.1
 obtain⟨bx,aU⟩:∃bx,bx=ZZ (.slice fa first.length fc) (.slice la l.length lc) s Q:=⟨_,rfl⟩
 rw[←aU] at R3
 have KA:=@J (∀(W:World),W.rangeAt c1 0 bx→W.cell? ⟨c1,0,none⟩=some (.slice fa first.length fc)∧W.cell? ⟨c1,1,none⟩=some (.slice la l.length lc)∧W.cell? ⟨c1,2,none⟩=some (.int .i64 s)∧W.rangeAt c1 3 Q) (λW h=>Yo (by rw[←aU];exact h))
 clear aU
 have⟨K0,K1⟩:=tZ2
 go_wp2_with ((first|(clear K0;go_at_call 10;refine(zfP F3.o (HL.o.keep F3.o) ak.o.1).mono ?_;rintro e w4 ⟨pc,pp,ps,T,rfl,bD,bA,f4⟩;have W4:=J (bD T (λ_ h=>h) (λ_ h=>.inl h));have bp:=J bA;have R4:=J (za R3.o f4 id);have bg:=J f4;clear bD bA f4 d0)|((with_reducible refine zv ?_);clear K1;refine zi rfl (zj (w:=w4) (ty:=29) (cs:=jh pc pp ps) rfl rfl rfl rfl XY (qM rfl rfl rfl)) ?_;generalize bQ:w4.heap.size=N at*;have BW:=J (yJ w4 (.cells (jh pc pp ps).toArray 29) bQ.symm);have FF:=J ((frN w4).alloc (.cells (jh pc pp ps).toArray 29));have L5:=@J (c1<(w4.alloc (.cells (jh pc pp ps).toArray 29)).heap.size) (by have:=L3.o;have:=bg.o.size;simp;omega);generalize w4.alloc (.cells (jh pc pp ps).toArray 29)=O at*;have aP:=@J (jw w O N pc pp ps T T 52 ⟨ziZ first,ziZ first,[],[],λ_=>[]⟩ c1 bx (.slice none 0 0) (.slice none 0 0) [] []) ({fl:=⟨(W4.o.fr0 FF.o).more (by decide),λj e=>(W4.o.facts.1 j e).1,λe=>by have:=(W4.o.facts.1 _ e).2.1;omega,BW.o⟩,bx:=za R4.o FF.o id,t1:=λe=>by have:=bp.o _ e;have:=L3.o;omega,l1:=L5.o,was:=⟨World.ownsRow_nil _ _ _ _,λj h=>(by cases h)⟩,wx:=λj h=>(by cases h),wl:=λj h=>(by cases h),inn:=⟨World.ownsRow_nil _ _ _ _,λj h=>(by cases h)⟩});have d1:=(KA.o _ aP.o.bx).2.1));go_frame)
 generalize ziZ first=S at*
 clear W4 bp R4 BW FF L5 d1 R1 R2 R3 RB LB L1 L2 FB bg
 go_loopw [35] (λiv wr=>∃(k:Nat) (T X:Nat→Prop) (A:WA),iv=.int .i64 k∧k≤l.length∧jw w wr N pc pp ps T X (52+k) A c1 bx (.slice none 0 0) (.slice none 0 0) [] []∧A.bs.length≤k∧∀d∈A.bs,d.blk.txs.length≤20) (λiv _=>l.length-(intOf iv).toNat)
 case atStart=>exact⟨0,_,_,_,rfl,zero_le _,aP.o,le_refl _,λd hd=>by cases hd⟩
 case round=>
  clear aP
  obtain⟨k,T,X,A,rfl,hk,aB,aA,bu⟩:=hrel
  have F:=J aB
  have aK:=J aA
  have aL:=J bu
  clear aB aA bu
  by_cases P:k<l.length
  ·have i1:(k:Int)<(l.length:Int):=by omega
   obtain⟨a,hx⟩:∃a,l[k]? =some a:=⟨_,getElem?_eq_getElem P⟩
   have bE:=J (ak.o.2.2 a (mem_of_getElem? hx))
   obtain⟨bb,off,bY,cs,bT,hr,hq⟩:=HX.o.at_ hx
   cases bT
   have R1:=J (za hr F.o.fl.fr id)
   have CL:=J hq.len
   have bG:=J (zcx hq)
   have QK:=@J (∀w',Fr No w w'→qR w' a cs) (λw' f=>hq.keep f)
   have FA:=J ((frN wr).alloc (.cells cs.toArray 57))
   have RN:=J (zy wr cs 57)
   have aE:=J (F.o.fr0 FA.o)
   have RW:=J (zq aE.o.fl.2.2.2)
   have al:=@J (k<60) (by have:=ak.o.2.1;omega)
   clear hx hr hq
   have⟨K0,K1,K2,K3,K4⟩:=tZ5
   go_wp2_with ((first|((with_reducible refine zt ?_);first|(clear K0;refine zg rfl (z7 (ty:=57) rfl rfl R1.o uA rA (by rw[CL.o];exact vH)) ?_)|(clear K2;refine zg rfl (z7 (ty:=29) (cs:=jh pc pp ps) rfl rfl RW.o uW rW XY) ?_)|(clear K3;refine zg rfl (z7 (ty:=57) rfl rfl RN.o uA rA (by rw[CL.o];exact vH)) ?_))|((with_reducible refine zv ?_);clear K1;refine zi rfl (zj (w:=wr) (ty:=57) (cs:=cs) rfl rfl rfl (by rw[CL.o];rfl) (by rw[CL.o];exact vH) bG.o) ?_;generalize wr.heap.size=q7 at RN⊢;generalize wr.alloc (.cells cs.toArray 57)=w1 at*)|(clear K4;go_at_call 20;refine(zn5 HG.o aE.o.fl.1 (by have:=al.o;omega) (by omega) (by have:=aK.o;have:=al.o;omega) aL.o (aE.o.fl.keptQ QK.o)).mono ?_;rintro e O ⟨tv,lv,rfl,T5,X5,n5,-⟩;have V:=J (aE.o.next n5);clear n5));go_frame)
   go_roundw
   case rel=>exact⟨k+1,_,_,_,by go_num,by omega,V.o,by have:=(zjp A a).1;have:=aK.o;omega,λd hd=>((zjp A a).2 d hd).elim (aL.o d) (λe=>by rw[e];exact bE.o)⟩
   case measure=>simp[intOf];omega
  ·have i1:¬(k:Int)<(l.length:Int):=by omega
   have al:=@J (52+k≤112) (by have:=ak.o.2.1;omega)
   clear hk P
   go_wp2_with fail
   clear i1 bX aK aL ak
   generalize 52+k=NN at*
   have c2:=F.o.fl.cells.2.2
   have cp:=F.o.fl.cells.2.1
   have cs:=(KA.o _ F.o.bx).2.2.1
   have FD:=J ((frN wr).drew)
   have aJ:=@J (∀x∈zbt A.Q s,zY x) (λx hx=>by
    unfold zbt at hx
    split at hx
    ·exact F.o.fl.1.ids _ x hx
    ·cases hx)
   have aj:=J (ziX F.o.fl.1 s)
   have au:=J F.o.fl.1.pids
   have LP:=@J ((xt A.L).length≤32) (by unfold xt;rw[length_map];exact F.o.fl.1.facts.2.2.2.2.1)
   refine wrLx [ff,ff,ff,ff,tt,ff,ff,tt,ff,ff] (λW=>W.cell? ⟨N,2,none⟩=some (.pointer (some ⟨ps,0,none⟩))∧W.cell? ⟨N,1,none⟩=some (.pointer (some ⟨pp,0,none⟩))∧W.cell? ⟨c1,2,none⟩=some (.int .i64 s)) ?_ (λK hK=>?_)
   ·exact⟨FD.o.cell c2 id,FD.o.cell cp id,FD.o.cell cs id⟩
   repeat((first|(refine zl rfl ?_;constructor;constructor;(focus(rintro w' ⟨p,r,u⟩;exact goS)))|(refine zm rfl ?_));try simp only[Act.put,pA,pB,pC])
   (refine zF rfl (λK' hK'=>?_))
   go_simp
   refine(ziV (F.o.fl.fr0 FD.o).1 s).mono ?_
   rintro e O ⟨va,rfl,bw,bB,ax⟩
   obtain⟨xa,xc,bU⟩:=bw.2.form
   subst bU
   have ai:=J bB
   have F5:=J (FD.o.trans0 ax)
   clear bw bB ax
   refine nXt hK' ?_ λhS=>?_
   ·exact⟨F5.o.cell c2 id,F5.o.cell cp id,F5.o.cell cs id⟩
   try simp only[Act.put,pA,pB,pC]
   repeat((first|(refine zl rfl ?_;constructor;constructor;(focus(rintro w' ⟨p,r,u⟩;exact goS)))|(refine zm rfl ?_));try simp only[Act.put,pA,pB,pC])
   (refine zF rfl (λK' hK'=>?_))
   go_simp
   refine(zdN (F.o.fl.fr0 F5.o).1 (by have:=al.o;omega)).mono ?_
   rintro e U ⟨vp,rfl,aW,aR⟩
   obtain⟨xp,xq,bV⟩:=aW.slice.arg.form
   subst bV
   have aC:=J aW
   have FP:=J aR
   have F6:=J (F5.o.trans0 aR)
   clear aW aR
   refine nXt hK' ?_ λhS=>?_
   ·exact⟨F6.o.cell c2 id,F6.o.cell cp id,F6.o.cell cs id⟩
   try simp only[Act.put,pA,pB,pC]
   repeat((first|(refine zl rfl ?_;constructor;constructor;(focus(rintro w' ⟨p,r,u⟩;exact goS)))|(refine zm rfl ?_));try simp only[Act.put,pA,pB,pC])
   refine zL (hK.out _ _ ?_)
   clear c2 cp cs
   obtain⟨WS,aT⟩:∃l,l=zbt A.Q s:=⟨_,rfl⟩
   obtain⟨IN,aS⟩:∃l,l=xt A.L:=⟨_,rfl⟩
   rw[←aT] at ai aJ aj⊢
   rw[←aS] at aC au LP⊢
   have bd:=J aT
   have bH:=J aS
   clear aT aS
   have G:=@J (jw w U N pc pp ps T (λj=>X j∨(wr.heap.size≤j∧j<U.heap.size)) NN A c1 bx (.slice xa WS.length xc) (.slice xp IN.length xq) WS IN) ({F.o.wide F6.o with
     was:=⟨yU (zb ai.o FP.o (λ_ _=>id)) (zero_le _),λj M e=>by
      have h1:=(ai.o.lt j M).1
      have h2:=(F.o.fl.1.facts.1 j e).2.1
      have h3:=FD.o.size
      omega⟩
     wx:=λj M=>.inr ⟨by have h1:=(ai.o.lt j M).1;have h3:=FD.o.size;omega,by have h1:=(ai.o.lt j M).2;have h3:=FP.o.size;omega⟩
     wl:=λj M=>by
      have h1:=(ai.o.lt j M).1
      have h3:=FD.o.size
      have:=yF F.o.fl.2.2.2
      have:=F.o.l1
      omega
     inn:=⟨yU aC.o (zero_le _),λj M e=>by
      have h1:=(aC.o.lt j M).1
      have h2:=(F.o.fl.1.facts.1 j e).2.1
      have h3:=F5.o.size
      omega⟩})
   clear F ai aC FP F5 F6 FD
   have zR:=zlY
   have FA:=J ((frN U).alloc (.cells (QY RZ0).toArray 63))
   have OB:=J (yj U (.cells (QY RZ0).toArray 63))
   have LB:=@J (U.heap.size<(U.alloc (.cells (QY RZ0).toArray 63)).heap.size) (by simp)
   have af:=J (G.o.wide FA.o)
   have an:=@J (j9 T (λj=>(X j∨(wr.heap.size≤j∧j<U.heap.size))∨(U.heap.size≤j∧j<(U.alloc (.cells (QY RZ0).toArray 63)).heap.size)) (U.alloc (.cells (QY RZ0).toArray 63)) (U.alloc (.cells (QY RZ0).toArray 63)).heap.size U.heap.size RZ0 (ze5 A.Q 0)) (⟨OB.o,λi hi=>⟨by rw[zh9];exact World.ownsRow_nil _ _ _ _,λj h=>(by cases h)⟩,λi hi j h=>(by cases h),λi k hi hk bR j h=>(by cases h),.inr ⟨le_refl _,LB.o⟩,λe=>by have:=(G.o.fl.1.facts.1 _ e).2.1;omega,LB.o⟩)
   have NC:=@J (N≠U.heap.size∧c1≠U.heap.size∧(Value.slice xa WS.length xc).ownBlock≠some U.heap.size∧(Value.slice xp IN.length xq).ownBlock≠some U.heap.size) (⟨by have:=yF G.o.fl.2.2.2;omega,by have:=G.o.l1;omega,λe=>by have:=(G.o.was.1.lt _ e).2;omega,λe=>by have:=(G.o.inn.1.lt _ e).2;omega⟩)
   clear FA OB LB G
   have K0:=tru
   go_wp2_with ((with_reducible refine zt ?_);clear K0;refine zg rfl (yw rfl (zR _)) ?_;generalize U.heap.size=c8 at an NC af⊢;generalize U.alloc (.cells (QY RZ0).toArray 63)=w7 at an af⊢;go_frame)
   generalize (λj=>(X j∨(wr.heap.size≤j∧j<c8))∨(c8≤j∧j<w7.heap.size))=X7 at af an
   have BL:=J (le_refl w7.heap.size)
   generalize hB:w7.heap.size=B at an BL
   have a8:=@J (B≤w7.heap.size) (by omega)
   clear hB BL
   go_loopw [51] (λiv wr=>∃(k:Nat) (X:Nat→Prop) (R:Nat→Value),iv=.int .i64 k∧k≤65∧jw w wr N pc pp ps T X NN A c1 bx (.slice xa WS.length xc) (.slice xp IN.length xq) WS IN∧j9 T X wr B c8 R (ze5 A.Q k)∧B≤wr.heap.size) (λiv _=>65-(intOf iv).toNat)
   case atStart=>exact⟨0,_,_,rfl,zero_le _,af.o,an.o,a8.o⟩
   case round=>
    clear af an a8
    obtain⟨k,X,R,rfl,hk,aB,bC,aA⟩:=hrel
    rename World=>wr
    have F:=J aB
    have RW:=J bC
    have BL:=J aA
    clear aB bC aA
    by_cases P:k<65
    ·have i2:(k:Int)<65:=by omega
     have bW:k<65:=P
     have ae:=J P
     have c2:=F.o.fl.cells.2.2
     have K0:=tru
     go_wp2_with (clear K0;go_at_call 13;refine(zcy F.o.fl.1 ae.o).mono ?_;rintro e O ⟨av,rfl,L,f5⟩;have HO:=J L;have F5:=J f5;rw[Je] at L;obtain⟨aa,ac,Y⟩:=L.slice.arg.form;subst Y;have V:=J (F.o.wide f5);have aw:=J (RW.o.frB (X':=λj=>X j∨(wr.heap.size≤j∧j<O.heap.size)) f5 id (λ_ _ _ _=>id) (λ_ e=>.inl e));have fz:O.frozen? ⟨c8,k,none⟩=false:=yn aw.o.obj;have cz:=aw.o.cell ae.o;clear L f5 c2;go_frame)
     clear fz cz
     have bm:=J (aw.o.put (v:=.slice aa (A.Q k).length ac) ae.o (l:=yM (A.Q k)) ⟨yU HO.o BL.o,λj M e=>by have:=(HO.o.lt j M).1;have:=(F.o.fl.1.facts.1 j e).2.1;omega⟩ (λj M=>.inr ⟨(HO.o.lt j M).1,(HO.o.lt j M).2⟩) (λm hm bR j M e=>by have:=((RW.o.row m hm).1.lt j M).2;have:=(HO.o.lt j e).1;omega))
     rw[zh8] at bm
     have G:=J (V.o.set (o:=k) aw.o.cX aw.o.cT NC.o.1 NC.o.2.1 NC.o.2.2.1 NC.o.2.2.2 (.slice aa (A.Q k).length ac))
     have bF:=@J (B≤(O.setCell ⟨c8,k,none⟩ (.slice aa (A.Q k).length ac)).heap.size) (by
      have f:Fr (λj=>j=c8) O (O.setCell ⟨c8,k,none⟩ (.slice aa (A.Q k).length ac)):=(Fr.refl (λj=>j=c8) O).setCell ⟨c8,k,none⟩ (.inr rfl) _
      have:=f.size
      have:=F5.o.size
      have:=BL.o
      omega)
     go_roundw
     case rel=>exact⟨k+1,_,_,by go_num,by omega,G.o,bm.o,bF.o⟩
     case measure=>simp[intOf];omega
    ·have i2:¬(k:Int)<65:=by omega
     have br:k=65:=by omega
     rw[br] at RW
     clear br
     have c0:=F.o.fl.cells.1
     have cp:=F.o.fl.cells.2.1
     have c2:=F.o.fl.cells.2.2
     have cs:=(KA.o _ F.o.bx).2.2.1
     have RT:=J (KA.o _ F.o.bx).2.2.2
     clear hk P
     have⟨K0,K1⟩:=tZ2
     go_wp2_with ((first|((with_reducible refine zt ?_);clear K0;refine zoa rfl rfl rfl RT.o I.o ?_)|(clear K1;go_at_call 12;refine(YM (HG.o.keep0 F.o.fl.fr) F.o.fl.1 s (F.o.fl.kept HT.o)).mono ?_;rintro e w9 ⟨rfl,T9,X9,n9⟩;have bk:=J (F.o.next n9);have bn:=J (RW.o.next n9);clear n9));go_frame)
     clear c0 cp c2 cs F RW RT BL i2
     go_loopw [72] (λiv wr=>∃k:Nat,iv=.int .i64 k∧k≤65∧Fr No w9 wr) (λiv _=>65-(intOf iv).toNat)
     case atStart=>exact⟨0,rfl,zero_le _,Fr.refl _ _⟩
     case round=>
      obtain⟨k,rfl,hk,fr⟩:=hrel
      rename World=>wr
      have F:=J (bk.o.fr0 fr)
      have RW:=J (bn.o.fr0 fr)
      have FR:=J fr
      clear fr
      by_cases P:k<65
      ·have i2:(k:Int)<65:=by omega
       have bW:k<65:=P
       have ae:=J P
       have FD:=J ((frN wr).drew)
       have c:=J (F.o.fr0 FD.o)
       have bo:=J (RW.o.fr0 FD.o)
       have SD:=@J (∀W,Fr No wr.drew W→W.cell? ⟨c1,2,none⟩=some (.int .i64 s)∧W.cell? ⟨N,2,none⟩=some (.pointer (some ⟨ps,0,none⟩))∧W.cell? ⟨c8,k,none⟩=some (R k)) (λW f=>⟨(KA.o _ (c.o.fr0 f).bx).2.2.1,(c.o.fr0 f).fl.cells.2.2,(bo.o.fr0 f).cell ae.o⟩)
       have KE:=J (zjY A.Q ae.o)
       by_cases hs:(k:Int)=s
       ·have hb:((k:Int) !=s)=false:=by simpa using hs
        clear hs
        go_wp2_with fail
        refine wrLx [ff,ff,ff,ff,ff,ff,ff,ff,tt,ff,ff,ff,tt,ff,ff] (λW=>W.cell? ⟨c1,2,none⟩=some (.int .i64 s)∧W.cell? ⟨N,2,none⟩=some (.pointer (some ⟨ps,0,none⟩))∧W.cell? ⟨c8,k,none⟩=some (R k)) ?_ (λK hK=>?_)
        ·exact SD.o _ (Fr.refl _ _)
        repeat((first|(refine zl rfl ?_;constructor;constructor;(focus(rintro w' ⟨p,r,u⟩;exact goS)))|(refine zm rfl ?_));try simp only[Act.put,pA,pB,pC])
        refine zL (hK.out _ _ ?_)
        go_wp2_with fail
        go_roundw
        case rel=>exact⟨k+1,by go_num,by omega,FR.o.trans0 FD.o⟩
        case measure=>simp[intOf];omega
       ·have hb:((k:Int) !=s)=true:=by simpa using hs
        have KO:=J (zeM (A:=A) (t:=t) hs)
        clear hs
        have C4:=@J ((yM (A.Q k)).length≤4) (by rw[←KO.o,Je];exact(c.o.fl.1.facts.2.2.2.2.2.2 k).len)
        have aD:=J (c.o.fl.1.ids k)
        go_wp2_with fail
        refine wrLx [ff,ff,ff,ff,ff,ff,ff,ff,tt,ff,ff,ff,tt,ff,ff] (λW=>W.cell? ⟨c1,2,none⟩=some (.int .i64 s)∧W.cell? ⟨N,2,none⟩=some (.pointer (some ⟨ps,0,none⟩))∧W.cell? ⟨c8,k,none⟩=some (R k)) ?_ (λK hK=>?_)
        ·exact SD.o _ (Fr.refl _ _)
        repeat((first|(refine zl rfl ?_;constructor;constructor;(focus(rintro w' ⟨p,r,u⟩;exact goS)))|(refine zm rfl ?_));try simp only[Act.put,pA,pB,pC])
        (refine zF rfl (λK' hK'=>?_))
        go_simp
        refine(zcy c.o.fl.1 ae.o).mono ?_
        rintro e O ⟨av,rfl,L,f5⟩
        rw[KO.o] at L
        have IA:=@J (yP O av (yM (A.Q k))) (⟨λy hy=>aD.o y (by rw[KO.o];exact hy),L.slice.arg⟩)
        obtain⟨aa,ac,Y⟩:=L.slice.arg.form
        subst Y
        have F5:=J f5
        clear L f5
        refine nXt hK' ?_ λhS=>?_
        ·exact SD.o _ F5.o
        try simp only[Act.put,pA,pB,pC]
        repeat((first|(refine zl rfl ?_;constructor;constructor;(focus(rintro w' ⟨p,r,u⟩;exact goS)))|(refine zm rfl ?_));try simp only[Act.put,pA,pB,pC])
        have IB:=@J (yP O (R k) (yM (A.Q k))) (by
         have:=((bo.o.fr0 F5.o).row k ae.o).1
         rw[KE.o] at this
         exact⟨IA.o.1,this.slice.arg⟩)
        (refine zF rfl (λK' hK'=>?_))
        go_simp
        refine(Jt O IA.o IB.o (by have:=C4.o;omega) (by have:=C4.o;omega)).mono ?_
        rintro e b0 ⟨b,rfl,H,f6⟩
        obtain rfl:b=true:=H.2 rfl
        have F6:=J (F5.o.trans0 f6)
        clear H f6
        refine nXt hK' ?_ λhS=>?_
        ·exact SD.o _ F6.o
        try simp only[Act.put,pA,pB,pC]
        repeat((first|(refine zl rfl ?_;constructor;constructor;(focus(rintro w' ⟨p,r,u⟩;exact goS)))|(refine zm rfl ?_));try simp only[Act.put,pA,pB,pC])
        refine zL (hK.out _ _ ?_)
        go_wp2_with fail
        go_roundw
        case rel=>exact⟨k+1,by go_num,by omega,FR.o.trans0 (FD.o.trans0 F6.o)⟩
        case measure=>simp[intOf];omega
      ·have i2:¬(k:Int)<65:=by omega
       clear hk P
       have cp:=F.o.fl.cells.2.1
       have bl:=@J (xt (qE A s t).L=IN) (by rw[zk8];exact bH.o.symm)
       clear RW bn bk FR
       by_cases he:vz A s t=0
       ·obtain⟨n,hn,bS,aV,aX,bt⟩:=zjL he
        subst bS
        rw[he]
        clear he
        have HN:=J hn
        have bh:=J bt
        have CK:=@J (idE t=0) (by unfold idE;rw[if_pos (Jl aV).1])
        have QN:=@J (yM ((qE A n t).Q n)=WS++[idH t]) (by
         rw[aX,bd.o]
         unfold zbt yM
         rw[if_pos (by omega),Int.toNat_natCast,List.map_append]
         rfl)
        obtain⟨WX,ay⟩:∃l,l=WS++[idH t]:=⟨_,rfl⟩
        rw[←ay] at QN
        have bf:=J ay
        have aG:=@J (WX.length≤5) (by rw[ay];have:=aj.o;simp;omega)
        have aD:=@J (∀x∈WX,zY x) (λx hx=>by rw[ay] at hx;exact(mem_append.1 hx).elim (aJ.o x) (λh=>by rw[mem_singleton.1 h];exact qC t))
        clear ay
        have GE:=@J ((⟨idH t,t⟩:StE)∈(qE A n t).Q n) (by rw[aX];simp)
        have I8:=J (yZ.1 (Jl aV).1)
        have XL:=J (zx (qC t))
        clear hn aV aX bt
        have⟨K0,K1,K2,K3,K4,K5,K6,K7⟩:=tZ8
        go_upto_region 31 with((first|(clear K0;go_at_call 25;refine(zdN F.o.fl.1 (by have:=al.o;omega)).mono ?_;rintro e O ⟨av,rfl,L,f5⟩;rw[bl.o] at L;have IP:=@J (yP O av IN) (⟨au.o,L.slice.arg⟩);obtain⟨aa,ac,Y⟩:=L.slice.arg.form;subst Y;have V:=J (F.o.fr0 f5);clear L f5 cp)|(clear K1;go_at_call 18;refine(Jt O IP.o (show yP O _ IN from⟨au.o,V.o.inn.1.slice.arg⟩) (by have:=LP.o;omega) (by have:=LP.o;omega)).mono ?_;rintro e U ⟨b,rfl,H,f6⟩;obtain rfl:b=true:=H.2 rfl;have G:=J (V.o.fr0 f6);have bM:=J (KA.o _ G.o.bx).2.2.2;clear H f6)|(clear K3;go_at_call 15;refine(Xq (HG.o.keep0 G.o.fl.fr) (HT.o.keep G.o.fl.fr)).mono ?_;rintro e w8 ⟨rfl,f8⟩;rw[CK.o];have ar:=J (G.o.fr0 f8);clear f8)|(clear K6;go_at_call 30;refine(znQ aF.o.fl.1 HN.o GE.o).mono ?_;rintro e' wg ⟨ts,rfl,fg,bz⟩;have bj:=J (bz No (λ_ h=>h.elim));obtain⟨ja,jc,ka,kc,rfl⟩:=bj.o.now.form;have aQ:=J (aF.o.fr0 fg);have bL:=J (za RI.o fg id);clear fg bz c2 cs)|((with_reducible refine zt ?_);first|(clear K2;refine zoa rfl rfl rfl bM.o I.o ?_)|(clear K5;refine zoc rfl rfl rfl RI.o XL.o ?_))|((with_reducible refine zv ?_);first|(clear K4;refine zol (w:=w8) (cs:=zf (idH t)) rfl rfl rfl rfl XL.o zU ?_;have RI:=J (zy w8 (zf (idH t)) 41);have FI:=J ((frN w8).alloc (.cells (zf (idH t)).toArray 41));generalize aH:w8.heap.size=ag at RI⊢;have ba:=J aH;clear aH;generalize w8.alloc (.cells (zf (idH t)).toArray 41)=wi at*;have aF:=J (ar.o.fr0 FI.o);have c2:=aF.o.fl.cells.2.2;have cs:=(KA.o _ aF.o.bx).2.2.1)|(clear K7;refine zi rfl (zj (w:=wg) (ty:=34) (cs:=[.int .u32 t.ver,.slice ja t.ins.length jc,.slice ka t.outs.length kc]) rfl rfl rfl rfl y5 (qM rfl rfl rfl)) ?_;have RG:=J (qW wg t.ver (.slice ja t.ins.length jc) (.slice ka t.outs.length kc)).2.2.2;have FT:=J ((frN wg).alloc (.cells #[.int .u32 t.ver,.slice ja t.ins.length jc,.slice ka t.outs.length kc] 34));generalize aI:wg.heap.size=ah at RG⊢;have bc:=J aI;clear aI;generalize wg.alloc (.cells #[.int .u32 t.ver,.slice ja t.ins.length jc,.slice ka t.outs.length kc] 34)=wf at*)));go_frame)
        have FD:=J (FT.o.trans0 (frN wf).drew)
        have c:=J (aQ.o.fr0 FD.o)
        have bN:=J (bj.o.same FD.o).now
        have ao:=@J (∀j,(Value.slice xa WS.length xc).ownBlock=some j→j≠ag∧j≠ah∧j≠c1∧j≠N) (λj M=>⟨by
         have:=(ar.o.was.1.lt j M).2
         have:=ba.o
         omega,by
         have:=(aQ.o.was.1.lt j M).2
         have:=bc.o
         omega,by have:=(c.o.wl j M).2;omega,by have:=(c.o.wl j M).1;omega⟩)
        have bq:=@J (∀j,j=c1∨j=ag∨j=ah→¬T9 j) (λj M e=>by
         rcases M with rfl|rfl|rfl
         ·exact c.o.t1 e
         ·have:=(ar.o.fl.1.facts.1 _ e).2.1
          have:=ba.o
          omega
         ·have:=(aQ.o.fl.1.facts.1 _ e).2.1
          have:=bc.o
          omega)
        have bK:=J (za bL.o FD.o id)
        have bJ:=J (za RG.o (frN wf).drew id)
        have SD:=@J (∀W,Fr (λj=>(Value.slice xa WS.length xc).ownBlock=some j) wf.drew W→W.rangeAt ah 0 [.int .u32 t.ver,.slice ja t.ins.length jc,.slice ka t.outs.length kc]∧W.rangeAt c1 3 Q∧W.rangeAt ag 0 (zf (idH t))∧W.cell? ⟨c1,2,none⟩=some (.int .i64 n)∧W.cell? ⟨N,2,none⟩=some (.pointer (some ⟨ps,0,none⟩))∧W.cell? ⟨N,1,none⟩=some (.pointer (some ⟨pp,0,none⟩))∧W.cell? ⟨N,0,none⟩=some (.pointer (some ⟨pc,0,none⟩))) (λW f=>
         have hb:W.rangeAt c1 0 bx:=za c.o.bx f (λe=>(ao.o _ e).2.2.1 rfl)
         ⟨za bJ.o f (λe=>(ao.o _ e).2.1 rfl),(KA.o _ hb).2.2.2,za bK.o f (λe=>(ao.o _ e).1 rfl),(KA.o _ hb).2.2.1,f.cell c.o.fl.cells.2.2 (λe=>(ao.o _ e).2.2.2 rfl),f.cell c.o.fl.cells.2.1 (λe=>(ao.o _ e).2.2.2 rfl),f.cell c.o.fl.cells.1 (λe=>(ao.o _ e).2.2.2 rfl)⟩)
        refine vQ 34 [0,1,2,3,4,5,6,7,8,9,10,11,12,13,14,15,16,17,18,19,20,21,22,23,24,25,26,27,28,29,30,31,32,33] (λW=>W.rangeAt ah 0 [.int .u32 t.ver,.slice ja t.ins.length jc,.slice ka t.outs.length kc]∧W.rangeAt c1 3 Q∧W.rangeAt ag 0 (zf (idH t))∧W.cell? ⟨c1,2,none⟩=some (.int .i64 n)∧W.cell? ⟨N,2,none⟩=some (.pointer (some ⟨ps,0,none⟩))∧W.cell? ⟨N,1,none⟩=some (.pointer (some ⟨pp,0,none⟩))∧W.cell? ⟨N,0,none⟩=some (.pointer (some ⟨pc,0,none⟩))) (by kernel_rfl) (by kernel_rfl) (by kernel_rfl) (by kernel_rfl) ?_ (λK hK=>?_)
        ·exact SD.o _ (Fr.refl _ _)
        (((first|(refine zV 0 (by kernel_rfl) rfl rfl ?_;apply Exists.intro;refine⟨?_,?_⟩;(focus(first|exact zoh rfl (λw h=>h.1) rfl|exact zoh rfl (λw h=>h.2.1) I.o|(intro w' hS;obtain⟨z,p,r,u,C,D,E⟩:=hS;exact goS))))|(refine zW 0 (by kernel_rfl) rfl rfl ?_));try simp only[Act.put,pA,pB,pC]);((first|(refine zV 1 (by kernel_rfl) rfl rfl ?_;apply Exists.intro;refine⟨?_,?_⟩;(focus(first|exact zoh rfl (λw h=>h.1) rfl|exact zoh rfl (λw h=>h.2.1) I.o|(intro w' hS;obtain⟨z,p,r,u,C,D,E⟩:=hS;exact goS))))|(refine zW 1 (by kernel_rfl) rfl rfl ?_));try simp only[Act.put,pA,pB,pC]);((first|(refine zV 2 (by kernel_rfl) rfl rfl ?_;apply Exists.intro;refine⟨?_,?_⟩;(focus(first|exact zoh rfl (λw h=>h.1) rfl|exact zoh rfl (λw h=>h.2.1) I.o|(intro w' hS;obtain⟨z,p,r,u,C,D,E⟩:=hS;exact goS))))|(refine zW 2 (by kernel_rfl) rfl rfl ?_));try simp only[Act.put,pA,pB,pC]);((first|(refine zV 3 (by kernel_rfl) rfl rfl ?_;apply Exists.intro;refine⟨?_,?_⟩;(focus(first|exact zoh rfl (λw h=>h.1) rfl|exact zoh rfl (λw h=>h.2.1) I.o|(intro w' hS;obtain⟨z,p,r,u,C,D,E⟩:=hS;exact goS))))|(refine zW 3 (by kernel_rfl) rfl rfl ?_));try simp only[Act.put,pA,pB,pC]);((first|(refine zV 4 (by kernel_rfl) rfl rfl ?_;apply Exists.intro;refine⟨?_,?_⟩;(focus(first|exact zoh rfl (λw h=>h.1) rfl|exact zoh rfl (λw h=>h.2.1) I.o|(intro w' hS;obtain⟨z,p,r,u,C,D,E⟩:=hS;exact goS))))|(refine zW 4 (by kernel_rfl) rfl rfl ?_));try simp only[Act.put,pA,pB,pC]))
        refine yE 5 (by kernel_rfl) rfl rfl (λK' hK'=>?_)
        go_simp
        refine(zdb _ bN.o (HT.o.keep c.o.fl.fr) (by show t.ins.length≤1000;have:=I8.o.2.1;omega) (by show t.outs.length≤1000;have:=I8.o.2.2;omega)).mono ?_
        rintro e wa ⟨rfl,ax⟩
        have FA:=@J (Fr No wf.drew wa) (ax)
        clear ax
        refine nXt hK' ?_ λhS=>?_
        ·exact SD.o _ FA.o.of0
        try simp only[Act.put,pA,pB,pC]
        clear hS hK' K'
        (((first|(refine zV 6 (by kernel_rfl) rfl rfl ?_;apply Exists.intro;refine⟨?_,?_⟩;(focus(first|exact zog rfl (λw h=>h.2.2.1) XL.o|(intro w' hS;obtain⟨z,p,r,u,C,D,E⟩:=hS;exact goS))))|(refine zW 6 (by kernel_rfl) rfl rfl ?_));try simp only[Act.put,pA,pB,pC]);((first|(refine zV 7 (by kernel_rfl) rfl rfl ?_;apply Exists.intro;refine⟨?_,?_⟩;(focus(first|exact zog rfl (λw h=>h.2.2.1) XL.o|(intro w' hS;obtain⟨z,p,r,u,C,D,E⟩:=hS;exact goS))))|(refine zW 7 (by kernel_rfl) rfl rfl ?_));try simp only[Act.put,pA,pB,pC]);((first|(refine zV 8 (by kernel_rfl) rfl rfl ?_;apply Exists.intro;refine⟨?_,?_⟩;(focus(first|exact zog rfl (λw h=>h.2.2.1) XL.o|(intro w' hS;obtain⟨z,p,r,u,C,D,E⟩:=hS;exact goS))))|(refine zW 8 (by kernel_rfl) rfl rfl ?_));try simp only[Act.put,pA,pB,pC]);((first|(refine zV 9 (by kernel_rfl) rfl rfl ?_;apply Exists.intro;refine⟨?_,?_⟩;(focus(first|exact zog rfl (λw h=>h.2.2.1) XL.o|(intro w' hS;obtain⟨z,p,r,u,C,D,E⟩:=hS;exact goS))))|(refine zW 9 (by kernel_rfl) rfl rfl ?_));try simp only[Act.put,pA,pB,pC]);((first|(refine zV 10 (by kernel_rfl) rfl rfl ?_;apply Exists.intro;refine⟨?_,?_⟩;(focus(first|exact zog rfl (λw h=>h.2.2.1) XL.o|(intro w' hS;obtain⟨z,p,r,u,C,D,E⟩:=hS;exact goS))))|(refine zW 10 (by kernel_rfl) rfl rfl ?_));try simp only[Act.put,pA,pB,pC]);((first|(refine zV 11 (by kernel_rfl) rfl rfl ?_;apply Exists.intro;refine⟨?_,?_⟩;(focus(first|exact zog rfl (λw h=>h.2.2.1) XL.o|(intro w' hS;obtain⟨z,p,r,u,C,D,E⟩:=hS;exact goS))))|(refine zW 11 (by kernel_rfl) rfl rfl ?_));try simp only[Act.put,pA,pB,pC]);((first|(refine zV 13 (by kernel_rfl) rfl rfl ?_;apply Exists.intro;refine⟨?_,?_⟩;(focus(first|exact zog rfl (λw h=>h.2.2.1) XL.o|(intro w' hS;obtain⟨z,p,r,u,C,D,E⟩:=hS;exact goS))))|(refine zW 13 (by kernel_rfl) rfl rfl ?_));try simp only[Act.put,pA,pB,pC]);((first|(refine zV 14 (by kernel_rfl) rfl rfl ?_;apply Exists.intro;refine⟨?_,?_⟩;(focus(first|exact zog rfl (λw h=>h.2.2.1) XL.o|(intro w' hS;obtain⟨z,p,r,u,C,D,E⟩:=hS;exact goS))))|(refine zW 14 (by kernel_rfl) rfl rfl ?_));try simp only[Act.put,pA,pB,pC]))
        refine J0 12 15 (by kernel_rfl) rfl rfl rfl rfl (λK' hK'=>?_) (λK' hK'=>?_)
        ·go_simp
         refine(zcy (c.o.fl.fr0 FA.o).1 HN.o).mono ?_
         rintro e wy ⟨va,rfl,L,fy⟩
         rw[QN.o] at L
         obtain⟨xe,xf,aZ⟩:=L.slice.arg.form
         subst aZ
         have FY:=J (FA.o.trans0 fy)
         refine nXt hK' ?_ λhS=>?_
         ·exact SD.o _ FY.o.of0
         try simp only[Act.put,pA,pB,pC]
         clear hS hK' K'
         refine yE 15 (by kernel_rfl) rfl rfl (λK' hK'=>?_)
         refine yg (zS (t:=38) (cs:=zf (idH t)) rfl rfl xP qK rfl (by decide) (by decide) XL.o) ?_
         have fz:=(frN wy).alloc (.cells (zf (idH t)).toArray 41)
         have FZ:=J (FY.o.trans0 fz)
         have I1:=J (zbI wy (qC t))
         have HO:=J (yU (zb L fz (λ_ _=>id)) FA.o.size)
         have IA:=@J (yP (wy.alloc (.cells (zf (idH t)).toArray 41)) _ WX) (⟨aD.o,HO.o.slice.arg⟩)
         clear L fy fz
         refine nXt hK' ?_ λhS=>?_
         ·exact SD.o _ FZ.o.of0
         try simp only[Act.put,pA,pB,pC]
         clear hS hK' K'
         generalize wy.alloc (.cells (zf (idH t)).toArray 41)=wz at*
         generalize wy.heap.size=a6 at*
         have aq:=Vd (B:=0) (x:=.slice (some ⟨a6,0,none⟩) 1 1) wz (zb c.o.was.1 FZ.o (λ_ _=>id)) I1.o (by have:=aj.o;simp;omega) (zero_le _) (by intro h;cases h)
         obtain⟨vb,wb,az,Z,fb⟩:=aq
         rw[←bf.o] at Z
         have aM:=J az
         have FB:=J (FZ.o.of0.trans fb (λ_ _ h=>h))
         obtain⟨xb,xd,aY⟩:=Z.slice.arg.form
         subst aY
         have aN:=@J (yP wb _ WX) (⟨IA.o.1,(zb HO.o fb (λj M e=>by have:=(HO.o.lt j M).1;have:=(c.o.was.1.lt j e).2;omega)).slice.arg⟩)
         have aO:=@J (yP wb _ WX) (⟨IA.o.1,Z.slice.arg⟩)
         clear az Z fb
         refine yE 16 (by kernel_rfl) rfl rfl (λK' hK'=>?_)
         refine yr rfl rfl rfl aM.o ?_
         refine nXt hK' ?_ λhS=>?_
         ·exact SD.o _ FB.o
         try simp only[Act.put,pA,pB,pC]
         clear hS hK' K'
         refine yE 17 (by kernel_rfl) rfl rfl (λK' hK'=>?_)
         go_simp
         refine(Jt wb aN.o aO.o (by have:=aG.o;omega) (by have:=aG.o;omega)).mono ?_
         rintro e wc ⟨b,rfl,H,fc⟩
         obtain rfl:b=true:=H.2 rfl
         have FC:=J (FB.o.trans fc.of0 (λ_ _ h=>h))
         clear H fc
         refine nXt hK' ?_ λhS=>?_
         ·exact SD.o _ FC.o
         try simp only[Act.put,pA,pB,pC]
         clear hS hK' K'
         (((first|(refine zV 18 (by kernel_rfl) rfl rfl ?_;apply Exists.intro;refine⟨?_,?_⟩;(focus(first|exact zoh rfl (λw h=>h.2.1) I.o|(intro w' hS;obtain⟨z,p,r,u,C,D,E⟩:=hS;exact goS))))|(refine zW 18 (by kernel_rfl) rfl rfl ?_));try simp only[Act.put,pA,pB,pC]);((first|(refine zV 19 (by kernel_rfl) rfl rfl ?_;apply Exists.intro;refine⟨?_,?_⟩;(focus(first|exact zoh rfl (λw h=>h.2.1) I.o|(intro w' hS;obtain⟨z,p,r,u,C,D,E⟩:=hS;exact goS))))|(refine zW 19 (by kernel_rfl) rfl rfl ?_));try simp only[Act.put,pA,pB,pC]);((first|(refine zV 20 (by kernel_rfl) rfl rfl ?_;apply Exists.intro;refine⟨?_,?_⟩;(focus(first|exact zoh rfl (λw h=>h.2.1) I.o|(intro w' hS;obtain⟨z,p,r,u,C,D,E⟩:=hS;exact goS))))|(refine zW 20 (by kernel_rfl) rfl rfl ?_));try simp only[Act.put,pA,pB,pC]);((first|(refine zV 21 (by kernel_rfl) rfl rfl ?_;apply Exists.intro;refine⟨?_,?_⟩;(focus(first|exact zoh rfl (λw h=>h.2.1) I.o|(intro w' hS;obtain⟨z,p,r,u,C,D,E⟩:=hS;exact goS))))|(refine zW 21 (by kernel_rfl) rfl rfl ?_));try simp only[Act.put,pA,pB,pC]);((first|(refine zV 22 (by kernel_rfl) rfl rfl ?_;apply Exists.intro;refine⟨?_,?_⟩;(focus(first|exact zoh rfl (λw h=>h.2.1) I.o|(intro w' hS;obtain⟨z,p,r,u,C,D,E⟩:=hS;exact goS))))|(refine zW 22 (by kernel_rfl) rfl rfl ?_));try simp only[Act.put,pA,pB,pC]);((first|(refine zV 23 (by kernel_rfl) rfl rfl ?_;apply Exists.intro;refine⟨?_,?_⟩;(focus(first|exact zoh rfl (λw h=>h.2.1) I.o|(intro w' hS;obtain⟨z,p,r,u,C,D,E⟩:=hS;exact goS))))|(refine zW 23 (by kernel_rfl) rfl rfl ?_));try simp only[Act.put,pA,pB,pC]);((first|(refine zV 24 (by kernel_rfl) rfl rfl ?_;apply Exists.intro;refine⟨?_,?_⟩;(focus(first|exact zoh rfl (λw h=>h.2.1) I.o|(intro w' hS;obtain⟨z,p,r,u,C,D,E⟩:=hS;exact goS))))|(refine zW 24 (by kernel_rfl) rfl rfl ?_));try simp only[Act.put,pA,pB,pC]);((first|(refine zV 25 (by kernel_rfl) rfl rfl ?_;apply Exists.intro;refine⟨?_,?_⟩;(focus(first|exact zoh rfl (λw h=>h.2.1) I.o|(intro w' hS;obtain⟨z,p,r,u,C,D,E⟩:=hS;exact goS))))|(refine zW 25 (by kernel_rfl) rfl rfl ?_));try simp only[Act.put,pA,pB,pC]);((first|(refine zV 26 (by kernel_rfl) rfl rfl ?_;apply Exists.intro;refine⟨?_,?_⟩;(focus(first|exact zoh rfl (λw h=>h.2.1) I.o|(intro w' hS;obtain⟨z,p,r,u,C,D,E⟩:=hS;exact goS))))|(refine zW 26 (by kernel_rfl) rfl rfl ?_));try simp only[Act.put,pA,pB,pC]);((first|(refine zV 27 (by kernel_rfl) rfl rfl ?_;apply Exists.intro;refine⟨?_,?_⟩;(focus(first|exact zoh rfl (λw h=>h.2.1) I.o|(intro w' hS;obtain⟨z,p,r,u,C,D,E⟩:=hS;exact goS))))|(refine zW 27 (by kernel_rfl) rfl rfl ?_));try simp only[Act.put,pA,pB,pC]);((first|(refine zV 28 (by kernel_rfl) rfl rfl ?_;apply Exists.intro;refine⟨?_,?_⟩;(focus(first|exact zoh rfl (λw h=>h.2.1) I.o|(intro w' hS;obtain⟨z,p,r,u,C,D,E⟩:=hS;exact goS))))|(refine zW 28 (by kernel_rfl) rfl rfl ?_));try simp only[Act.put,pA,pB,pC]);((first|(refine zV 29 (by kernel_rfl) rfl rfl ?_;apply Exists.intro;refine⟨?_,?_⟩;(focus(first|exact zoh rfl (λw h=>h.2.1) I.o|(intro w' hS;obtain⟨z,p,r,u,C,D,E⟩:=hS;exact goS))))|(refine zW 29 (by kernel_rfl) rfl rfl ?_));try simp only[Act.put,pA,pB,pC]))
         have KP:=J (c.o.app FC.o)
         have KE:=YM (HG.o.keep0 KP.o.1.fr) KP.o.1.1 (n:Int) (KP.o.1.kept HT.o)
         rw[bh.o] at KE
         refine yE 30 (by kernel_rfl) rfl rfl (λK' hK'=>?_)
         go_simp
         refine KE.mono ?_
         rintro e wd ⟨rfl,Td,Xd,nd⟩
         have FF:=J (KP.o.1.next nd).fr
         have SF:=@J (wd.rangeAt ah 0 [.int .u32 t.ver,.slice ja t.ins.length jc,.slice ka t.outs.length kc]∧wd.rangeAt c1 3 Q∧wd.rangeAt ag 0 (zf (idH t))∧wd.cell? ⟨c1,2,none⟩=some (.int .i64 n)∧wd.cell? ⟨N,2,none⟩=some (.pointer (some ⟨ps,0,none⟩))∧wd.cell? ⟨N,1,none⟩=some (.pointer (some ⟨pp,0,none⟩))∧wd.cell? ⟨N,0,none⟩=some (.pointer (some ⟨pc,0,none⟩))) (by
          have h:=SD.o _ FC.o
          have a1:∀j,j=c1∨j=ag∨j=ah→¬T9 j:=bq.o
          have a7:¬T9 N:=c.o.fl.2.2.1
          exact⟨za h.1 nd.fr (a1 _ (.inr (.inr rfl))),za h.2.1 nd.fr (a1 _ (.inl rfl)),za h.2.2.1 nd.fr (a1 _ (.inr (.inl rfl))),nd.fr.cell h.2.2.2.1 (a1 _ (.inl rfl)),nd.fr.cell h.2.2.2.2.1 a7,nd.fr.cell h.2.2.2.2.2.1 a7,nd.fr.cell h.2.2.2.2.2.2 a7⟩)
         clear nd
         refine nXt hK' ?_ λhS=>?_
         ·exact SF.o
         try simp only[Act.put,pA,pB,pC]
         clear hS hK' K'
         (((first|(refine zV 31 (by kernel_rfl) rfl rfl ?_;apply Exists.intro;refine⟨?_,?_⟩;(focus(first|(intro w' hS;obtain⟨z,p,r,u,C,D,E⟩:=hS;exact goS))))|(refine zW 31 (by kernel_rfl) rfl rfl ?_));try simp only[Act.put,pA,pB,pC]);((first|(refine zV 32 (by kernel_rfl) rfl rfl ?_;apply Exists.intro;refine⟨?_,?_⟩;(focus(first|(intro w' hS;obtain⟨z,p,r,u,C,D,E⟩:=hS;exact goS))))|(refine zW 32 (by kernel_rfl) rfl rfl ?_));try simp only[Act.put,pA,pB,pC]);((first|(refine zV 33 (by kernel_rfl) rfl rfl ?_;apply Exists.intro;refine⟨?_,?_⟩;(focus(first|(intro w' hS;obtain⟨z,p,r,u,C,D,E⟩:=hS;exact goS))))|(refine zW 33 (by kernel_rfl) rfl rfl ?_));try simp only[Act.put,pA,pB,pC]))
         refine vn (hK.out _ _ ?_)
         go_wp2_with fail
         go_ret
         exact⟨rfl,FF.o⟩
        ·refine yg (zS (t:=38) (cs:=zf (idH t)) rfl rfl xP qK rfl (by decide) (by decide) XL.o) ?_
         have fz:=(frN wa).alloc (.cells (zf (idH t)).toArray 41)
         have FY:=J (FA.o.trans0 fz)
         have I0:=J (zbI wa (qC t))
         refine nXt hK' ?_ λhS=>?_
         ·exact SD.o _ FY.o.of0
         try simp only[Act.put,pA,pB,pC]
         clear hS hK' K'
         generalize wa.alloc (.cells (zf (idH t)).toArray 41)=wy at*
         generalize wa.heap.size=a6 at*
         clear fz
         refine yE 12 (by kernel_rfl) rfl rfl (λK' hK'=>?_)
         go_simp
         refine(zcy (c.o.fl.fr0 FY.o).1 HN.o).mono ?_
         rintro e wz ⟨va,rfl,L,fz⟩
         rw[QN.o] at L
         obtain⟨xe,xf,aZ⟩:=L.slice.arg.form
         subst aZ
         have FZ:=J (FY.o.trans0 fz)
         have I1:=J (I0.o.keep fz)
         have HO:=J (yU L FY.o.size)
         have IA:=@J (yP wz _ WX) (⟨aD.o,L.slice.arg⟩)
         clear L fz
         refine nXt hK' ?_ λhS=>?_
         ·exact SD.o _ FZ.o.of0
         try simp only[Act.put,pA,pB,pC]
         clear hS hK' K'
         have aq:=Vd (B:=0) (x:=.slice (some ⟨a6,0,none⟩) 1 1) wz (zb c.o.was.1 FZ.o (λ_ _=>id)) I1.o (by have:=aj.o;simp;omega) (zero_le _) (by intro h;cases h)
         obtain⟨vb,wb,az,Z,fb⟩:=aq
         rw[←bf.o] at Z
         have aM:=J az
         have FB:=J (FZ.o.of0.trans fb (λ_ _ h=>h))
         obtain⟨xb,xd,aY⟩:=Z.slice.arg.form
         subst aY
         have aN:=@J (yP wb _ WX) (⟨IA.o.1,(zb HO.o fb (λj M e=>by have:=(HO.o.lt j M).1;have:=(c.o.was.1.lt j e).2;omega)).slice.arg⟩)
         have aO:=@J (yP wb _ WX) (⟨IA.o.1,Z.slice.arg⟩)
         clear az Z fb
         refine yE 16 (by kernel_rfl) rfl rfl (λK' hK'=>?_)
         refine yr rfl rfl rfl aM.o ?_
         refine nXt hK' ?_ λhS=>?_
         ·exact SD.o _ FB.o
         try simp only[Act.put,pA,pB,pC]
         clear hS hK' K'
         refine yE 17 (by kernel_rfl) rfl rfl (λK' hK'=>?_)
         go_simp
         refine(Jt wb aN.o aO.o (by have:=aG.o;omega) (by have:=aG.o;omega)).mono ?_
         rintro e wc ⟨b,rfl,H,fc⟩
         obtain rfl:b=true:=H.2 rfl
         have FC:=J (FB.o.trans fc.of0 (λ_ _ h=>h))
         clear H fc
         refine nXt hK' ?_ λhS=>?_
         ·exact SD.o _ FC.o
         try simp only[Act.put,pA,pB,pC]
         clear hS hK' K'
         (((first|(refine zV 18 (by kernel_rfl) rfl rfl ?_;apply Exists.intro;refine⟨?_,?_⟩;(focus(first|exact zoh rfl (λw h=>h.2.1) I.o|(intro w' hS;obtain⟨z,p,r,u,C,D,E⟩:=hS;exact goS))))|(refine zW 18 (by kernel_rfl) rfl rfl ?_));try simp only[Act.put,pA,pB,pC]);((first|(refine zV 19 (by kernel_rfl) rfl rfl ?_;apply Exists.intro;refine⟨?_,?_⟩;(focus(first|exact zoh rfl (λw h=>h.2.1) I.o|(intro w' hS;obtain⟨z,p,r,u,C,D,E⟩:=hS;exact goS))))|(refine zW 19 (by kernel_rfl) rfl rfl ?_));try simp only[Act.put,pA,pB,pC]);((first|(refine zV 20 (by kernel_rfl) rfl rfl ?_;apply Exists.intro;refine⟨?_,?_⟩;(focus(first|exact zoh rfl (λw h=>h.2.1) I.o|(intro w' hS;obtain⟨z,p,r,u,C,D,E⟩:=hS;exact goS))))|(refine zW 20 (by kernel_rfl) rfl rfl ?_));try simp only[Act.put,pA,pB,pC]);((first|(refine zV 21 (by kernel_rfl) rfl rfl ?_;apply Exists.intro;refine⟨?_,?_⟩;(focus(first|exact zoh rfl (λw h=>h.2.1) I.o|(intro w' hS;obtain⟨z,p,r,u,C,D,E⟩:=hS;exact goS))))|(refine zW 21 (by kernel_rfl) rfl rfl ?_));try simp only[Act.put,pA,pB,pC]);((first|(refine zV 22 (by kernel_rfl) rfl rfl ?_;apply Exists.intro;refine⟨?_,?_⟩;(focus(first|exact zoh rfl (λw h=>h.2.1) I.o|(intro w' hS;obtain⟨z,p,r,u,C,D,E⟩:=hS;exact goS))))|(refine zW 22 (by kernel_rfl) rfl rfl ?_));try simp only[Act.put,pA,pB,pC]);((first|(refine zV 23 (by kernel_rfl) rfl rfl ?_;apply Exists.intro;refine⟨?_,?_⟩;(focus(first|exact zoh rfl (λw h=>h.2.1) I.o|(intro w' hS;obtain⟨z,p,r,u,C,D,E⟩:=hS;exact goS))))|(refine zW 23 (by kernel_rfl) rfl rfl ?_));try simp only[Act.put,pA,pB,pC]);((first|(refine zV 24 (by kernel_rfl) rfl rfl ?_;apply Exists.intro;refine⟨?_,?_⟩;(focus(first|exact zoh rfl (λw h=>h.2.1) I.o|(intro w' hS;obtain⟨z,p,r,u,C,D,E⟩:=hS;exact goS))))|(refine zW 24 (by kernel_rfl) rfl rfl ?_));try simp only[Act.put,pA,pB,pC]);((first|(refine zV 25 (by kernel_rfl) rfl rfl ?_;apply Exists.intro;refine⟨?_,?_⟩;(focus(first|exact zoh rfl (λw h=>h.2.1) I.o|(intro w' hS;obtain⟨z,p,r,u,C,D,E⟩:=hS;exact goS))))|(refine zW 25 (by kernel_rfl) rfl rfl ?_));try simp only[Act.put,pA,pB,pC]);((first|(refine zV 26 (by kernel_rfl) rfl rfl ?_;apply Exists.intro;refine⟨?_,?_⟩;(focus(first|exact zoh rfl (λw h=>h.2.1) I.o|(intro w' hS;obtain⟨z,p,r,u,C,D,E⟩:=hS;exact goS))))|(refine zW 26 (by kernel_rfl) rfl rfl ?_));try simp only[Act.put,pA,pB,pC]);((first|(refine zV 27 (by kernel_rfl) rfl rfl ?_;apply Exists.intro;refine⟨?_,?_⟩;(focus(first|exact zoh rfl (λw h=>h.2.1) I.o|(intro w' hS;obtain⟨z,p,r,u,C,D,E⟩:=hS;exact goS))))|(refine zW 27 (by kernel_rfl) rfl rfl ?_));try simp only[Act.put,pA,pB,pC]);((first|(refine zV 28 (by kernel_rfl) rfl rfl ?_;apply Exists.intro;refine⟨?_,?_⟩;(focus(first|exact zoh rfl (λw h=>h.2.1) I.o|(intro w' hS;obtain⟨z,p,r,u,C,D,E⟩:=hS;exact goS))))|(refine zW 28 (by kernel_rfl) rfl rfl ?_));try simp only[Act.put,pA,pB,pC]);((first|(refine zV 29 (by kernel_rfl) rfl rfl ?_;apply Exists.intro;refine⟨?_,?_⟩;(focus(first|exact zoh rfl (λw h=>h.2.1) I.o|(intro w' hS;obtain⟨z,p,r,u,C,D,E⟩:=hS;exact goS))))|(refine zW 29 (by kernel_rfl) rfl rfl ?_));try simp only[Act.put,pA,pB,pC]))
         have KP:=J (c.o.app FC.o)
         have KE:=YM (HG.o.keep0 KP.o.1.fr) KP.o.1.1 (n:Int) (KP.o.1.kept HT.o)
         rw[bh.o] at KE
         refine yE 30 (by kernel_rfl) rfl rfl (λK' hK'=>?_)
         go_simp
         refine KE.mono ?_
         rintro e wd ⟨rfl,Td,Xd,nd⟩
         have FF:=J (KP.o.1.next nd).fr
         have SF:=@J (wd.rangeAt ah 0 [.int .u32 t.ver,.slice ja t.ins.length jc,.slice ka t.outs.length kc]∧wd.rangeAt c1 3 Q∧wd.rangeAt ag 0 (zf (idH t))∧wd.cell? ⟨c1,2,none⟩=some (.int .i64 n)∧wd.cell? ⟨N,2,none⟩=some (.pointer (some ⟨ps,0,none⟩))∧wd.cell? ⟨N,1,none⟩=some (.pointer (some ⟨pp,0,none⟩))∧wd.cell? ⟨N,0,none⟩=some (.pointer (some ⟨pc,0,none⟩))) (by
          have h:=SD.o _ FC.o
          have a1:∀j,j=c1∨j=ag∨j=ah→¬T9 j:=bq.o
          have a7:¬T9 N:=c.o.fl.2.2.1
          exact⟨za h.1 nd.fr (a1 _ (.inr (.inr rfl))),za h.2.1 nd.fr (a1 _ (.inl rfl)),za h.2.2.1 nd.fr (a1 _ (.inr (.inl rfl))),nd.fr.cell h.2.2.2.1 (a1 _ (.inl rfl)),nd.fr.cell h.2.2.2.2.1 a7,nd.fr.cell h.2.2.2.2.2.1 a7,nd.fr.cell h.2.2.2.2.2.2 a7⟩)
         clear nd
         refine nXt hK' ?_ λhS=>?_
         ·exact SF.o
         try simp only[Act.put,pA,pB,pC]
         clear hS hK' K'
         (((first|(refine zV 31 (by kernel_rfl) rfl rfl ?_;apply Exists.intro;refine⟨?_,?_⟩;(focus(first|(intro w' hS;obtain⟨z,p,r,u,C,D,E⟩:=hS;exact goS))))|(refine zW 31 (by kernel_rfl) rfl rfl ?_));try simp only[Act.put,pA,pB,pC]);((first|(refine zV 32 (by kernel_rfl) rfl rfl ?_;apply Exists.intro;refine⟨?_,?_⟩;(focus(first|(intro w' hS;obtain⟨z,p,r,u,C,D,E⟩:=hS;exact goS))))|(refine zW 32 (by kernel_rfl) rfl rfl ?_));try simp only[Act.put,pA,pB,pC]);((first|(refine zV 33 (by kernel_rfl) rfl rfl ?_;apply Exists.intro;refine⟨?_,?_⟩;(focus(first|(intro w' hS;obtain⟨z,p,r,u,C,D,E⟩:=hS;exact goS))))|(refine zW 33 (by kernel_rfl) rfl rfl ?_));try simp only[Act.put,pA,pB,pC]))
         refine vn (hK.out _ _ ?_)
         go_wp2_with fail
         go_ret
         exact⟨rfl,FF.o⟩
       ·have hb:(vz A s t !=0)=true:=by simpa using he
        have bZ:(vz A s t==0)=false:=by simpa using he
        have QE:=@J (zbt (qE A s t).Q s=WS) (by rw[zjK he];exact bd.o.symm)
        have⟨K0,K1,K2,K3⟩:=tZ4
        go_wp2_with ((first|(clear K0;go_at_call 25;refine(zdN F.o.fl.1 (by have:=al.o;omega)).mono ?_;rintro e O ⟨av,rfl,L,f5⟩;rw[bl.o] at L;have IA:=@J (yP O av IN) (⟨au.o,L.slice.arg⟩);obtain⟨aa,ac,Y⟩:=L.slice.arg.form;subst Y;have V:=J (F.o.fr0 f5);clear L f5 cp)|(clear K1;go_at_call 18;refine(Jt O IA.o (show yP O _ IN from⟨au.o,V.o.inn.1.slice.arg⟩) (by have:=LP.o;omega) (by have:=LP.o;omega)).mono ?_;rintro e U ⟨b,rfl,H,f6⟩;obtain rfl:b=true:=H.2 rfl;have G:=J (V.o.fr0 f6);have c2:=G.o.fl.cells.2.2;have cs:=(KA.o _ G.o.bx).2.2.1;clear H f6)|(clear K2;go_at_call 13;refine(ziV G.o.fl.1 s).mono ?_;rintro e w7 ⟨av,rfl,hi,-,f7⟩;rw[QE.o] at hi;have IC:=J hi;obtain⟨ab,ad,Y⟩:=hi.2.form;subst Y;have af:=J (G.o.fr0 f7);clear hi f7 c2 cs)|(clear K3;go_at_call 18;refine(Jt w7 IC.o (show yP w7 _ WS from⟨aJ.o,af.o.was.1.slice.arg⟩) (by have:=aj.o;omega) (by have:=aj.o;omega)).mono ?_;rintro e w8 ⟨b,rfl,H,f8⟩;obtain rfl:b=true:=H.2 rfl;have ar:=J (af.o.fr0 f8);clear H f8));go_frame)
        go_ret
        exact⟨rfl,ar.o.fl.fr⟩
end Go.Proofs.YtdkkjchclkjleaaGreatDoor
