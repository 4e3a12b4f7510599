/- chain: Connect and Disconnect of any block; a chain behind acts. -/
import Derived.Test.YtmpamcnlineceaaGreatDoorZG12
import Derived.Test.YtmpamcnlineceaaGreatDoorZG13
import Derived.Test.YtmpamcnlineceaaGreatDoorZG5
import Derived.Test.YtmpamcnlineceaaGreatDoorZG2
import Derived.Test.YtmpamcnlineceaaGreatDoorZG8
import Derived.Test.YtmpamcnlineceaaGreatDoorZG3
import Derived.Test.YtmpamcnlineceaaGreatDoorZG9
import Derived.Test.YtmpamcnlineceaaGreatDoorZG6
set_option linter.unusedVariables false
set_option linter.unusedSimpArgs false
set_option linter.unnecessarySimpa false
set_option linter.all false
set_option maxRecDepth 20000
set_option maxHeartbeats 16000000
namespace Go.Proofs.YtmpamcnlineceaaGreatDoor
open Go Go.RowKit Go.Maps Go.MapKept
open Go.Proofs.Tryz(prog)
open Nat(le_refl zero_le)
open List(getElem?_eq_getElem mem_append mem_of_getElem? length_append length_map take_add_one mem_singleton take_length length_cons getElem?_append_left)
variable {X:Nat→Prop} {cs:List Value} {v:Value}
structure Gd (w0 w:World) (p:Nat) (V:Nat→Prop) (S0:List zh) (S:List zh) (bs:List zU):Prop where
 hist:Jn S0 bs S
 srt0:qg S0
 ok0:∀c∈S0,c.ok
 len0:S0.length≤300
 cn:Cn w0 w p V S bs (zJ bs)
section
variable {w0 w w':World} {p:Nat} {V:Nat→Prop} {S0 S:List zh} {bs:List zU}
theorem Gd.fr0 (h:Gd w0 w p V S0 S bs) (f:Fr No w w'):Gd w0 w' p V S0 S bs:={h with cn:=h.cn.fr0 f}
theorem Gd.hok (h:Gd w0 w p V S0 S bs):HOk S0 bs S:=h.hist.good h.srt0 h.ok0
theorem Gd.fr (h:Gd w0 w p V S0 S bs):Fr No w0 w:=h.cn.fr
theorem Gd.hi (h:Gd w0 w p V S0 S bs):∀j,V j→j<w.heap.size:=h.cn.hi
theorem Gd.lo (h:Gd w0 w p V S0 S bs):∀j,V j→w0.heap.size≤j:=h.cn.lo
theorem Gd.slen (h:Gd w0 w p V S0 S bs) (a:bs.length≤200):S.length≤30000:=by
 have:=h.hok.len
 have:=h.len0
 omega
theorem Xz {bs:List zU} (h:∀d∈bs,d.ids.length≤16):(zJ bs).length≤16*bs.length:=by
 induction bs with
 |nil=>simp[zJ]
 |cons d l ih=>
  have b:=ih (λx a=>h x (.tail _ a))
  have c:=h d (.head _)
  have e:zJ (d::l)=d.ids++zJ l:=by simp[zJ]
  rw[e,length_append,length_cons]
  omega
def GdX (w0 w:World) (p:Nat) (V:Nat→Prop) (S0 S:List zh) (bs:List zU) (css:List (List Value)):Prop:=
 Jn S0 bs S∧∃s U mi bv M,qy w0 w p s U mi bv css ⟨S,bs,M⟩∧V=chV p U mi bv∧(∀x,x∈zJ bs↔∃v,(x,v)∈M)∧∀x v,(x,v)∈M→0<v
theorem Gd.x (h:Gd w0 w p V S0 S bs):∃css,GdX w0 w p V S0 S bs css:=by
 obtain⟨M,⟨s,U,f,c,css,e,d⟩,b,a⟩:=h.cn
 exact⟨css,h.hist,s,U,f,c,M,e,d,b,a⟩
theorem GdX.gd {css:List (List Value)} (h:GdX w0 w p V S0 S bs css) (d:qg S0) (ok:∀c∈S0,c.ok) (j:S0.length≤300):Gd w0 w p V S0 S bs:=by
 obtain⟨i,s,U,k,e,M,g,f,b,a⟩:=h
 exact⟨i,d,ok,j,M,⟨s,U,k,e,css,g,f⟩,b,a⟩
theorem GdX.cl {css:List (List Value)} (h:GdX w0 w p V S0 S bs css):css.length=bs.length:=by
 obtain⟨f,s,U,g,d,M,b,e,c,a⟩:=h
 exact b.cl
theorem GdX.fr0 {css:List (List Value)} (h:GdX w0 w p V S0 S bs css) (f:Fr No w w'):GdX w0 w' p V S0 S bs css:=by
 obtain⟨g,s,U,i,c,M,e,d,b,a⟩:=h
 exact⟨g,s,U,i,c,M,e.fr0 f,d,b,a⟩
theorem GdX.frV {css:List (List Value)} (h:GdX w0 w p V S0 S bs css) {W:Nat→Prop} (f:Fr W w w') (g:∀j,V j→¬W j) (e:∀j,W j→w0.heap.size≤j) (m:∀(i:Nat) (d:zU) (cs:List Value),bs[i]? =some d→css[i]? =some cs→Kept V w' (λw=>vr w d cs)):GdX w0 w' p V S0 S bs css:=by
 obtain⟨n,s,U,o,c,M,l,k,b,a⟩:=h
 subst k
 exact⟨n,s,U,o,c,M,l.frV f g e m,rfl,b,a⟩
structure CX (w0 w:World) (p:Nat) (V X:Nat→Prop) (S0 S:List zh) (bs:List zU) (css:List (List Value)):Prop where
 gd:GdX w0 w p V S0 S bs css
 srt0:qg S0
 ok0:∀c∈S0,c.ok
 len0:S0.length≤300
 data:∀(i:Nat) (d:zU) (cs:List Value),bs[i]? =some d→css[i]? =some cs→Kept (λj=>V j∨X j) w (λw=>vr w d cs)
theorem CX.g {css:List (List Value)} (h:CX w0 w p V X S0 S bs css):Gd w0 w p V S0 S bs:=h.gd.gd h.srt0 h.ok0 h.len0
theorem CX.frV {X X':Nat→Prop} {css:List (List Value)} (h:CX w0 w p V X S0 S bs css) {W:Nat→Prop} (f:Fr W w w') (k:∀j,V j→¬W j) (g:∀j,W j→w0.heap.size≤j) (c:∀j,W j→X j) (l:∀j,j<w.heap.size→X' j→X j):CX w0 w' p V X' S0 S bs css:=
 {h with
  gd:=h.gd.frV f k g (λi d cs a b=>(h.data i d cs a b).step (f.mono (λj e=>.inr (c j e))) (λj _ e=>.inl e))
  data:=λi d cs a b=>(h.data i d cs a b).step (f.mono (λj e=>.inr (c j e))) (λj m e=>e.imp_right (l j m))}
def zia (X:Nat→Prop) (css:List (List Value)) (w0 w:World) (p:Nat) (V:Nat→Prop) (S0:List zh) (S:List zh) (bs:List zU) (b:y7) (e:Ending) (w':World):Prop:=
 e=.returned (.int .i64 (jb (zJ bs) S bs b))∧Fr V w w'∧∃V' css',(∀j,V' j→V j∨w.heap.size≤j)∧GdX w0 w' p V' S0 (YE (zJ bs) S bs b) (JV (zJ bs) S bs b) css'∧
  ((JV (zJ bs) S bs b=bs∧css'=css)∨∃d csd,JV (zJ bs) S bs b=bs++[d]∧css'=css++[csd]∧Kept (λj=>V' j∨X j) w' (λw=>vr w d csd))
theorem zhv (hg:jM w0) {css:List (List Value)} (h:GdX w0 w p V S0 S bs css) (srt0:qg S0) (ok0:∀c∈S0,c.ok) (r:S0.length≤300) (hX:∀j,X j→j<w.heap.size) (hB:bs.length≤200) {b:y7} (hb:xT w b cs):
  Calls prog 10 #[.pointer (some ⟨p,0,none⟩),.agg cs.toArray] w (zia X css w0 w p V S0 S bs b):=by
 have hok:=(h.gd srt0 ok0 r).hok
 have ai:=(h.gd srt0 ok0 r).slen hB
 have aa:=h
 obtain⟨Q,s,U,P,Y,M,hc,hV,m,i⟩:=h
 by_cases hpre:JA ⟨S,bs,M⟩ b=0
 ·have o:¬1024≤bs.length∧xC b=true∧b.pay.any xX=false:=by
   unfold JA at hpre
   dsimp only at hpre
   split at hpre
   ·cases hpre
   ·rename_i H
    split at hpre
    ·rename_i A
     split at hpre
     ·cases hpre
     ·rename_i I
      exact⟨H,A,by simpa using I⟩
    ·cases hpre
  obtain⟨H,A,I⟩:=o
  have C:jb (zJ bs) S bs b=(doR (zJ bs) S b).E:=by
   unfold jb
   rw[if_neg H,if_pos A,I,if_neg (by decide)]
  obtain⟨p1,p2,p3⟩:=Ji A
  have u:=hb.oks
  obtain⟨a1,a2,a3,a4,a5,a6,a7,a8,a9,ag⟩:=zcC (K:=zJ bs) hok.srt hok.ok (λt ht=>(u.1 t ht).2) u.2 p2 p1
  have ah:M.length≤1000000:=by
   have af:(M.map (·.1)).Nodup:=hc.map.nodup
   have h5:=(Xo (B:=zJ bs) af (λx k=>by
    obtain⟨y,hy,rfl⟩:=List.mem_map.1 k
    exact(m _).2 ⟨y.2,hy⟩)).1
   have h6:=Xz (λd hd=>(hok.ds d hd).1)
   rw[length_map] at h5
   omega
  refine(Y2 hg hc hb hpre (R:=doR (zJ bs) S b) (λw cs T=>zgH w T (by omega) (by omega) (λt ht=>?_)) hX (λw' dq bcs h' T hn hl k hk O hd=>(zhA hg h' m i T hn hl (.inl rfl) (λj n=>n.elim (λe=>by rw[e];exact yu T) (k j)) hk O hok.srt (by show S.length≤_;omega) (by show bs.length≤_;omega) (by show M.length≤_;omega) hd).mono λe aj Q=>Q) ⟨by omega,by omega,by omega⟩).mono λe w' ⟨he,hf,z,L⟩=>?_
  ·obtain⟨q1,q2,q3⟩:=qi.1 (p3 t ht)
   exact⟨by omega,by omega,λx k=>by have:=q1 x k;omega⟩
  ·have g:∀j,chV p U P Y j↔V j:=λj=>by rw[hV]
   refine⟨by rw[he,C],hf.mono (λj n=>(g j).1 n),?_⟩
   by_cases hz:(doR (zJ bs) S b).E=0
   ·obtain⟨D,E,W,l,q,ad,Z,ab,ae⟩:=z hz
    have a:jb (zJ bs) S bs b=0:=by rw[C];exact hz
    refine⟨chV p U P D,E,λj n=>?_,?_⟩
    ·rcases n with e|e|e|e
     ·exact .inl ((g j).1 (.inl e))
     ·exact .inl ((g j).1 (.inr (.inl e)))
     ·exact .inl ((g j).1 (.inr (.inr (.inl e))))
     ·exact(ad j e).imp_left (λe=>(g j).1 (.inr (.inr (.inr e))))
    ·have F:YE (zJ bs) S bs b=(doR (zJ bs) S b).S:=by unfold YE;rw[if_pos a]
     have G:JV (zJ bs) S bs b=bs++[(doR (zJ bs) S b).d]:=by unfold JV;rw[if_pos a]
     rw[F,G]
     refine⟨⟨.snoc Q u a,s,U,P,D,W,l,rfl,λx=>?_,λx v k=>?_⟩,.inr ⟨_,Z,rfl,ab,ae⟩⟩
     ·rw[Zw,mem_append,m]
      constructor
      ·rintro(⟨v,hv⟩|k)
       ·exact⟨v,(q.1 x v).2 (.inl hv)⟩
       ·exact⟨_,(q.1 x _).2 (.inr ⟨k,rfl⟩)⟩
      ·rintro⟨v,hv⟩
       exact((q.1 x v).1 hv).imp (λh=>⟨v,h⟩) (λh=>h.1)
     ·rcases(q.1 x v).1 k with h|⟨_,h⟩
      ·exact i x v h
      ·rw[h];show(0:Int)<(bs.length:Int)+1;omega
   ·obtain⟨W,l,N⟩:=L hz
    have a:jb (zJ bs) S bs b≠0:=by rw[C];exact hz
    have F:YE (zJ bs) S bs b=S:=by unfold YE;rw[if_neg a]
    have G:JV (zJ bs) S bs b=bs:=by unfold JV;rw[if_neg a]
    rw[a4] at l
    refine⟨chV p U P Y,css,λj n=>.inl ((g j).1 n),?_⟩
    rw[F,G]
    exact⟨⟨Q,s,U,P,Y,W,l,rfl,λx=>by rw[m];simp only[N],λx v k=>i x v ((N x v).1 k)⟩,.inl ⟨rfl,rfl⟩⟩
 ·have C:jb (zJ bs) S bs b=JA ⟨S,bs,M⟩ b:=by
   unfold JA at hpre⊢
   unfold jb
   dsimp only at hpre⊢
   split
   ·rfl
   ·rename_i H
    rw[if_neg H] at hpre
    split
    ·rename_i A
     rw[if_pos A] at hpre
     split
     ·rfl
     ·rename_i I
      rw[if_neg I] at hpre
      exact absurd rfl hpre
    ·rfl
  have a:jb (zJ bs) S bs b≠0:=by rw[C];exact hpre
  refine(X8 hg hc hb (by show bs.length≤_;omega) hpre).mono λe w' ⟨he,f⟩=>⟨by rw[he,C],f.of0,V,css,λj n=>.inl n,?_⟩
  have F:YE (zJ bs) S bs b=S:=by unfold YE;rw[if_neg a]
  have G:JV (zJ bs) S bs b=bs:=by unfold JV;rw[if_neg a]
  rw[F,G]
  exact⟨aa.fr0 f,.inl ⟨rfl,rfl⟩⟩
theorem zhu (C:jM w0) {css:List (List Value)} {X X':Nat→Prop} (h:CX w0 w p V X S0 S bs css) (y:∀j,X' j→j<w.heap.size) (o:∀j,X' j→X j) (x:bs.length≤200) {b:y7} (z:xT w b cs):
  Calls prog 10 #[.pointer (some ⟨p,0,none⟩),.agg cs.toArray] w λe w'=>e=.returned (.int .i64 (jb (zJ bs) S bs b))∧Fr V w w'∧∃V' a,(∀j,V' j→V j∨w.heap.size≤j)∧CX w0 w' p V' X' S0 (YE (zJ bs) S bs b) (JV (zJ bs) S bs b) a:=by
 have g:=h.gd.cl
 refine(zhv C h.gd h.srt0 h.ok0 h.len0 y x z).mono λe w' ⟨B,s,V',a,t,q,A⟩=>⟨B,s,V',a,t,q,h.srt0,h.ok0,h.len0,?_⟩
 have k:∀(i:Nat) (d:zU) (cs:List Value),bs[i]? =some d→css[i]? =some cs→Kept (λj=>V' j∨X' j) w' (λw=>vr w d cs):=λi d cs c f=>
  (h.data i d cs c f).step (s.mono (λ_ e=>.inl e)) (λj E e=>e.imp (λe=>(t j e).resolve_right (by omega)) (o j))
 rcases A with⟨m,n⟩|⟨d,u,m,n,D⟩
 ·rw[m,n]
  exact k
 ·rw[m,n]
  intro i v l c f
  by_cases hi:i<bs.length
  ·rw[getElem?_append_left hi] at c
   rw[getElem?_append_left (by rw[g];exact hi)] at f
   exact k i v l c f
  ·have r:i=bs.length:=by have:=(List.getElem?_eq_some_iff.1 c).1;simp only[length_append,List.length_singleton] at this;omega
   subst r
   rw[List.getElem?_append_right (le_refl _),Nat.sub_self] at c
   rw[List.getElem?_append_right (by rw[g];exact le_refl _),g,Nat.sub_self] at f
   simp at c f
   subst c
   subst f
   exact D
def zib (w0 w:World) (p:Nat) (V:Nat→Prop) (S0:List zh) (S:List zh) (bs:List zU) (d:zU) (e:Ending) (w':World):Prop:=
 ∃bcs V',e=.returned (.tuple #[.agg bcs.toArray,.int .i64 0])∧Fr V w w'∧(∀j,V' j→V j)∧Gd w0 w' p V' S0 (qh d.chg S) bs∧Kept V w' (λw=>xT w d.blk bcs)
theorem ziL {d:zU} (h:Gd w0 w p V S0 S (bs++[d])) (P:bs.length≤200):
  Calls prog 12 #[.pointer (some ⟨p,0,none⟩)] w (zib w0 w p V S0 S bs d):=by
 have hok:=h.hok
 have H:S.length≤30000:=by
  have:=h.hok.len
  have:=h.len0
  rw[length_append] at*
  simp only[length_cons,List.length_nil] at*
  omega
 obtain⟨i,y,L,N,O,C⟩:=h.hist.undo h.srt0 h.ok0
 have Q:=hok.ds d (by simp)
 obtain⟨M,⟨s,U,o,B,css,D,z⟩,t,n⟩:=h.cn
 refine(zbo D rfl (by omega) (by show S.length+_≤_;omega) (by omega) (by omega)).mono λe w' ⟨bcs,c,g,A,E,r,u,G,F,q,_⟩=>?_
 have k:∀j,chV p U o c j↔V j:=λj=>by rw[z];unfold chV;rw[q]
 have l:∀j,chV p U o B j↔V j:=λj=>by rw[z]
 refine⟨bcs,chV p U o c,E,F.mono (λj m=>(l j).1 m),λj m=>(k j).1 m,⟨i,h.srt0,h.ok0,h.len0,A,⟨s,U,o,c,g,r,rfl⟩,λx=>?_,λx v I=>n x v ((u x v).1 I).2⟩,λK f=>G K (f.mono (λj m=>(k j).2 m))⟩
 have:=Y6 C x
 rw[←this]
 simp only[List.mem_filter,Bool.not_eq_true',decide_eq_false_iff_not]
 rw[t]
 constructor
 ·rintro⟨⟨v,i⟩,y⟩
  exact⟨v,(u x v).2 ⟨y,i⟩⟩
 ·rintro⟨v,i⟩
  obtain⟨a,b⟩:=(u x v).1 i
  exact⟨⟨v,b⟩,a⟩
def zic (w0 w:World) (p:Nat) (V:Nat→Prop) (S0:List zh) (S:List zh) (bs:List zU) (d:zU) (css:List (List Value)) (e:Ending) (w':World):Prop:=
 ∃bcs V' css' tl,e=.returned (.tuple #[.agg bcs.toArray,.int .i64 0])∧Fr V w w'∧(∀j,V' j→V j)∧GdX w0 w' p V' S0 (qh d.chg S) bs css'∧Kept V w' (λw=>xT w d.blk bcs)∧css=css'++[bcs++tl]
theorem zhx {d:zU} {css:List (List Value)} (h:GdX w0 w p V S0 S (bs++[d]) css) (srt0:qg S0) (ok0:∀c∈S0,c.ok) (C:S0.length≤300) (W:bs.length≤200):
  Calls prog 12 #[.pointer (some ⟨p,0,none⟩)] w (zic w0 w p V S0 S bs d css):=by
 have hok:=h.1.good srt0 ok0
 have L:S.length≤30000:=by
  have:=hok.len
  rw[length_append] at this
  simp only[length_cons,List.length_nil] at this
  omega
 obtain⟨k,A,Q,R,T,F⟩:=h.1.undo srt0 ok0
 have X:=hok.ds d (by simp)
 obtain⟨Y,s,U,q,E,M,G,B,u,o⟩:=h
 refine(zbo G rfl (by omega) (by show S.length+_≤_;omega) (by omega) (by omega)).mono λe w' ⟨bcs,g,i,D,H,t,y,K,I,r,O,z⟩=>?_
 have l:∀j,chV p U q g j↔V j:=λj=>by rw[B];unfold chV;rw[r]
 have m:∀j,chV p U q E j↔V j:=λj=>by rw[B]
 refine⟨bcs,chV p U q g,i,O,H,I.mono (λj n=>(m j).1 n),λj n=>(l j).1 n,⟨k,s,U,q,g,D,t,rfl,λx=>?_,λx v N=>o x v ((y x v).1 N).2⟩,λP f=>K P (f.mono (λj n=>(l j).2 n)),z⟩
 have:=Y6 F x
 rw[←this]
 simp only[List.mem_filter,Bool.not_eq_true',decide_eq_false_iff_not]
 rw[u]
 constructor
 ·rintro⟨⟨v,k⟩,A⟩
  exact⟨v,(y x v).2 ⟨A,k⟩⟩
 ·rintro⟨v,k⟩
  obtain⟨a,b⟩:=(y x v).1 k
  exact⟨⟨v,b⟩,a⟩
theorem zhy {d:zU} {css:List (List Value)} (h:CX w0 w p V X S0 S (bs++[d]) css) (x:bs.length≤200):
  Calls prog 12 #[.pointer (some ⟨p,0,none⟩)] w λe w'=>∃bcs V' a,e=.returned (.tuple #[.agg bcs.toArray,.int .i64 0])∧Fr V w w'∧(∀j,V' j→V j)∧CX w0 w' p V' X S0 (qh d.chg S) bs a∧Kept (λj=>V j∨X j) w' (λw=>xT w d.blk bcs):=by
 have g:=h.gd.cl
 rw[length_append,List.length_singleton] at g
 refine(zhx h.gd h.srt0 h.ok0 h.len0 x).mono λe w' ⟨bcs,V',a,C,y,k,r,c,z,f⟩=>⟨bcs,V',a,y,k,r,⟨c,h.srt0,h.ok0,h.len0,λi s cs n o=>?_⟩,?_⟩
 ·have hi:=(List.getElem?_eq_some_iff.1 n).1
  have l:=(List.getElem?_eq_some_iff.1 o).1
  exact(h.data i s cs (by rw[getElem?_append_left hi];exact n) (by rw[f,getElem?_append_left l];exact o)).step (k.mono (λ_ e=>.inl e)) (λj _ e=>e.imp_left (r j))
 ·have A:a.length=bs.length:=c.cl
  have B:=h.data bs.length d (bcs++C) (by simp) (by rw[f,←A];simp)
  have m:∀w,xT w d.blk bcs→bcs.length=3:=λw ⟨_,_,_,_,e,_⟩=>by rw[e];rfl
  refine(B.step (k.mono (λ_ e=>.inl e)) (λ_ _ e=>e)).imp (λI F ⟨b,G,H,D,E,e,q,_⟩=>?_)
  have u:=m _ z.now
  have v:b.length=3:=by obtain⟨_,_,_,_,t,_⟩:=q;rw[t];rfl
  have:=(List.append_inj e (by rw[u,v])).1
  rw[this]
  exact q
theorem zgt (h:Gd w0 w p V S0 S []):Calls prog 12 #[.pointer (some ⟨p,0,none⟩)] w λe w'=>e=.returned (.tuple #[.agg xY.toArray,.int .i64 9])∧Fr No w w':=QQ h.cn
theorem ziv (w:World) {l:List yk} (b:xA w v l) (d:l.length≤256):
  Calls prog 6 #[v] w λe w'=>∃p,e=.returned (.tuple #[.pointer (some ⟨p,0,none⟩),.int .i64 0])∧∃V,Gd w w' p V (qP [] (xP z7 l)) (qP [] (xP z7 l)) []:=by
 refine(zbI w b d).mono λe w' ⟨p,f,V,h⟩=>⟨p,f,V,.nil,?_,λc a=>?_,?_,h⟩
 ·exact vD List.Pairwise.nil (vm _ _) (λc a=>rfl)
 ·rcases vo.1 a with a|a
  ·cases a
  ·exact Jh j5 b.1 (by omega) c a
 ·rw[(jd _ _).length_eq,List.nil_append,xZ]
  omega
end
theorem zbg:∀ {i:Nat} {a b:List Int} {x y:Int},a.take i=b.take i→a[i]? =some x→b[i]? =some y→x≠y→vA a b=if x<y then -1 else 1
 |0,[],_,_,_,_,h,_,_=>by simp at h
 |0,_::_,[],_,_,_,_,h,_=>by simp at h
 |0,x'::a,y'::b,x,y,_,h1,h2,hne=>by
  simp at h1 h2
  subst h1 h2
  unfold vA
  by_cases h:x'<y'
  ·simp[h]
  ·rw[if_neg h,if_neg h,if_pos (by omega)]
 |i+1,[],_,_,_,_,h,_,_=>by simp at h
 |i+1,_::_,[],_,_,_,_,h,_=>by simp at h
 |i+1,x'::a,y'::b,x,y,h,h1,h2,hne=>by
  simp only[List.take_succ_cons,List.cons.injEq] at h
  obtain⟨rfl,h⟩:=h
  unfold vA
  rw[if_neg (by omega),if_neg (by omega)]
  exact zbg h (by simpa using h1) (by simpa using h2) hne
theorem zfH {a b:zE} {i:Nat} {x y:Int} (h:a.tx.take i=b.tx.take i) (d:a.tx[i]? =some x) (e:b.tx[i]? =some y) (c:x≠y):xV a b=decide (x<y):=by
 unfold xV vB
 rw[zbg h d e c]
 by_cases hl:x<y<;>simp[hl]
theorem zeq {a b:zE} (h:a.tx=b.tx):xV a b=decide (a.n<b.n):=by
 unfold xV vB
 rw[h,Yn,if_pos rfl]
 unfold YS
 by_cases hl:a.n<b.n
 ·simp[hl]
 ·by_cases hg:b.n<a.n<;>simp[hl,hg]
theorem VY (w:World) {a b:zE} (C:a.ok) (D:b.ok):
  Calls prog 90 #[.agg (zi a).toArray,.agg (zi b).toArray] w λe w'=>e=.returned (.bool (xV a b))∧Fr No w w':=by
 have E:((w.alloc (.cells (zi a).toArray 72)).alloc (.cells (zi b).toArray 72)).rangeAt w.heap.size 0 (zi a):=zb (zK w (zi a) 72) ((frN _).alloc _) id
 have F:((w.alloc (.cells (zi a).toArray 72)).alloc (.cells (zi b).toArray 72)).rangeAt (w.heap.size+1) 0 (zi b):=by
  have:=zK (w.alloc (.cells (zi a).toArray 72)) (zi b) 72
  simpa using this
 have u:=@J (Fr No w ((w.alloc (.cells (zi a).toArray 72)).alloc (.cells (zi b).toArray 72))) (((frN w).alloc _).alloc _)
 have v:=J E
 have z:=J F
 have k:=J C
 have l:=J D
 have M:=J (λ(i:Nat) (x y:Int) h h1 h2 hne=>zfH (a:=a) (b:=b) (i:=i) (x:=x) (y:=y) h h1 h2 hne)
 have L:=J (λh=>zeq (a:=a) (b:=b) h)
 generalize xV a b=O at*
 clear E F C D
 go_enter Tryz.func90,Tryz.ntmps90
 go_wp2_with fail
 generalize T:w.heap.size=q at*
 generalize (w.alloc (.cells (zi a).toArray 72)).alloc (.cells (zi b).toArray 72)=g at*
 go_loopw [6] (λt wr=>∃n:Nat,t=.int .i64 n∧n≤32∧a.tx.take n=b.tx.take n∧Fr No g wr) (λt _=>32-(intOf t).toNat)
 case atStart=>exact⟨0,rfl,by omega,by simp,Fr.refl _ _⟩
 case round=>
  obtain⟨n,rfl,S,d,fr⟩:=hrel
  have j:=J fr
  have p:=J d
  clear fr d
  by_cases h:n<32
  ·have N:(n:Int)<32:=by omega
   obtain⟨x,hx⟩:∃x,a.tx[n]? =some x:=⟨_,getElem?_eq_getElem (by rw[k.o.1.1];exact h)⟩
   obtain⟨y,hy⟩:∃y,b.tx[n]? =some y:=⟨_,getElem?_eq_getElem (by rw[l.o.1.1];exact h)⟩
   have A:∀W,Fr No g W→W.cell? ⟨q,n,none⟩=some (.int .u8 x):=λW f=>by
    have:=zb v.o f id n (zu x) (by unfold zi;rw[getElem?_append_left (by rw[length_map,k.o.1.1];exact h),List.getElem?_map,hx];rfl)
    simpa[zu] using this
   have B:∀W,Fr No g W→W.cell? ⟨q+1,n,none⟩=some (.int .u8 y):=λW f=>by
    have:=zb z.o f id n (zu y) (by unfold zi;rw[getElem?_append_left (by rw[length_map,l.o.1.1];exact h),List.getElem?_map,hy];rfl)
    simpa[zu] using this
   have m:=J A
   have o:=J B
   clear A B
   have c:Fr No g wr.drew:=j.o.drew
   by_cases hxy:x=y
   ·have r:=@J (a.tx.take (n+1)=b.tx.take (n+1)) (by rw[take_add_one,take_add_one,hx,hy,p.o,hxy])
    subst hxy
    clear hx hy
    go_wp2
    refine wrLx [ff,ff,ff,ff,ff,ff,ff,ff,ff] (λw'=>w'.cell? ⟨q,n,none⟩=some (.int .u8 x)∧w'.cell? ⟨q+1,n,none⟩=some (.int .u8 x)) ?_ (λK hK=>?_)
    ·exact⟨m.o _ c,o.o _ c⟩
    repeat((first|(refine zn rfl ?_;constructor;constructor;(focus(first|(rintro w' ⟨G,H⟩;exact goS))))|(refine zq rfl ?_));try simp only[Act.put,pA,pB,pC])
    refine zZ (hK.out _ _ ?_)
    go_wp2
    go_roundw
    case rel=>exact⟨n+1,by simp,by omega,r.o,c⟩
    case measure=>show 32-(n+1)<32-n;omega
   ·have R:=J (M.o n x y p.o hx hy hxy)
    clear hx hy
    go_wp2
    refine wrLx [ff,ff,ff,ff,ff,ff,ff,ff,ff] (λw'=>w'.cell? ⟨q,n,none⟩=some (.int .u8 x)∧w'.cell? ⟨q+1,n,none⟩=some (.int .u8 y)) ?_ (λK hK=>?_)
    ·exact⟨m.o _ c,o.o _ c⟩
    repeat((first|(refine zn rfl ?_;constructor;constructor;(focus(first|(rintro w' ⟨G,H⟩;exact goS))))|(refine zq rfl ?_));try simp only[Act.put,pA,pB,pC])
    refine zZ (hK.out _ _ ?_)
    go_wp2
    have s:Fr No g wr.drew.drew:=c.drew
    refine wrLx [ff,ff,ff,ff,ff,ff,ff,ff,ff,ff] (λw'=>w'.cell? ⟨q,n,none⟩=some (.int .u8 x)∧w'.cell? ⟨q+1,n,none⟩=some (.int .u8 y)) ?_ (λK hK=>?_)
    ·exact⟨m.o _ s,o.o _ s⟩
    repeat((first|(refine zn rfl ?_;constructor;constructor;(focus(first|(rintro w' ⟨G,H⟩;exact goS))))|(refine zq rfl ?_));try simp only[Act.put,pA,pB,pC])
    refine zZ (hK.out _ _ ?_)
    go_wp2
    go_ret
    exact⟨by rw[R.o];rfl,u.o.trans0 s⟩
  ·have N:¬(n:Int)<32:=by omega
   have I:=J (L.o (by have:=p.o;rwa [show n=32 by omega,List.take_of_length_le (by rw[k.o.1.1];omega),List.take_of_length_le (by rw[l.o.1.1];omega)] at this))
   have P:wr.cell? ⟨q,32,none⟩=some (.int .u32 a.n):=by have:=zb v.o j.o id 32 _ (Ze k.o);simpa using this
   have Q:wr.cell? ⟨q+1,32,none⟩=some (.int .u32 b.n):=by have:=zb z.o j.o id 32 _ (Ze l.o);simpa using this
   go_wp2
   go_ret
   exact⟨by rw[I.o];rfl,u.o.trans0 j.o⟩
theorem zgn (w:World) {l:List zh} (u:xz w v l) (U:l.length≤100000):
  Calls prog 77 #[v] w λe w'=>∃D,e=.returned D∧w'.ownsRow w.heap.size 72 33 D l.length ((l.map (·.at_)).flatMap zi)∧Fr No w w':=by
 obtain⟨W,X,rfl⟩:=u.2.form
 have A:=J u
 have Y:=jI
 clear u
 go_enter Tryz.func77,Tryz.ntmps77
 go_wp2_with fail
 go_loopw [3,8] (λO z wr=>∃n:Nat,z=.int .i64 n∧n≤l.length∧wr.ownsRow w.heap.size 72 33 O n (((l.take n).map (·.at_)).flatMap zi)∧Fr No w wr) (λ_ z _=>l.length-(intOf z).toNat)
 case atStart=>exact⟨0,rfl,zero_le _,World.ownsRow_nil _ _ _ _,Fr.refl _ _⟩
 case round=>
  obtain⟨n,rfl,V,y,fr⟩:=hrel
  have m:=J fr
  have p:=J y
  obtain⟨M,N,rfl⟩:=y.slice.arg.form
  clear fr y
  by_cases h:n<l.length
  ·have L:(n:Int)<(l.length:Int):=by omega
   obtain⟨c,g⟩:∃x,l[n]? =some x:=⟨_,getElem?_eq_getElem h⟩
   obtain⟨b,off,I,K,C,-⟩:=(A.o.keep m.o).at_ g
   cases K
   have d:=J (A.o.1 c (mem_of_getElem? g))
   have j:=J (yv d.o)
   have s:=J (zF d.o.1)
   have G:=J C
   have H:=J (ju (zK wr (zw c) 103))
   have r:=@J (((l.take (n+1)).map (·.at_)).flatMap zi=((l.take n).map (·.at_)).flatMap zi++zi c.at_) (by rw[take_add_one,g];simp)
   have k:=m.o.alloc (.cells (zw c).toArray 103)
   obtain⟨Q,R,f,a,B,-,-⟩:=yw (P:=prog) _ w.heap.size 115 115 72 33 36 _ qH jP rfl (by decide) (p.o.alloc (.cells (zw c).toArray 103)) (zi c.at_) s.o yB (by omega) (by unfold maxLen;omega) k.size
   have E:=J (k.trans B (λi hi e=>by have:=(p.o.lt i e).1;omega))
   have q:=@J (R.ownsRow w.heap.size 72 33 Q (n+1) (((l.take (n+1)).map (·.at_)).flatMap zi)) (by rw[r.o];exact a)
   obtain⟨S,T,rfl⟩:=a.slice.arg.form
   have o:=J f
   clear f a B C g k
   go_wp2_with (first|(refine ziY rfl rfl rfl G.o j.o ?_)|(refine ze rfl (zj (w:=wr) (ty:=103) rfl rfl rfl (by rw[j.o];rfl) (by rw[j.o];exact xI) yz) ?_)|(refine ziX rfl rfl rfl H.o s.o ?_)|(refine zg rfl (zL (t:=115) rfl rfl qH j6 rfl (by decide) (by decide) s.o) ?_)|(at_builtin;refine zk rfl rfl rfl rfl o.o ?_))
   go_roundw
   case rel=>exact⟨n+1,by simp,by omega,q.o,E.o⟩
   case measure=>show l.length-(n+1)<l.length-n;omega
  ·have L:¬(n:Int)<(l.length:Int):=by omega
   have F:=@J (wr.ownsRow w.heap.size 72 33 (.slice M n N) l.length ((l.map (·.at_)).flatMap zi)) (by
    have:=p.o
    rw[show l.take n=l by rw[show n=l.length by omega,take_length]] at this
    rwa [show l.length=n by omega])
   go_wp2
   go_ret
   exact⟨_,rfl,F.o,m.o⟩
section
open Go.Sort
theorem XG {w:World} {B:Nat} {S:List zE} (h:w.ownsRow B 72 33 v S.length (S.flatMap zi)) (ok:∀c∈S,c.ok):qz w v S:=⟨ok,h.slice.arg⟩
theorem zfJ (S l:List zh):(qP S l).length=S.length+l.length:=by rw[(jd l S).length_eq,length_append]
structure RS (w0 w:World) (p:Nat) (iv:Value) (U:Nat→Prop) (S:List zh):Prop where
 ex:∃rv,w.heap[p]? =some (.cells #[rv,iv] 54 (0,0))∧yP w rv S.length (S.flatMap zw)∧U=(λj=>j=p∨rv.ownBlock=some j)∧rv.ownBlock≠some p
 lo:∀j,U j→w0.heap.size≤j
 fr:Fr No w0 w
 ok:∀x∈S,x.ok
section
variable {w0 w:World} {p:Nat} {iv:Value} {U:Nat→Prop} {S:List zh}
theorem RS.hi (h:RS w0 w p iv U S):∀j,U j→j<w.heap.size:=by
 obtain⟨c,a,b,rfl,-⟩:=h.ex
 rintro j (rfl|hj)
 ·exact yu a
 ·exact b.lt hj
theorem RS.frV {w':World} (h:RS w0 w p iv U S) {V:Nat→Prop} (f:Fr V w w') (c:∀j,U j→¬V j) (d:∀j,V j→w0.heap.size≤j):RS w0 w' p iv U S:=by
 obtain⟨l,a,k,rfl,g⟩:=h.ex
 exact {h with
  ex:=⟨l,f.obj a (c p (.inl rfl)),k.keep f (λb a=>c b (.inr a)),rfl,g⟩
  fr:=h.fr.trans f (λi hi e=>by have:=d i e;omega)}
theorem RS.fr0 {w':World} (h:RS w0 w p iv U S) (f:Fr No w w'):RS w0 w' p iv U S:=h.frV f (λ_ _=>id) (λ_ h=>h.elim)
theorem RS.turn {c:World} (h:RS w0 w p iv U S) (f:Fr No w c) {l:Value} {S':List zh} (n:c.ownsRow w.heap.size 103 66 l S'.length (S'.flatMap zw)) (ok:∀x∈S',x.ok):
  RS w0 (c.setCell ⟨p,0,none⟩ l) p iv (λj=>j=p∨l.ownBlock=some j) S'∧Fr U w (c.setCell ⟨p,0,none⟩ l)∧(∀j,(j=p∨l.ownBlock=some j)→U j∨w.heap.size≤j):=by
 have g:=h.lo
 obtain⟨q,d,s,rfl,o⟩:=h.ex
 have r:p<w.heap.size:=yu d
 have a:∀b,l.ownBlock=some b→w.heap.size≤b:=λb d=>(n.lt b d).1
 have k:=yN p 54 [l] 0 c #[q,iv] (f.obj d id)
 have m:Fr (λj=>j=p) c (c.setCell ⟨p,0,none⟩ l):=Fr.setCell (W:=λj=>j=p) (Fr.refl _ c) ⟨p,0,none⟩ (.inr rfl) _
 refine⟨{ex:=⟨l,k,n.slice.keep m (λb d e=>by have:=a b d;omega),rfl,λe=>by have:=a p e;omega⟩,lo:= ?_,fr:= ?_,ok:=ok},(f.of0.trans m (λ_ _ e=>.inl e)),?_⟩
 ·rintro j (rfl|hj)
  ·exact g _ (.inl rfl)
  ·exact Nat.le_trans h.fr.size (a j hj)
 ·exact(h.fr.trans0 f).trans m (λi hi e=>by subst e;have:=g i (.inl rfl);omega)
 ·rintro j (rfl|hj)
  ·exact .inl (.inl rfl)
  ·exact .inr (a j hj)
omit w0 w p iv U S in
theorem zd5 {S:List zh} {n:Nat} {x:zh} {k:zE} (c:S[n]? =some x) (a:∀y∈S.take n,y.at_≠k) (b:x.at_=k):yj S k=x.out∧xE S k=true:=by
 have e:S=S.take n++x::S.drop (n+1):=by
  obtain⟨f,rfl⟩:=List.getElem?_eq_some_iff.1 c
  simp
 constructor
 ·unfold yj JX
  rw[e,List.find?_append,List.find?_eq_none.2 (λy d=>by simpa using a y d),Option.none_or,List.find?_cons,decide_eq_true b]
  rfl
 ·exact Z0.2 ⟨x,mem_of_getElem? c,b⟩
theorem Yw (h:RS w0 w p iv U S) (hN:S.length≤100000) {q:zE} (F:q.ok):
  Calls prog 78 #[.pointer (some ⟨p,0,none⟩),.agg (zi q).toArray] w λe w'=>e=.returned (.tuple #[.agg (zx (yj S q)).toArray,.bool (xE S q)])∧Fr No w w':=by
 obtain⟨rv,O,G,rfl,E⟩:=h.ex
 obtain⟨dO,W,V⟩:=Zt
 obtain⟨ra,rc,rfl⟩:=G.arg.form
 have zc:=jI
 have zo:=yA
 have m:=J h.ok
 have Y:=J F
 have QL:=J (zF F)
 have Z:=J G
 have f:=J (z6 Xd)
 have D:Fr No w ((w.alloc (.cells (zi q).toArray 72)).alloc (.cells (zx vF).toArray 68)):=((frN w).alloc _).alloc _
 have c0:((w.alloc (.cells (zi q).toArray 72)).alloc (.cells (zx vF).toArray 68)).cell? ⟨p,0,none⟩=some (.slice ra S.length rc):=(Qh (D.obj O id)).1
 have RB:=J (zb (zK w (zi q) 72) ((frN _).alloc (.cells (zx vF).toArray 68)) id)
 have l:=J (xK (w.alloc (.cells (zi q).toArray 72)) (.cells (zx vF).toArray 68) (n:=w.heap.size+1) (by simp))
 have v:=J D
 clear h O G E D F
 go_enter Tryz.func78,Tryz.ntmps78
 go_wp2_with fail
 generalize ab:w.heap.size=n0 at*
 generalize (w.alloc (.cells (zi q).toArray 72)).alloc (.cells (zx vF).toArray 68)=w1 at*
 clear c0
 go_loopw [13] (λI wr=>∃n:Nat,I=.int .i64 n∧n≤S.length∧(∀y∈S.take n,y.at_≠q)∧Fr No w1 wr) (λI _=>S.length-(intOf I).toNat)
 case atStart=>exact⟨0,rfl,zero_le _,by simp,Fr.refl _ _⟩
 case round=>
  obtain⟨n,rfl,hn,r,fr⟩:=hrel
  have u:=J fr
  have A:=J r
  clear fr r
  by_cases h:n<S.length
  ·have i1:(n:Int)<(S.length:Int):=by omega
   obtain⟨c,k⟩:∃x,S[n]? =some x:=⟨_,getElem?_eq_getElem h⟩
   obtain⟨b,off,aa,hv,Q,-⟩:=(Z.o.keep (v.o.trans0 u.o) (λ_ _=>id)).elem (by decide) (λy H=>yv (m.o y H)) k
   cases hv
   have d:=J (m.o c (mem_of_getElem? k))
   have j:=J (yv d.o)
   have C:=J (zF d.o.1)
   have o:=J (z6 d.o.2)
   have L:=J Q
   have K:=zK wr (zw c) 103
   have M:=J (ju K)
   have RO:=@J ((wr.alloc (.cells (zw c).toArray 103)).rangeAt wr.heap.size 33 (zx c.out)) (by have:=zbi d.o K;rwa [Nat.zero_add] at this)
   have s:=J (u.o.alloc (.cells (zw c).toArray 103))
   have N:=J (zb RB.o s.o id)
   have a:=J (s.o.obj l.o id)
   clear Q K
   by_cases hxk:c.at_=q
   ·obtain⟨R,T⟩:=zd5 k A.o hxk
    have Q1:=J R
    have Q2:=J T
    subst hxk
    clear R T k
    go_wp2_with (first|(refine ziX rfl rfl rfl M.o C.o ?_)|(refine ziY rfl rfl rfl L.o j.o ?_)|(refine ze rfl (zj (w:=wr) (cs:=zw c) (ty:=103) rfl rfl rfl (by rw[j.o];rfl) (by rw[j.o];exact xI) yz) ?_)|(refine ziX rfl rfl rfl N.o C.o ?_)|(refine zg rfl (vi.exec_eql rfl rfl rfl (yF d.o.1) (yF d.o.1) true ⟨λ_=>rfl,λ_=>rfl⟩ _) ?_)|(refine ziW rfl rfl rfl RO.o o.o ?_)|(refine ze rfl (zy (ty:=68) (cs:=zx c.out) rfl rfl rfl (by rw[o.o];exact zM a.o (Nat.le_of_eq xq.symm)) (by rw[o.o];exact yW) zV) ?_))
    refine bodyPost_ret (zR (P:=prog) (fn:=Tryz.f78) rfl _ rfl (yE a.o (by rw[o.o];exact xq)) W V (by rw[o.o];exact yW) rfl) rfl ⟨by rw[Q1.o,Q2.o];rfl,?_⟩
    exact(v.o.trans0 s.o).trans (zv _ _ _ _) (λi hi e=>by omega)
   ·have NE:=@J (¬(zi c.at_).toArray=(zi q).toArray) (λe=>hxk (qO (congrArg Value.agg e)))
    have B:=@J (∀y∈S.take (n+1),y.at_≠q) (by
     rw[take_add_one,k]
     simp only[Option.toList_some,mem_append,mem_singleton]
     rintro y (H|rfl)
     ·exact A.o y H
     ·exact hxk)
    clear k
    go_wp2_with (first|(refine ziX rfl rfl rfl M.o C.o ?_)|(refine ziY rfl rfl rfl L.o j.o ?_)|(refine ze rfl (zj (w:=wr) (cs:=zw c) (ty:=103) rfl rfl rfl (by rw[j.o];rfl) (by rw[j.o];exact xI) yz) ?_)|(refine ziX rfl rfl rfl N.o QL.o ?_)|(refine zg rfl (vi.exec_eql rfl rfl rfl (yF d.o.1) (yF Y.o) false ⟨λe=>(by cases e),λe=>absurd e NE.o⟩ _) ?_))
    go_roundw
    case rel=>exact⟨n+1,by simp,by omega,B.o,s.o⟩
    case measure=>show S.length-(n+1)<S.length-n;omega
  ·have i1:¬(n:Int)<(S.length:Int):=by omega
   have g:xE S q=false:=by
    have:=A.o
    rw[show n=S.length by omega,take_length] at this
    exact jA.2 this
   have X:=J g
   have z:=@J (yj S q=vF) (by unfold yj;rw[QS g];rfl)
   have bo:∀w,(Instr.build 68 #[]).run prog w=.ok (.agg (zx vF).toArray) w:=λw=>by kernel_rfl
   have a:=J (u.o.obj l.o id)
   clear g
   go_wp2_with (first|(refine zg rfl (yl (t:=68) rfl rfl (bo _)) ?_)|(refine ze rfl (zy (ty:=68) (cs:=zx vF) rfl rfl rfl (by rw[f.o];exact zM a.o (Nat.le_of_eq xq.symm)) (by rw[f.o];exact yW) zV) ?_))
   refine bodyPost_ret (zR (P:=prog) (fn:=Tryz.f78) rfl _ rfl (yE a.o (by rw[f.o];exact xq)) W V (by rw[f.o];exact yW) rfl) rfl ⟨by rw[X.o,z.o];rfl,?_⟩
   exact(v.o.trans0 u.o).trans (zv _ _ _ _) (λi hi e=>by omega)
end
end
theorem Qd (w:World) {t:TxD} (W:TxQ w t cs) (hN:t.ins.length≤1000):
  Calls prog 74 #[.agg cs.toArray] w λe w'=>∃F,e=.returned F∧w'.ownsRow w.heap.size 72 33 F t.ins.length ((yI t).flatMap zi)∧Fr No w w':=by
 obtain⟨v,y,A,B,rfl,-,hi,-⟩:=W
 have zI:=vX
 have G:=J ((frN w).alloc (.cells #[.int .u32 t.ver,.slice v t.ins.length y,.slice A t.outs.length B] 62))
 obtain⟨U,c1,-,-⟩:=qF w t.ver (.slice v t.ins.length y) (.slice A t.outs.length B)
 have K:=J hi
 clear hi
 show Calls prog 74 #[.agg #[.int .u32 t.ver,.slice v t.ins.length y,.slice A t.outs.length B]] w _
 go_enter Tryz.func74,Tryz.ntmps74
 go_wp2_with fail
 clear U c1
 go_loopw [3,9] (λrv z wr=>∃n:Nat,z=.int .i64 n∧n≤t.ins.length∧wr.ownsRow w.heap.size 72 33 rv n (((yI t).take n).flatMap zi)∧Fr No w wr) (λ_ z _=>t.ins.length-(intOf z).toNat)
 case atStart=>exact⟨0,rfl,zero_le _,World.ownsRow_nil _ _ _ _,G.o⟩
 case round=>
  obtain⟨n,rfl,hn,s,fr⟩:=hrel
  have l:=J fr
  have o:=J s
  obtain⟨Z,lc,rfl⟩:=s.slice.arg.form
  clear fr s
  by_cases h:n<t.ins.length
  ·have Y:(n:Int)<(t.ins.length:Int):=by omega
   obtain⟨x,u⟩:∃x,t.ins[n]? =some x:=⟨_,getElem?_eq_getElem h⟩
   obtain⟨b,off,V,cs,X,E,g,j,rfl,a,f⟩:=(K.o.keep0 l.o).at_ u
   cases X
   have C:=J (vl a (.slice g x.key.length j))
   have r:=J (zF a)
   have S:=J E
   have T:=J (jO wr (kv:=.slice g x.key.length j) a).1
   have L:=@J ((yI t)[n]? =some x.from_) (by simp[yI,u])
   have q:=@J (((yI t).take (n+1)).flatMap zi=((yI t).take n).flatMap zi++zi x.from_) (by rw[take_add_one,L.o];simp)
   have k:=l.o.alloc (.cells (inC x.from_ (.slice g x.key.length j)).toArray 106)
   obtain⟨v5,w5,d,c,D,-,-⟩:=yw (P:=prog) _ w.heap.size 115 115 72 33 36 _ qH jP rfl (by decide) (o.o.alloc (.cells (inC x.from_ (.slice g x.key.length j)).toArray 106)) (zi x.from_) r.o yB (by omega) (by unfold maxLen;omega) k.size
   have H:=J (k.trans D (λi hi e=>by have:=(o.o.lt i e).1;omega))
   have p:=@J (w5.ownsRow w.heap.size 72 33 v5 (n+1) (((yI t).take (n+1)).flatMap zi)) (by rw[q.o];exact c)
   obtain⟨a5,c5,rfl⟩:=c.slice.arg.form
   have m:=J d
   clear d c D E u k a f
   have⟨M,N,O,Q,R⟩:=tZ5
   go_wp2_with ((first|((with_reducible refine zt ?_);first|(clear M;refine ziV rfl rfl rfl S.o C.o ?_)|(clear O;refine ziX rfl rfl rfl T.o r.o ?_)|(clear Q;refine zg rfl (zL (t:=115) rfl rfl qH j6 rfl (by decide) (by decide) r.o) ?_)|(clear R;at_builtin;refine zk rfl rfl rfl rfl m.o ?_))|((with_reducible refine zr ?_);clear N;refine zi4 (w:=wr) (cs:=inC x.from_ (.slice g x.key.length j)) rfl rfl rfl rfl C.o qD ?_));go_frame)
   go_roundw
   case rel=>exact⟨n+1,by simp,by omega,p.o,H.o⟩
   case measure=>show t.ins.length-(n+1)<t.ins.length-n;omega
  ·have Y:¬(n:Int)<(t.ins.length:Int):=by omega
   have I:=@J (wr.ownsRow w.heap.size 72 33 (.slice Z n lc) t.ins.length ((yI t).flatMap zi)) (by
    have:=o.o
    rw[List.take_of_length_le (by simp[yI];omega)] at this
    rwa [show t.ins.length=n by omega])
   go_wp2
   go_ret
   exact⟨_,rfl,I.o,l.o⟩
theorem zae (w:World) {l:List zY} (A:ZM w v l) {h:zY} (z:xU h) (R:l.length≤100000):
  Calls prog 20 #[v,.agg (zl h).toArray] w λe w'=>e=.returned (.bool (decide (h∈l)))∧Fr No w w':=by
 obtain⟨W,X,rfl⟩:=A.2.form
 have Y:=qt
 have E:=J A
 have m:=J z
 have D:=J (yr z)
 have i:=J ((frN w).alloc (.cells (zl h).toArray 40))
 have L:=J (zK w (zl h) 40)
 clear A z
 go_enter Tryz.func20,Tryz.ntmps20
 go_wp2_with fail
 generalize N:w.heap.size=V at*
 generalize w.alloc (.cells (zl h).toArray 40)=Q at*
 go_loopw [9] (λiv wr=>∃n:Nat,iv=.int .i64 n∧n≤l.length∧h∉l.take n∧Fr No Q wr) (λiv _=>l.length-(intOf iv).toNat)
 case atStart=>exact⟨0,rfl,zero_le _,by simp,Fr.refl _ _⟩
 case round=>
  obtain⟨n,rfl,T,g,fr⟩:=hrel
  have k:=J fr
  have F:=J g
  clear fr g
  by_cases B:n<l.length
  ·have P:(n:Int)<(l.length:Int):=by omega
   obtain⟨x,d⟩:∃x,l[n]? =some x:=⟨_,getElem?_eq_getElem B⟩
   obtain⟨b,off,M,O,C,-⟩:=(E.o.keep (i.o.trans0 k.o)).at_ d
   cases O
   have a:=J (E.o.1 x (mem_of_getElem? d))
   have c:=J (yr a.o)
   have G:=J C
   have H:=J (zK wr (zl x) 40)
   have j:=J (k.o.alloc (.cells (zl x).toArray 40))
   have f:=J (zb L.o j.o id)
   by_cases hxh:x=h
   ·have y:=@J (decide (h∈l)=true) (decide_eq_true (hxh▸mem_of_getElem? d))
    subst hxh
    clear C d
    have⟨o,q,r,s,t⟩:=tZ5
    go_wp2_with ((first|((with_reducible refine zt ?_);first|(clear o;refine ziT rfl rfl rfl G.o c.o ?_)|(clear r;refine ziT rfl rfl rfl H.o c.o ?_)|(clear s;refine ziT rfl rfl rfl f.o D.o ?_)|(clear t;refine zg rfl (jN.exec_eql rfl rfl rfl (xn a.o) (xn a.o) true ⟨λ_=>rfl,λ_=>rfl⟩ _) ?_))|((with_reducible refine zr ?_);clear q;refine zi3 (w:=wr) (cs:=zl x) rfl rfl rfl rfl c.o zX ?_));go_frame)
    go_ret
    exact⟨by rw[y.o];rfl,i.o.trans0 j.o⟩
   ·have I:=@J (¬(zl x).toArray=(zl h).toArray) (λe=>hxh (Yr (by simpa using congrArg Array.toList e)))
    have u:=@J (h∉l.take (n+1)) (by
     rw[take_add_one,d]
     simp only[Option.toList_some,mem_append,mem_singleton]
     rintro(hy|rfl)
     ·exact F.o hy
     ·exact hxh rfl)
    clear C d hxh
    have⟨o,q,r,s,t⟩:=tZ5
    go_wp2_with ((first|((with_reducible refine zt ?_);first|(clear o;refine ziT rfl rfl rfl G.o c.o ?_)|(clear r;refine ziT rfl rfl rfl H.o c.o ?_)|(clear s;refine ziT rfl rfl rfl f.o D.o ?_)|(clear t;refine zg rfl (jN.exec_eql rfl rfl rfl (xn a.o) (xn m.o) false ⟨λe=>(by cases e),λe=>absurd e I.o⟩ _) ?_))|((with_reducible refine zr ?_);clear q;refine zi3 (w:=wr) (cs:=zl x) rfl rfl rfl rfl c.o zX ?_));go_frame)
    go_roundw
    case rel=>exact⟨n+1,by simp,by omega,u.o,j.o⟩
    case measure=>show l.length-(n+1)<l.length-n;omega
  ·have P:¬(n:Int)<(l.length:Int):=by omega
   have K:=@J (decide (h∈l)=false) (by
    have:=F.o
    rw[show n=l.length by omega,take_length] at this
    exact decide_eq_false this)
   go_wp2
   go_ret
   exact⟨by rw[K.o];rfl,i.o.trans0 k.o⟩
section
variable {w0 w:World} {p:Nat} {iv:Value} {U:Nat→Prop} {S:List zh}
theorem zcZ (h:RS w0 w p iv U S) (hN:S.length≤100000) {t:TxD} (ht:TxQ w t cs) (hI:t.ins.length≤1000):
  Calls prog 71 #[.pointer (some ⟨p,0,none⟩),.agg cs.toArray] w λe w'=>∃v,e=.returned (.tuple #[v,.bool ((yI t).all (xE S))])∧((yI t).all (xE S)=true→w'.ownsRow w.heap.size 68 33 v (qX S t).length ((qX S t).flatMap zx))∧Fr No w w':=by
 have HR:=J h
 have HT:=J ht
 have PK:=@J (∀q∈yI t,q.ok) (λq hq=>by
  obtain⟨x,l,rfl⟩:=List.mem_map.1 hq
  exact ht.oks.1 x l)
 obtain⟨D,E,F,G,rfl,hv,hi,C⟩:=ht
 have zo:=yA
 have zp:=jk
 have F1:=J ((frN w).alloc (.cells #[.int .u32 t.ver,.slice D t.ins.length E,.slice F t.outs.length G] 62))
 obtain⟨-,-,-,r0⟩:=qF w t.ver (.slice D t.ins.length E) (.slice F t.outs.length G)
 have R0:=J r0
 have HP:=J (Qd (w.alloc (.cells #[.int .u32 t.ver,.slice D t.ins.length E,.slice F t.outs.length G] 62)) (HT.o.keep F1.o) hI)
 have r:=J (Xg t)
 clear h hv hi C r0
 show Calls prog 71 #[.pointer (some ⟨p,0,none⟩),.agg #[.int .u32 t.ver,.slice D t.ins.length E,.slice F t.outs.length G]] w _
 go_enter Tryz.func71,Tryz.ntmps71
 have⟨u,z⟩:=tZ2
 go_wp2_with ((first|((with_reducible refine zt ?_);clear u;refine ziU rfl rfl rfl R0.o rfl ?_;generalize w.alloc (.cells #[.int .u32 t.ver,.slice D t.ins.length E,.slice F t.outs.length G] 62)=w1 at*)|(clear z;go_at_call 74;refine HP.o.mono ?_;rintro e H ⟨v2,rfl,o2,f2⟩;have K:=J (F1.o.trans0 f2);have O:=J (XG (S:=yI t) (by rw[r.o];exact o2) PK.o);obtain⟨va,vc,rfl⟩:=o2.slice.arg.form;clear f2 o2));go_frame)
 have Y:=J (HR.o.fr0 K.o)
 have j:t.ins.length=(yI t).length:=r.o.symm
 rw[j] at hI⊢
 rw[j] at O
 clear j
 obtain⟨ps,a⟩:∃ps,ps=yI t:=⟨_,rfl⟩
 have R:=J a
 have W:=@J (qX S t=ps.map (yj S)) (by rw[a];rfl)
 rw[←a] at hI O PK⊢
 clear a
 go_loopw [6,14] (λov jv wr=>∃n:Nat,jv=.int .i64 n∧n≤ps.length∧(∀q∈ps.take n,xE S q=true)∧wr.ownsRow H.heap.size 68 33 ov n (((ps.take n).map (yj S)).flatMap zx)∧Fr No H wr) (λ_ jv _=>ps.length-(intOf jv).toNat)
 case atStart=>exact⟨0,rfl,zero_le _,by simp,World.ownsRow_nil _ _ _ _,Fr.refl _ _⟩
 case round=>
  obtain⟨n,rfl,hn,B,C,fr⟩:=hrel
  have o:=J fr
  have NI:=J B
  have T:=J C
  obtain⟨ad,ae,rfl⟩:=C.slice.arg.form
  have RR:=J (Y.o.fr0 fr)
  clear fr B C
  by_cases ab:n<ps.length
  ·have i1:(n:Int)<(ps.length:Int):=by omega
   obtain⟨q,l⟩:∃x,ps[n]? =some x:=⟨_,getElem?_eq_getElem ab⟩
   obtain⟨b,off,af,hv,hr,-⟩:=(O.o.keep o.o).at_ l
   cases hv
   have g:=J (O.o.1 q (mem_of_getElem? l))
   have c:=J (zF g.o)
   have XO:=J (vQ RR.o.ok q)
   have f:=J (z6 XO.o)
   have Q1:=J hr
   have RP:=J (zK wr (zi q) 72)
   have M:=J ((frN wr).alloc (.cells (zi q).toArray 72))
   have X:=J (mem_of_getElem? l)
   have s:=@J (ps.take (n+1)=ps.take n++[q]) (by rw[take_add_one,l];rfl)
   clear hr l
   cases hh:xE S q with
   |false=>
    have N:=J hh
    have I:=@J (ps.all (xE S)=false) (List.all_eq_false.2 ⟨q,X.o,by rw[hh];decide⟩)
    clear hh
    have⟨u,z,Z,K3,K4⟩:=tZ5
    go_wp2_with ((first|((with_reducible refine zt ?_);first|(clear u;refine ziX rfl rfl rfl Q1.o c.o ?_)|(clear Z;refine ziX rfl rfl rfl RP.o c.o ?_))|((with_reducible refine zr ?_);first|(clear z;refine ze rfl (zj (w:=wr) (cs:=zi q) (ty:=72) rfl rfl rfl (by rw[c.o];rfl) (by rw[c.o];exact yL) yB) ?_)|(clear K4;refine ze rfl (zj (w:=m) (cs:=zx (yj S q)) (ty:=68) rfl rfl rfl (by rw[f.o];rfl) (by rw[f.o];exact yW) zV) ?_))|(clear K3;go_at_call 78;refine(Yw (RR.o.fr0 M.o) (by omega) g.o).mono ?_;rintro e m ⟨rfl,d⟩;rw[N.o];have L:=J ((M.o.trans0 d).alloc (.cells (zx (yj S q)).toArray 68));clear d));go_frame)
    go_ret2
    exact⟨_,by rw[←R.o,I.o];rfl,(λe=>by rw[←R.o,I.o] at e;cases e),(K.o.trans0 o.o).trans0 L.o⟩
   |true=>
    have N:=J hh
    have aa:=@J (∀y∈ps.take (n+1),xE S y=true) (by
     rw[s.o]
     intro y hy
     rcases mem_append.1 hy with h|h
     ·exact NI.o y h
     ·rw[mem_singleton.1 h];exact N.o)
    have AP:=J (λ(m:World) (d:Fr No wr m)=>yw (P:=prog) m H.heap.size 22 22 68 33 40 _ vU Jw (by rw[←xq];rfl) (by decide) (zf T.o d (λ_ _=>id)) (zx (yj S q)) f.o zV (by omega) (by unfold maxLen;omega) (o.o.trans0 d).size)
    clear hh
    have⟨u,z,Z,K3,K4,K5,K6,K7⟩:=tZ8
    go_wp2_with ((first|((with_reducible refine zt ?_);first|(clear u;refine ziX rfl rfl rfl Q1.o c.o ?_)|(clear Z;refine ziX rfl rfl rfl RP.o c.o ?_)|(clear K5;refine ziW rfl rfl rfl RO.o f.o ?_)|(clear K6;refine zg rfl (zL (t:=22) rfl rfl vU JZ (by rw[←xq];rfl) (by decide) (by decide) f.o) ?_)|(clear K7;at_builtin;refine zk rfl rfl rfl rfl Q.o ?_))|((with_reducible refine zr ?_);first|(clear z;refine ze rfl (zj (w:=wr) (cs:=zi q) (ty:=72) rfl rfl rfl (by rw[c.o];rfl) (by rw[c.o];exact yL) yB) ?_)|(clear K4;refine ze rfl (zj (w:=m) (cs:=zx (yj S q)) (ty:=68) rfl rfl rfl (by rw[f.o];rfl) (by rw[f.o];exact yW) zV) ?_))|(clear K3;go_at_call 78;refine(Yw (RR.o.fr0 M.o) (by omega) g.o).mono ?_;rintro e m ⟨rfl,d⟩;rw[N.o];have L:=J ((M.o.trans0 d).alloc (.cells (zx (yj S q)).toArray 68));clear d;have RO:=J (zK m (zx (yj S q)) 68);obtain⟨v5,w5,A,k,f5,-,-⟩:=AP.o _ L.o;have F5:=@J (Fr No H w5) ((o.o.trans0 L.o).trans f5 (λi hi e=>by have:=(T.o.lt i e).1;omega));have V:=@J (w5.ownsRow H.heap.size 68 33 v5 (n+1) (((ps.take (n+1)).map (yj S)).flatMap zx)) (by rw[s.o];simpa using k);obtain⟨a5,c5,rfl⟩:=k.slice.arg.form;have Q:=J A;clear A k f5));go_frame)
    go_roundw
    case rel=>exact⟨n+1,by simp,by omega,aa.o,V.o,F5.o⟩
    case measure=>show ps.length-(n+1)<ps.length-n;omega
  ·have i1:¬(n:Int)<(ps.length:Int):=by omega
   have hT:ps.take n=ps:=by rw[show n=ps.length by omega,take_length]
   have I:=@J (ps.all (xE S)=true) (by
    rw[List.all_eq_true]
    have:=NI.o
    rwa [hT] at this)
   have OX:=@J (wr.ownsRow w.heap.size 68 33 (.slice ad n ae) (ps.map (yj S)).length ((ps.map (yj S)).flatMap zx)) (by
    have:=qs T.o K.o.size
    rw[hT] at this
    rw[length_map]
    rwa [show ps.length=n by omega])
   have FF:=J (K.o.trans0 o.o)
   clear hT
   go_wp2_with fail
   go_ret2
   exact⟨_,by rw[←R.o,I.o];rfl,(λ_=>by rw[W.o];exact OX.o),FF.o⟩
end
section
open Go.Sort
theorem zdf:prog.underlying 115=some (.slice (prog.elem 115)):=by kernel_rfl
theorem zc8:∀w:World,(sizeOf (prog.elem 115)).run prog w=.ok 33 w:=by
 intro w
 have h:(prog.info? (prog.elem 115)).map (λi=>(i.zero,i.size,i.bytes))=some (some (.agg (zi vn).toArray),33,36):=by kernel_rfl
 obtain⟨i,hi,c,a,b⟩:=info_parts h
 simp[sizeOf,typeInfo,hi,a]
theorem zcy (a:Addr) (n b q:Nat) (c:q≤b) (w:World):
  (Instr.slice 115 (.slice (some a) n b) none (some (.int .i64 (q:Int))) none).run prog w=.ok (.slice (some a) q b) w:=by
 rw[run_slice_h w 115 (some a) n b zdf .i64 q (by omega) (by omega),zc8]
 simp[Result.andThen,sliced,Addr.add]
theorem Vd (a:Option Addr) (n c:Nat) (w:World):(Builtin.len_ #[115] 3 #[.slice a n c]).run prog w=.ok (.int .i64 n) w:=by
 simp[Builtin.len_,run_underlying qH]
 rfl
theorem zce {ps:List zE} {n m:Nat} {x:zE} (b:ps[n]? =some x) (d:ps[m]? =some x) (c:m<n):¬ps.Nodup:=by
 intro a
 have:=(List.getElem?_inj (List.getElem?_eq_some_iff.1 b).1 a).1 (b.trans d.symm)
 omega
theorem ZF (w:World) {ps:List zE} (t:qz w v ps) (hN:ps.length≤100000):
  Calls prog 76 #[v] w λe w'=>e=.returned (.bool (!decide ps.Nodup))∧Fr No w w':=by
 obtain⟨va,vc,rfl⟩:=t.2.form
 have zp:=jk
 have Q:=xG.cap t.2
 have s:=J t
 have R:=Vd
 clear t
 go_enter Tryz.func76,Tryz.ntmps76
 go_wp2_with fail
 go_loopw [9] (λi wr=>∃n:Nat,i=.int .i64 n∧n≤ps.length∧(ps.take n).Nodup∧Fr No w wr) (λi _=>ps.length-(intOf i).toNat)
 case atStart=>exact⟨0,rfl,zero_le _,by simp,Fr.refl _ _⟩
 case round=>
  obtain⟨n,rfl,hn,q,fr⟩:=hrel
  have C:=J fr
  have M:=J q
  clear fr q
  by_cases h:n<ps.length
  ·have i1:(n:Int)<(ps.length:Int):=by omega
   obtain⟨x,u⟩:∃x,ps[n]? =some x:=⟨_,getElem?_eq_getElem h⟩
   obtain⟨b,off,Y,hv,S,-⟩:=(s.o.keep C.o).at_ u
   cases hv
   have o:=J (s.o.1 x (mem_of_getElem? u))
   have l:=J (zF o.o)
   have W:=J S
   have K:=J u
   have X:=J (zK wr (zi x) 72)
   have A:=J (C.o.alloc (.cells (zi x).toArray 72))
   have G:=zcy ⟨b,off,none⟩ ps.length vc n (by omega)
   clear S u
   go_wp2_with (first|(refine ziX rfl rfl rfl W.o l.o ?_)|(refine ze rfl (zj (w:=wr) (cs:=zi x) (ty:=72) rfl rfl rfl (by rw[l.o];rfl) (by rw[l.o];exact yL) yB) ?_))
   clear G
   generalize aa:wr.heap.size=q0 at*
   generalize wr.alloc (.cells (zi x).toArray 72)=wa at*
   go_loopw [18] (λi I=>∃m:Nat,i=.int .i64 m∧m≤n∧(∀y∈ps.take m,y≠x)∧Fr No wa I) (λi _=>n-(intOf i).toNat)
   case atStart=>exact⟨0,rfl,zero_le _,by simp,Fr.refl _ _⟩
   case round=>
    obtain⟨m,rfl,hm,c,p⟩:=hrel
    have g:=J p
    have L:=J c
    clear p c
    by_cases h2:m<n
    ·have i2:(m:Int)<(n:Int):=by omega
     obtain⟨y,j⟩:∃y,ps[m]? =some y:=⟨_,getElem?_eq_getElem (by omega)⟩
     obtain⟨b2,T,P,H,r,-⟩:=(s.o.keep (A.o.trans0 g.o)).at_ j
     cases H
     have d:=J (s.o.1 y (mem_of_getElem? j))
     have f:=J (zF d.o)
     have N:=J r
     have O:=J (zK wr (zi y) 72)
     have B:=J (g.o.alloc (.cells (zi y).toArray 72))
     have k:=J (zb X.o B.o id)
     clear r
     by_cases hxy:y=x
     ·have U:=J (zce K.o (hxy▸j) h2)
      have D:=@J ((!decide ps.Nodup)=true) (by rw[decide_eq_false U.o];rfl)
      subst hxy
      clear j
      go_wp2_with (first|(refine ziX rfl rfl rfl k.o l.o ?_)|(refine ziX rfl rfl rfl O.o f.o ?_)|(refine ziX rfl rfl rfl N.o f.o ?_)|(refine ze rfl (zj (w:=wr) (cs:=zi y) (ty:=72) rfl rfl rfl (by rw[f.o];rfl) (by rw[f.o];exact yL) yB) ?_)|(refine zg rfl (vi.exec_eql rfl rfl rfl (yF d.o) (yF d.o) true ⟨λ_=>rfl,λ_=>rfl⟩ _) ?_))
      go_ret
      exact⟨by rw[D.o];rfl,A.o.trans0 B.o⟩
     ·have V:=@J (¬(zi x).toArray=(zi y).toArray) (λe=>hxy (qO (congrArg Value.agg e.symm)))
      have E:=@J (∀z∈ps.take (m+1),z≠x) (by
       rw[take_add_one,j]
       simp only[Option.toList_some,mem_append,mem_singleton]
       rintro z (hz|rfl)
       ·exact L.o z hz
       ·exact hxy)
      clear j
      go_wp2_with (first|(refine ziX rfl rfl rfl k.o l.o ?_)|(refine ziX rfl rfl rfl O.o f.o ?_)|(refine ziX rfl rfl rfl N.o f.o ?_)|(refine ze rfl (zj (w:=wr) (cs:=zi y) (ty:=72) rfl rfl rfl (by rw[f.o];rfl) (by rw[f.o];exact yL) yB) ?_)|(refine zg rfl (vi.exec_eql rfl rfl rfl (yF o.o) (yF d.o) false ⟨λe=>(by cases e),λe=>absurd e V.o⟩ _) ?_))
      go_roundw
      case rel=>exact⟨m+1,by simp,by omega,E.o,B.o⟩
      case measure=>show n-(m+1)<n-m;omega
    ·have i2:¬(m:Int)<(n:Int):=by omega
     have F:=@J ((ps.take (n+1)).Nodup) (by
      have c:=L.o
      rw[show m=n by omega] at c
      rw[take_add_one,K.o]
      simp only[Option.toList_some]
      rw[List.nodup_append]
      exact⟨M.o,by simp,λa Z b hb=>by rw[mem_singleton.1 hb];exact c a Z⟩)
     go_wp2
     go_roundw
     case rel=>exact⟨n+1,by simp,by omega,F.o,A.o.trans0 g.o⟩
     case measure=>show ps.length-(n+1)<ps.length-n;omega
  ·have i1:¬(n:Int)<(ps.length:Int):=by omega
   have D:=@J ((!decide ps.Nodup)=false) (by
    have:=M.o
    rw[show n=ps.length by omega,take_length] at this
    rw[decide_eq_true this];rfl)
   go_wp2
   go_ret
   exact⟨by rw[D.o];rfl,C.o⟩
end
theorem zfT {x:Int} (a:0≤x) (h:x<4294967296):JE 4 x=0:=by simp only[JE];omega
theorem zc7 {x:Int} (a:0≤x) (h:x≤18446744073709551615):JE 8 x=0:=by simp only[JE];omega
theorem zes (w:World) {x:Int} (o:0≤x∧x≤18446744073709551615) (p:JE 4 x=0):Calls prog 45 #[.int .u64 x,.int .i64 4] w λe w'=>∃v,e=.returned (.tuple #[v,.int .i64 0])∧yC w' w.heap.size v (leB 4 x)∧Fr No w w':=by
 have u:=J o
 have y:=J p
 clear o p
 go_enter Tryz.func45,Tryz.ntmps45
 go_wp2
 go_loopw [6,0,22] (λD G g wr=>∃k:Nat,g=.int .i64 k∧k≤4∧G=.int .u64 (JE k x)∧yC wr w.heap.size D (leB k x)∧Fr No w wr) (λ_ _ g _=>4-(intOf g).toNat)
 case atStart=>exact⟨0,rfl,zero_le _,rfl,yC.nil _ _,Fr.refl _ _⟩
 case round=>
  obtain⟨k,rfl,I,rfl,f,fr⟩:=hrel
  rename World=>wr
  have c:=J f
  have b:=J fr
  obtain⟨B,C,rfl⟩:=f.form
  clear f fr
  by_cases hlt:k<4
  ·have M:(k:Int)<4:=by omega
   have K:=Qq k u.o
   obtain⟨E,F,j,l,n,A⟩:=yT wr (x:=JE k x % 256) c.o (by rw[xh];omega) b.o.size 84
   have q:=J j
   have r:=@J (yC F w.heap.size E (leB (k+1) x)) (by rw[Xa];exact l)
   have s:=J (b.o.trans n (λi hi e=>by have:=(c.o.lt i e).1;omega))
   have z:=J (Zh k x)
   clear j l n A
   generalize leB k x=L at*
   go_wp2_with (first|(at_builtin;refine zk rfl rfl rfl rfl q.o ?_))
   go_roundw
   case rel=>exact⟨k+1,by go_num,by omega,by rw[z.o],r.o,s.o⟩
   case measure=>simp[intOf];omega
  ·have d:k=4:=by omega
   subst d
   have t:=@J (∃a,(Value.slice B (leB 4 x).length C)=a∧yC wr w.heap.size a (leB 4 x)∧Fr No w wr) (⟨_,rfl,c.o,b.o⟩)
   generalize H:(leB 4 x).length=m at*
   rw[y.o]
   go_wp2
   go_ret2
   obtain⟨a,e,h⟩:=t.o
   exact⟨a,by rw[←e];rfl,h⟩
theorem zan (w:World) {x:Int} (o:0≤x∧x≤18446744073709551615) (p:JE 8 x=0):Calls prog 45 #[.int .u64 x,.int .i64 8] w λe w'=>∃v,e=.returned (.tuple #[v,.int .i64 0])∧yC w' w.heap.size v (leB 8 x)∧Fr No w w':=by
 have u:=J o
 have y:=J p
 clear o p
 go_enter Tryz.func45,Tryz.ntmps45
 go_wp2
 go_loopw [6,0,22] (λD G g wr=>∃k:Nat,g=.int .i64 k∧k≤8∧G=.int .u64 (JE k x)∧yC wr w.heap.size D (leB k x)∧Fr No w wr) (λ_ _ g _=>8-(intOf g).toNat)
 case atStart=>exact⟨0,rfl,zero_le _,rfl,yC.nil _ _,Fr.refl _ _⟩
 case round=>
  obtain⟨k,rfl,I,rfl,f,fr⟩:=hrel
  rename World=>wr
  have c:=J f
  have b:=J fr
  obtain⟨B,C,rfl⟩:=f.form
  clear f fr
  by_cases hlt:k<8
  ·have M:(k:Int)<8:=by omega
   have K:=Qq k u.o
   obtain⟨E,F,j,l,n,A⟩:=yT wr (x:=JE k x % 256) c.o (by rw[xh];omega) b.o.size 84
   have q:=J j
   have r:=@J (yC F w.heap.size E (leB (k+1) x)) (by rw[Xa];exact l)
   have s:=J (b.o.trans n (λi hi e=>by have:=(c.o.lt i e).1;omega))
   have z:=J (Zh k x)
   clear j l n A
   generalize leB k x=L at*
   go_wp2_with (first|(at_builtin;refine zk rfl rfl rfl rfl q.o ?_))
   go_roundw
   case rel=>exact⟨k+1,by go_num,by omega,by rw[z.o],r.o,s.o⟩
   case measure=>simp[intOf];omega
  ·have d:k=8:=by omega
   subst d
   have t:=@J (∃a,(Value.slice B (leB 8 x).length C)=a∧yC wr w.heap.size a (leB 8 x)∧Fr No w wr) (⟨_,rfl,c.o,b.o⟩)
   generalize H:(leB 8 x).length=m at*
   rw[y.o]
   go_wp2
   go_ret2
   obtain⟨a,e,h⟩:=t.o
   exact⟨a,by rw[←e];rfl,h⟩
theorem zeT (w:World) (x:Int):yC (w.alloc (.cells #[zu x] 5)) w.heap.size (.slice (some ⟨w.heap.size,0,none⟩) 1 1) [x]:=World.ownsRow_lit w #[zu x] 1 (le_refl _) (by unfold maxLen;decide) rfl
theorem J9 (w:World) {x:Int} (c:0≤x∧x≤18446744073709551615) (d:JE 4 x=0):Calls prog 58 #[.int .u64 x,.int .i64 4] w λe w'=>∃v,e=.returned v∧yC w' w.heap.size v (leB 4 x)∧Fr No w w':=by
 have h:=J (zes w c d)
 clear c d
 go_enter Tryz.func58,Tryz.ntmps58
 go_wp2_with (first|(go_at_call 45;refine h.o.mono ?_;rintro e i ⟨v,rfl,a,b⟩;have f:=J a;have g:=J b;clear a b))
 go_ret
 exact⟨_,rfl,f.o,g.o⟩
theorem XJ (w:World) {x:Int} (c:0≤x∧x≤18446744073709551615) (d:JE 8 x=0):Calls prog 58 #[.int .u64 x,.int .i64 8] w λe w'=>∃v,e=.returned v∧yC w' w.heap.size v (leB 8 x)∧Fr No w w':=by
 have h:=J (zan w c d)
 clear c d
 go_enter Tryz.func58,Tryz.ntmps58
 go_wp2_with (first|(go_at_call 45;refine h.o.mono ?_;rintro e i ⟨v,rfl,a,b⟩;have f:=J a;have g:=J b;clear a b))
 go_ret
 exact⟨_,rfl,f.o,g.o⟩
theorem Za (w:World) {x:Int} (c:0≤x∧x≤18446744073709551615) (d:JE 8 x=0):Calls prog 29 #[.int .u64 x,.int .i64 8] w λe w'=>∃v,e=.returned v∧yC w' w.heap.size v (leB 8 x)∧Fr No w w':=by
 have h:=J (zan w c d)
 clear c d
 go_enter Tryz.func29,Tryz.ntmps29
 go_wp2_with (first|(go_at_call 45;refine h.o.mono ?_;rintro e i ⟨v,rfl,a,b⟩;have f:=J a;have g:=J b;clear a b))
 go_ret
 exact⟨_,rfl,f.o,g.o⟩
theorem Xp (w:World) {x:Int} (a:0≤x∧x<253):Calls prog 30 #[.int .u64 x] w λe w'=>∃v,e=.returned v∧yC w' w.heap.size v [x]∧Fr No w w':=by
 have b:=J (zeT w x)
 have c:x % 256=x:=by omega
 have d:=a.1
 have f:x<253:=a.2
 clear a
 go_enter Tryz.func30,Tryz.ntmps30
 go_wp2
 go_ret
 exact⟨_,rfl,b.o,(frN w).alloc _⟩
theorem zad (w:World) {t:TxD} (P:TxQ w t cs):
  Calls prog 57 #[.agg cs.toArray] w λe w'=>e=.returned (.bool (yV t))∧Fr No w w':=by
 obtain⟨s,u,v,y,rfl,-,hi,-⟩:=P
 have X:=vX
 have i:=J ((frN w).alloc (.cells #[.int .u32 t.ver,.slice s t.ins.length u,.slice v t.outs.length y] 62))
 obtain⟨-,c1,c2,-⟩:=qF w t.ver (.slice s t.ins.length u) (.slice v t.outs.length y)
 have K:=J (hi.keep0 i.o)
 have O:t.ins.length≤9223372036854775807:=Nat.le_trans hi.len (by unfold maxLen;decide)
 clear hi
 show Calls prog 57 #[.agg #[.int .u32 t.ver,.slice s t.ins.length u,.slice v t.outs.length y]] w _
 by_cases k:t.ins.length≤8
 rotate_left
 ·have H:decide ((8:Int)<(t.ins.length:Int))=true:=by simp;omega
  have c:=@J (yV t=false) (by simp[yV,k])
  clear k
  go_enter Tryz.func57,Tryz.ntmps57
  go_wp2
  go_ret
  exact⟨by rw[c.o];rfl,i.o⟩
 by_cases r:t.outs.length≤8
 rotate_left
 ·have H:decide ((8:Int)<(t.ins.length:Int))=false:=by simp;omega
  have S:decide ((8:Int)<(t.outs.length:Int))=true:=by simp;omega
  have c:=@J (yV t=false) (by simp[yV,r])
  clear k r
  go_enter Tryz.func57,Tryz.ntmps57
  go_wp2
  go_ret
  exact⟨by rw[c.o];rfl,i.o⟩
 have H:decide ((8:Int)<(t.ins.length:Int))=false:=by simp;omega
 have S:decide ((8:Int)<(t.outs.length:Int))=false:=by simp;omega
 have j:=@J (decide (t.ins.length≤8)=true∧decide (t.outs.length≤8)=true) (⟨by simp[k],by simp[r]⟩)
 clear k r
 go_enter Tryz.func57,Tryz.ntmps57
 go_wp2
 generalize w.alloc (.cells #[.int .u32 t.ver,.slice s t.ins.length u,.slice v t.outs.length y] 62)=U at*
 generalize w.heap.size=q at*
 clear c1 c2
 go_loopw [18] (λC wr=>∃n:Nat,C=.int .i64 n∧n≤t.ins.length∧(∀x∈t.ins.take n,x.key.length≤64)∧Fr No U wr) (λC _=>t.ins.length-(intOf C).toNat)
 case atStart=>exact⟨0,rfl,zero_le _,by simp,Fr.refl _ _⟩
 case round=>
  obtain⟨n,rfl,W,m,fr⟩:=hrel
  rename World=>wr
  have z:=J fr
  have A:=J m
  clear fr m
  by_cases B:n<t.ins.length
  ·have R:(n:Int)<(t.ins.length:Int):=by omega
   obtain⟨x,o⟩:∃x,t.ins[n]? =some x:=⟨_,getElem?_eq_getElem B⟩
   obtain⟨b,off,N,cs,Q,G,f,g,rfl,h,l⟩:=(K.o.keep0 z.o).at_ o
   cases Q
   have F:=J G
   have p:=J (vl h (.slice f x.key.length g))
   have M:=(jO wr (kv:=.slice f x.key.length g) h).2
   have D:=J (z.o.alloc (.cells (inC x.from_ (.slice f x.key.length g)).toArray 106))
   have E:=J o
   clear G l h o
   by_cases hk:64<x.key.length
   ·have T:decide ((64:Int)<(x.key.length:Int))=true:=by simp;omega
    have c:=@J (yV t=false) (by
     have:t.ins.all (λx=>decide (x.key.length≤64))=false:=by
      rw[List.all_eq_false]
      exact⟨x,mem_of_getElem? E.o,by simp;omega⟩
     simp[yV,this])
    clear hk
    go_wp2_with (first|(refine ziV rfl rfl rfl F.o p.o ?_)|(refine zi4 (w:=wr) (cs:=inC x.from_ (.slice f x.key.length g)) rfl rfl rfl rfl p.o qD ?_;generalize wr.alloc (.cells (inC x.from_ (.slice f x.key.length g)).toArray 106)=V at*))
    go_ret
    exact⟨by rw[c.o];rfl,i.o.trans0 D.o⟩
   ·have T:decide ((64:Int)<(x.key.length:Int))=false:=by simp;omega
    have L:=@J (∀e∈t.ins.take (n+1),e.key.length≤64) (λe d=>by
     rw[take_add_one,E.o] at d
     rcases mem_append.1 d with d|d
     ·exact A.o e d
     ·simp at d;subst d;omega)
    clear hk
    go_wp2_with (first|(refine ziV rfl rfl rfl F.o p.o ?_)|(refine zi4 (w:=wr) (cs:=inC x.from_ (.slice f x.key.length g)) rfl rfl rfl rfl p.o qD ?_;generalize wr.alloc (.cells (inC x.from_ (.slice f x.key.length g)).toArray 106)=V at*))
    go_roundw
    case rel=>exact⟨n+1,by go_num,by omega,L.o,D.o⟩
    case measure=>simp[intOf];omega
  ·have R:¬(n:Int)<(t.ins.length:Int):=by omega
   have a:t.ins.all (λx=>decide (x.key.length≤64))=true:=by
    rw[List.all_eq_true]
    intro x o
    rw[show n=t.ins.length by omega,take_length] at A
    simpa using A.o x o
   have c:=@J (yV t=true) (by unfold yV;rw[a,j.o.1,j.o.2];rfl)
   have I:=J (i.o.trans0 z.o)
   clear a
   go_wp2
   go_ret
   exact⟨by rw[c.o];rfl,I.o⟩
end Go.Proofs.YtmpamcnlineceaaGreatDoor
