/- Plain: what hangs on what. -/
import Derived.Lib.Hide
import Derived.Outline
import Derived.Lib.SliceRun
import Derived.Test.YtbcllfjmabiafaaGreatDoorPG5
import Derived.Test.YtbcllfjmabiafaaGreatDoorPG2
set_option linter.unusedVariables false
set_option linter.unusedSimpArgs false
set_option linter.unnecessarySimpa false
set_option linter.all false
set_option maxRecDepth 20000
set_option maxHeartbeats 16000000
namespace Go.Proofs.YtbcllfjmabiafaaGreatDoor
open Go Go.RowKit Go.Maps Go.MapKept
open Go.Proofs.Tryz(prog)
open List(mem_map getElem?_eq_getElem mem_append mem_of_getElem? mem_cons take_add_one mem_singleton take_length mem_filter map_append length_take nodup_cons map_cons nodup_append filter_append filter_eq_self mem_flatMap map_map append_of_mem drop_drop filter_sublist)
open Nat(zero_le le_trans)
variable {v:Value}
section
section
variable {α:Type}
inductive Rch (E:α→List α) (I:α→Prop):α→α→Prop
 |refl {x:α}:I x→Rch E I x x
 |step {x y z:α}:I x→y∈E x→Rch E I y z→Rch E I x z
variable {E E':α→List α} {I J:α→Prop}
theorem Rch.left {x y:α} (h:Rch E I x y):I x:=by cases h<;>assumption
theorem Rch.right {x y:α} (h:Rch E I x y):I y:=by
 induction h with
 |refl h=>exact h
 |step _ _ _ ih=>exact ih
theorem Rch.trans {x y z:α} (h:Rch E I x y) (a:Rch E I y z):Rch E I x z:=by
 induction h with
 |refl _=>exact a
 |step h1 h3 _ ih=>exact .step h1 h3 (ih a)
theorem Rch.snoc {x y z:α} (h:Rch E I x y) (a:z∈E y) (i:I z):Rch E I x z:=h.trans (.step h.right a (.refl i))
theorem Rch.flip (a:∀x y,I x→I y→y∈E x→x∈E' y) {x y:α} (h:Rch E I x y):Rch E' I y x:=by
 induction h with
 |refl h=>exact .refl h
 |step h1 h2 h3 ih=>exact ih.snoc (a _ _ h1 h3.left h2) h1
theorem Rch.mono (a:∀x,I x→J x) (b:∀x y,I x→I y→y∈E x→y∈E' x) {x y:α} (h:Rch E I x y):Rch E' J x y:=by
 induction h with
 |refl h=>exact .refl (a _ h)
 |step h1 h2 h3 ih=>exact .step (a _ h1) (b _ _ h1 h3.left h2) ih
structure Wl (E:α→List α) (I:α→Prop) (l todo vis:List α):Prop where
 sub:∀x∈vis,I x
 snd:∀x∈vis,∃a∈l,Rch E I a x
 td:∀x∈todo,I x→∃a∈l,Rch E I a x
 start:∀a∈l,I a→a∈vis∨a∈todo
 clos:∀x∈vis,∀y∈E x,I y→y∈vis∨y∈todo
theorem Wl.init (l:List α):Wl E I l l []:=⟨by simp,by simp,λx c hi=>⟨x,c,.refl hi⟩,λa b _=>.inr b,by simp⟩
theorem Wl.skip {l todo vis:List α} {x:α} (h:Wl E I l (todo++[x]) vis) (b:¬I x∨x∈vis):Wl E I l todo vis:=by
 refine⟨h.sub,h.snd,λy c=>h.td y (by simp[c]),λa d hi=>?_,λy c z e hi=>?_⟩
 ·rcases h.start a d hi with h1|h1
  ·exact .inl h1
  ·rcases mem_append.1 h1 with h2|h2
   ·exact .inr h2
   ·obtain rfl:=mem_singleton.1 h2
    rcases b with b|b
    ·exact absurd hi b
    ·exact .inl b
 ·rcases h.clos y c z e hi with h1|h1
  ·exact .inl h1
  ·rcases mem_append.1 h1 with h2|h2
   ·exact .inr h2
   ·obtain rfl:=mem_singleton.1 h2
    rcases b with b|b
    ·exact absurd hi b
    ·exact .inl b
theorem Wl.visit {l todo vis:List α} {x:α} (h:Wl E I l (todo++[x]) vis) (hi:I x):Wl E I l (todo++E x) (x::vis):=by
 obtain⟨a,e,f⟩:=h.td x (by simp) hi
 refine⟨λy c=>?_,λy c=>?_,λy c d=>?_,λb i d=>?_,λy c z g d=>?_⟩
 ·rcases mem_cons.1 c with rfl|c
  ·exact hi
  ·exact h.sub y c
 ·rcases mem_cons.1 c with rfl|c
  ·exact⟨a,e,f⟩
  ·exact h.snd y c
 ·rcases mem_append.1 c with c|c
  ·exact h.td y (by simp[c]) d
  ·exact⟨a,e,f.snoc c d⟩
 ·rcases h.start b i d with h1|h1
  ·exact .inl (by simp[h1])
  ·rcases mem_append.1 h1 with h2|h2
   ·exact .inr (by simp[h2])
   ·exact .inl (by simp[mem_singleton.1 h2])
 ·rcases mem_cons.1 c with rfl|c
  ·exact .inr (by simp[g])
  ·rcases h.clos y c z g d with h1|h1
   ·exact .inl (by simp[h1])
   ·rcases mem_append.1 h1 with h2|h2
    ·exact .inr (by simp[h2])
    ·exact .inl (by simp[mem_singleton.1 h2])
theorem Wl.done {l vis:List α} (h:Wl E I l [] vis) (x:α):x∈vis↔∃a∈l,Rch E I a x:=by
 refine⟨h.snd x,λ⟨a,e,d⟩=>?_⟩
 have c:∀y z,Rch E I y z→y∈vis→z∈vis:=by
  intro y z b
  induction b with
  |refl _=>exact id
  |step h1 h2 h3 ih=>exact λf=>ih ((h.clos _ f _ h2 h3.left).elim id (λh=>by simp at h))
 exact c a x d ((h.start a e d.left).elim id (λh=>by simp at h))
variable [DecidableEq α]
def wlW (E:α→List α) (vis:List α):List α→Nat
 |[]=>0
 |x::r=>(if x∈vis then 0 else(E x).length)+wlW E vis r
theorem zat {vis:List α} {x:α}:∀ {l:List α},x∉l→wlW E (x::vis) l=wlW E vis l
 |[],_=>rfl
 |y::r,h=>by
  have b:y≠x:=λe=>h (by simp[e])
  have a:x∉r:=λe=>h (by simp[e])
  simp only[wlW,mem_cons,b,false_or]
  rw[zat a]
theorem QQ {vis:List α} {x:α} (a:x∉vis):∀ {l:List α},l.Nodup→x∈l→wlW E (x::vis) l+(E x).length=wlW E vis l
 |[],_,h=>by cases h
 |y::r,hn,h=>by
  obtain⟨c,d⟩:=nodup_cons.1 hn
  by_cases e:y=x
  ·subst e
   simp only[wlW,List.mem_cons_self,if_true,if_neg a]
   rw[zat c]
   omega
  ·have b:x∈r:=by
    rcases mem_cons.1 h with h|h
    ·exact absurd h.symm e
    ·exact h
   have:=QQ a d b
   simp only[wlW,mem_cons,e,false_or]
   omega
theorem zkx {k:Nat} {vis:List α}:∀ {l:List α},(∀x∈l,(E x).length≤k)→wlW E vis l≤l.length*k
 |[],_=>zero_le _
 |y::r,h=>by
  have b:=h y (by simp)
  have c:=zkx (vis:=vis) (l:=r) λx a=>h x (by simp[a])
  simp only[wlW,List.length_cons,Nat.succ_mul]
  split<;>omega
end
structure yL where
 id:zf
 ps:List zf
def ids (G:List yL):List zf:=G.map (·.id)
def par (G:List yL) (x:zf):List zf:=((G.find? λn=>decide (n.id=x)).map (·.ps)).getD []
def kid (G:List yL) (x:zf):List zf:=(G.filter λn=>decide (x∈n.ps)).map (·.id)
structure GOk (G:List yL):Prop where
 nd:(ids G).Nodup
 pn:∀n∈G,n.ps.Nodup
 top:∀A n B,G=A++n::B→∀p∈n.ps,p∈ids A
variable {G:List yL}
theorem vC (h:GOk G) {n:yL} (b:n∈G):par G n.id=n.ps:=by
 unfold par
 have a:=h.nd
 clear h
 induction G with
 |nil=>cases b
 |cons y r ih=>
  simp only[ids,map_cons,nodup_cons] at a
  rcases mem_cons.1 b with rfl|b
  ·simp
  ·have:y.id≠n.id:=λe=>a.1 (e▸mem_map.2 ⟨n,b,rfl⟩)
   rw[List.find?_cons_of_neg (by simpa using this)]
   exact ih b a.2
theorem ZR {x:zf} (h:x∉ids G):par G x=[]:=by
 unfold par
 rw[List.find?_eq_none.2]
 ·rfl
 ·intro n a
  simp only[decide_eq_true_eq]
  exact λe=>h (e▸mem_map.2 ⟨n,a,rfl⟩)
theorem jh {x:zf}:x∈ids G↔∃n∈G,n.id=x:=mem_map
theorem zbx {x y:zf}:y∈kid G x↔∃n∈G,n.id=y∧x∈n.ps:=by
 unfold kid
 simp only[mem_map,mem_filter,decide_eq_true_eq]
 exact⟨λ⟨n,⟨a,b⟩,c⟩=>⟨n,a,c,b⟩,λ⟨n,a,c,b⟩=>⟨n,⟨a,b⟩,c⟩⟩
theorem V2 (h:GOk G) {x y:zf}:y∈kid G x↔y∈ids G∧x∈par G y:=by
 rw[zbx]
 constructor
 ·rintro⟨n,a,rfl,b⟩
  exact⟨jh.2 ⟨n,a,rfl⟩,by rw[vC h a];exact b⟩
 ·rintro⟨c,b⟩
  obtain⟨n,a,rfl⟩:=jh.1 c
  exact⟨n,a,rfl,by rwa [vC h a] at b⟩
theorem Xc (h:GOk G) {x y:zf} (a:y∈par G x):y∈ids G:=by
 by_cases hx:x∈ids G
 ·obtain⟨n,b,rfl⟩:=jh.1 hx
  rw[vC h b] at a
  obtain⟨A,B,rfl⟩:=append_of_mem b
  have:=h.top A n B rfl y a
  simp only[ids,map_append,mem_append] at this⊢
  exact .inl this
 ·rw[ZR hx] at a;cases a
theorem zii (h:GOk G) (x:zf):(kid G x).Nodup:=List.Nodup.sublist (List.Sublist.map _ filter_sublist) h.nd
theorem zbu (x:zf):(kid G x).length≤G.length:=by unfold kid;rw[List.length_map];exact List.length_filter_le _ _
theorem xB {α:Type} [DecidableEq α]:∀ {l m:List α},l.Nodup→(∀x∈l,x∈m)→l.length≤m.length
 |[],_,_,_=>zero_le _
 |x::r,m,hn,h=>by
  obtain⟨b,c⟩:=nodup_cons.1 hn
  have d:=xB (l:=r) (m:=m.erase x) c λy a=>(List.mem_erase_of_ne (by rintro rfl;exact b a)).2 (h y (by simp[a]))
  have e:=List.length_erase_of_mem (h x (by simp))
  have f:=List.length_pos_of_mem (h x (by simp))
  simp only[List.length_cons]
  omega
theorem zed (h:GOk G) (x:zf):(par G x).length≤G.length:=by
 have a:(par G x).Nodup:=by
  by_cases hx:x∈ids G
  ·obtain⟨n,a,rfl⟩:=jh.1 hx
   rw[vC h a];exact h.pn n a
  ·rw[ZR hx];simp
 have:=xB a (m:=ids G) λy b=>Xc h b
 simpa[ids] using this
def Anc (G:List yL) (x y:zf):Prop:=Rch (par G) (· ∈ids G) x y
theorem zgY (h:GOk G) {x y:zf}:Rch (kid G) (· ∈ids G) x y↔Anc G y x:=
 ⟨λa=>a.flip λ_ _ _ _ b=>((V2 h).1 b).2,λa=>a.flip λ_ _ c _ b=>(V2 h).2 ⟨c,b⟩⟩
open Classical in
noncomputable def upS (G:List yL) (l:List zf):List zf:=(ids G).filter λx=>decide (∃a∈l,Anc G a x)
open Classical in
noncomputable def y9 (G:List yL) (l:List zf):List zf:=(ids G).filter λx=>decide (∃a∈l,Anc G x a)
theorem Y7 {l:List zf} {x:zf}:x∈upS G l↔∃a∈l,Anc G a x:=by
 unfold upS
 simp only[mem_filter,decide_eq_true_eq]
 exact⟨λh=>h.2,λ⟨a,b,h⟩=>⟨h.right,a,b,h⟩⟩
theorem qA {l:List zf} {x:zf}:x∈y9 G l↔∃a∈l,Anc G x a:=by
 unfold y9
 simp only[mem_filter,decide_eq_true_eq]
 exact⟨λh=>h.2,λ⟨a,b,h⟩=>⟨h.left,a,b,h⟩⟩
theorem zjy (l:List zf):∀x∈y9 G l,x∈ids G:=λ_ h=>(mem_filter.1 h).1
theorem zlJ {l m:List zf} (h:∀x,x∈l↔x∈m):upS G l=upS G m:=by
 unfold upS
 refine List.filter_congr λx _=>decide_eq_decide.2 ⟨λ⟨a,b,c⟩=>⟨a,(h a).1 b,c⟩,λ⟨a,b,c⟩=>⟨a,(h a).2 b,c⟩⟩
theorem qk (l:List zf):(upS G l).Sublist (ids G):=filter_sublist
theorem xh (l:List zf):(y9 G l).Sublist (ids G):=filter_sublist
theorem zjx (l:List zf):(y9 G l).length≤G.length:=by have:=(xh (G:=G) l).length_le;simpa[ids] using this
theorem zaA (h:GOk G) {x y:zf} (c:Anc G x y):∀A n B,G=A++n::B→n.id=x→y∈ids (A++[n]):=by
 unfold Anc at c
 induction c with
 |refl _=>rintro A n B-rfl;simp[ids]
 |@step x p z h1 h2 h3 ih=>
  rintro A n B a rfl
  rw[vC h (by rw[a];simp)] at h2
  have d:=h.top A n B a p h2
  obtain⟨e,b,rfl⟩:=jh.1 d
  obtain⟨A1,B1,rfl⟩:=append_of_mem b
  have:=ih A1 e (B1++n::B) (by rw[a];simp) rfl
  simp only[ids,map_append,mem_append,map_cons,List.map_nil,mem_cons,List.not_mem_nil,or_false] at this⊢
  rcases this with h|h
  ·exact .inl (.inl h)
  ·exact .inl (.inr (.inl h))
def dedup (l:List zf):List zf:=l.foldl (λacc p=>if p∈acc then acc else acc++[p]) []
theorem VK:∀(l c:List zf),c.Nodup→(l.foldl (λc p=>if p∈c then c else c++[p]) c).Nodup∧∀x,x∈l.foldl (λc p=>if p∈c then c else c++[p]) c↔x∈c∨x∈l
 |[],c,h=>⟨h,by simp⟩
 |p::r,c,h=>by
  simp only[List.foldl_cons]
  by_cases hp:p∈c
  ·rw[if_pos hp]
   obtain⟨d,f⟩:=VK r c h
   refine⟨d,λx=>?_⟩
   rw[f,mem_cons]
   exact⟨λh=>h.elim .inl (λh=>.inr (.inr h)),λh=>h.elim .inl (λh=>h.elim (λe=>.inl (e▸hp)) .inr)⟩
  ·rw[if_neg hp]
   obtain⟨d,f⟩:=VK r (c++[p]) (nodup_append.2 ⟨h,by simp,λa g b i e=>hp (by rw[←mem_singleton.1 i,←e];exact g)⟩)
   refine⟨d,λx=>?_⟩
   rw[f,mem_append,mem_singleton,mem_cons]
   exact⟨λh=>h.elim (λh=>h.elim .inl (λh=>.inr (.inl h))) (λh=>.inr (.inr h)),λh=>h.elim (λh=>.inl (.inl h)) (λh=>h.elim (λh=>.inl (.inr h)) .inr)⟩
theorem Xz (l:List zf):(dedup l).Nodup:=(VK l [] (by simp)).1
theorem qS {l:List zf} {x:zf}:x∈dedup l↔x∈l:=by have:=(VK l [] (by simp)).2 x;unfold dedup;simpa using this
theorem zga (l:List zf) (p:zf):dedup (l++[p])=if p∈dedup l then dedup l else dedup l++[p]:=by unfold dedup;rw[List.foldl_append];rfl
theorem zc8:∀l:List zf,(dedup l).length≤l.length:=λl=>xB (Xz l) λ_ h=>qS.1 h
def ZV (G:List yL) (x:zf) (ps:List zf):List yL:=G++[⟨x,dedup ps⟩]
open Classical in
noncomputable def zbI (G:List yL) (x:zf) (ps:List zf):Int:=
 if x∈ids G then 10 else if ∃p∈ps,p∉ids G then 9 else if(upS G ps).length<6 then 0 else 16
theorem YY (x:zf) (ps:List zf):ids (ZV G x ps)=ids G++[x]:=by simp[ids,ZV]
theorem zbn (h:GOk G) {x:zf} {ps:List zf} (m:x∉ids G) (l:∀p∈ps,p∈ids G):GOk (ZV G x ps):=by
 refine⟨?_,λn c=>?_,λA n B e p d=>?_⟩
 ·rw[YY]
  exact nodup_append.2 ⟨h.nd,by simp,λa j b k e=>m (by rw[←mem_singleton.1 k,←e];exact j)⟩
 ·rcases mem_append.1 c with c|c
  ·exact h.pn n c
  ·rw[mem_singleton.1 c];exact Xz ps
 ·unfold ZV at e
  rcases List.eq_nil_or_concat B with rfl|⟨i,b,rfl⟩
  ·obtain⟨f,g⟩:=List.append_inj' e rfl
   subst f
   injection g with g
   subst g
   exact l p (qS.1 d)
  ·rw[List.concat_eq_append,←List.cons_append,←List.append_assoc] at e
   obtain⟨f,-⟩:=List.append_inj' e rfl
   exact h.top A n i f p d
theorem zec (h:GOk G) {x:zf} {ps:List zf} (c:x∉ids G) (b:∀p∈ps,p∈ids G) (y:zf):par (ZV G x ps) y=if y=x then dedup ps else par G y:=by
 by_cases e:y=x
 ·subst e
  rw[if_pos rfl]
  exact vC (zbn h c b) (n:=⟨y,dedup ps⟩) (by simp[ZV])
 ·rw[if_neg e]
  by_cases hy:y∈ids G
  ·obtain⟨n,a,rfl⟩:=jh.1 hy
   rw[vC h a]
   exact vC (zbn h c b) (by simp[ZV,a])
  ·rw[ZR hy,ZR]
   rw[YY]
   simp[hy,e]
theorem zkF (h:GOk G) {x:zf} {ps:List zf} (i:x∉ids G) (k:∀p∈ps,p∈ids G) {a b:zf}:Anc (ZV G x ps) a b↔Anc G a b∨(a=x∧(b=x∨∃p∈ps,Anc G p b)):=by
 constructor
 ·intro g
  unfold Anc at g
  induction g with
  |@refl y f=>
   rw[YY] at f
   rcases mem_append.1 f with f|f
   ·exact .inl (.refl f)
   ·exact .inr ⟨mem_singleton.1 f,.inl (mem_singleton.1 f)⟩
  |@step y z b h1 h2 h3 ih=>
   rw[zec h i k] at h2
   split at h2
   ·rename_i e
    subst e
    have j:=qS.1 h2
    rcases ih with ih|⟨rfl,-⟩
    ·exact .inr ⟨rfl,.inr ⟨z,j,ih⟩⟩
    ·exact absurd (k z j) i
   ·rename_i e
    have j:=Xc h h2
    have f:y∈ids G:=by
     rw[YY] at h1
     rcases mem_append.1 h1 with f|f
     ·exact f
     ·exact absurd (mem_singleton.1 f) e
    rcases ih with ih|⟨rfl,-⟩
    ·exact .inl (.step f h2 ih)
    ·exact absurd j i
 ·have m:∀c d,Anc G c d→Anc (ZV G x ps) c d:=λc d g=>Rch.mono (λy f=>by rw[YY];simp[f]) (λy z f _ j=>by
   rw[zec h i k,if_neg (by rintro rfl;exact i f)];exact j) g
  rintro(g|⟨rfl,rfl|⟨p,l,g⟩⟩)
  ·exact m _ _ g
  ·exact .refl (by rw[YY];simp)
  ·exact .step (by rw[YY];simp) (by rw[zec h i k,if_pos rfl];exact qS.2 l) (m _ _ g)
def Vj (G:List yL) (x:zf):List yL:=(G.filter λn=>decide (n.id≠x)).map λn=>⟨n.id,n.ps.filter λp=>decide (p≠x)⟩
def jB (G:List yL) (l:List zf):List yL:=(G.filter λn=>decide (n.id∉l)).map λn=>⟨n.id,n.ps.filter λp=>decide (p∉l)⟩
theorem VI (G:List yL):jB G []=G:=by
 unfold jB
 have e:(λn:yL=>(⟨n.id,n.ps.filter λp=>decide (p∉([]:List zf))⟩:yL))=id:=by
  funext n
  simp only[List.not_mem_nil,not_false_eq_true,decide_true,id_eq]
  rw[filter_eq_self.2 (λ_ _=>rfl)]
 rw[e,List.map_id,filter_eq_self.2 (λn _=>by simp)]
theorem zc7 (G:List yL) (l:List zf) (x:zf):jB G (l++[x])=Vj (jB G l) x:=by
 unfold jB Vj
 rw[List.filter_map,map_map,List.filter_filter]
 congr 1
 ·funext n
  simp only[Function.comp,List.filter_filter]
  congr 1
  refine List.filter_congr λp _=>?_
  simp only[mem_append,mem_singleton,not_or,Bool.decide_and,ne_eq,decide_not]
  rw[Bool.and_comm]
 ·refine List.filter_congr λn _=>?_
  simp only[Function.comp,mem_append,mem_singleton,not_or,Bool.decide_and,ne_eq,decide_not]
  rw[Bool.and_comm]
theorem zjq (G:List yL) (x:zf):Vj G x=jB G [x]:=by
 have:=zc7 G [] x
 rw[List.nil_append,VI] at this
 exact this.symm
theorem zhc (l:List zf):ids (jB G l)=(ids G).filter λy=>decide (y∉l):=by
 unfold ids jB
 rw[map_map,List.filter_map]
 rfl
theorem jL {l:List zf} {x:zf}:x∈ids (jB G l)↔x∈ids G∧x∉l:=by
 rw[zhc,mem_filter,decide_eq_true_eq]
theorem zdY (h:GOk G) (l:List zf):GOk (jB G l):=by
 refine⟨?_,λn f=>?_,λA n B e p t=>?_⟩
 ·rw[zhc]
  exact h.nd.sublist filter_sublist
 ·unfold jB at f
  obtain⟨m,s,rfl⟩:=mem_map.1 f
  exact(h.pn m (mem_filter.1 s).1).sublist filter_sublist
 ·unfold jB at e
  obtain⟨v,w,k,rfl,o⟩:=List.map_eq_append_iff.1 e
  obtain⟨m,x,rfl,rfl,rfl⟩:=List.map_eq_cons_iff.1 o
  obtain⟨g,u,rfl,rfl,q⟩:=List.filter_eq_append_iff.1 k
  obtain⟨i,j,rfl,r,y,z⟩:=List.filter_eq_cons_iff.1 q
  obtain⟨d,a⟩:=mem_filter.1 t
  have:=h.top (g++i) m j (by simp) p d
  obtain⟨b,c,rfl⟩:=jh.1 this
  simp only[decide_eq_true_eq] at a
  refine jh.2 ⟨⟨b.id,b.ps.filter λp=>decide (p∉l)⟩,?_,rfl⟩
  refine mem_map.2 ⟨b,?_,rfl⟩
  rcases mem_append.1 c with h1|h1
  ·exact mem_filter.2 ⟨h1,by simpa using a⟩
  ·exact absurd (by simpa using a) (r b h1)
theorem zhq (h:GOk G) (l:List zf) (y:zf):par (jB G l) y=if y∈l then[] else(par G y).filter λp=>decide (p∉l):=by
 by_cases hy:y∈ids G
 ·by_cases a:y∈l
  ·rw[if_pos a,ZR]
   rw[jL]
   exact λh=>h.2 a
  ·rw[if_neg a]
   obtain⟨n,b,rfl⟩:=jh.1 hy
   rw[vC h b]
   have:(⟨n.id,n.ps.filter λp=>decide (p∉l)⟩:yL)∈jB G l:=mem_map.2 ⟨n,mem_filter.2 ⟨b,by simpa using a⟩,rfl⟩
   exact vC (zdY h l) this
 ·rw[ZR (by rw[jL];exact λh=>hy h.1),ZR hy]
  split<;>rfl
theorem zgX (h:GOk G) {l:List zf} {a b:zf} (e:Anc (jB G l) a b):Anc G a b:=
 Rch.mono (λ_ c=>(jL.1 c).1) (λy z c _ d=>by
  rw[zhq h,if_neg (jL.1 c).2] at d
  exact(mem_filter.1 d).1) e
theorem zhZ (h:GOk G) {q:zf} (g:q∈ids G):∃r,y9 G [q]=q::r:=by
 obtain⟨n,t,rfl⟩:=jh.1 g
 obtain⟨A,B,e⟩:=append_of_mem t
 have o:∀y∈ids A,¬Anc G y n.id:=by
  intro y f c
  obtain⟨m,s,rfl⟩:=jh.1 f
  obtain⟨A1,B1,rfl⟩:=append_of_mem s
  have b:=zaA h c A1 m (B1++n::B) (by rw[e];simp) rfl
  have d:=h.nd
  rw[e] at d
  simp only[ids,map_append,map_cons,List.append_assoc,List.cons_append,List.map_nil] at b d
  obtain⟨-,j,k⟩:=nodup_append.1 d
  rcases mem_append.1 b with b|b
  ·exact k _ b n.id (by simp) rfl
  ·obtain⟨l,-⟩:=nodup_cons.1 j
   rw[mem_singleton] at b
   exact l (by rw[←b];simp)
 unfold y9
 have i:ids G=ids A++(n.id::ids B):=by rw[e];simp[ids]
 rw[i,filter_append,List.filter_eq_nil_iff.2,List.nil_append,List.filter_cons_of_pos]
 ·exact⟨_,rfl⟩
 ·simp only[decide_eq_true_eq]
  exact⟨n.id,by simp,.refl g⟩
 ·intro y f
  simp only[decide_eq_true_eq]
  rintro⟨a,p,c⟩
  rw[mem_singleton.1 p] at c
  exact o y f c
end
theorem J9:prog.underlying 176=some (.map 45 187):=by kernel_rfl
theorem Ji:prog.underlying 129=some (.map 45 3):=by kernel_rfl
theorem zkB (w:World):(zeroValue 3).run prog w=.ok (.int .i64 0) w:=by kernel_rfl
theorem zfS (w:World):(zeroValue 187).run prog w=.ok (.pointer none) w:=by kernel_rfl
theorem jS (w:World) {u v:Value} {a c:List zf} (F:y4 w u a) (G:y4 w v c) (hN:a.length≤100000) (_:c.length≤100000):
  Calls prog 18 #[u,v] w λe w'=>∃b,e=.returned (.bool b)∧(b=true↔a=c)∧Fr No w w':=by
 obtain⟨ua,uc,rfl⟩:=F.2.form
 obtain⟨va,vc,rfl⟩:=G.2.form
 have N:=Hd F
 have O:=Hd G
 clear F G
 by_cases hlen:a.length=c.length
 ·have j1:(a.length:Int)=(c.length:Int):=by omega
  have k:=Hd hlen
  clear hlen
  go_enter Tryz.func18,Tryz.ntmps18
  go_wp2
  go_loopw [13] (λM wr=>∃n:Nat,M=.int .i64 n∧n≤a.length∧a.take n=c.take n∧Fr No w wr) (λM _=>a.length-(intOf M).toNat)
  case atStart=>exact⟨0,rfl,zero_le _,by simp,Fr.refl _ _⟩
  case round=>
   obtain⟨n,rfl,hn,m,fr⟩:=hrel
   have g:=Hd fr
   have R:=Hd m
   clear fr m
   by_cases h:n<a.length
   ·have i1:(n:Int)<(a.length:Int):=by omega
    have L:(n:Int)<(c.length:Int):=by omega
    obtain⟨x,q⟩:∃x,a[n]? =some x:=⟨_,getElem?_eq_getElem h⟩
    obtain⟨y,hy⟩:∃y,c[n]? =some y:=⟨_,getElem?_eq_getElem (by rw[←k.o];exact h)⟩
    obtain⟨bx,r,cx,H,o,-⟩:=(N.o.keep g.o).at_ q
    cases H
    obtain⟨d,s,cy,I,p,-⟩:=(O.o.keep g.o).at_ hy
    cases I
    have D:=Hd (N.o.1 x (mem_of_getElem? q))
    have E:=Hd (O.o.1 y (mem_of_getElem? hy))
    have P:=Hd (zu D.o)
    have Q:=Hd (zu E.o)
    have S:=Hd o
    have T:=Hd p
    have U:=@Hd (a.take (n+1)=a.take n++[x]) (by rw[take_add_one,q];rfl)
    have V:=@Hd (c.take (n+1)=c.take n++[y]) (by rw[take_add_one,hy];rfl)
    clear o p q hy
    by_cases hxk:x=y
    ·have z:=@Hd ((zd x).toArray=(zd y).toArray) (by simp[hxk])
     have C:=@Hd (a.take (n+1)=c.take (n+1)) (by rw[U.o,V.o,R.o,hxk])
     clear hxk
     have i:Fr No wr wr.drew:=by(repeat(first|with_reducible exact Fr.refl _ _|with_reducible assumption|with_reducible refine Fr.drew ?_|with_reducible refine Fr.drewN ?_ _|with_reducible refine Fr.alloc ?_ _|with_reducible refine Fr.setCell ?_ _ (.inl (by simp<;>omega)) _))
     have l:=Hd (λ(W:World) (f:Fr No wr W)=>(⟨za S.o f id,za T.o f id⟩:W.rangeAt bx (r+n*32) (zd x)∧W.rangeAt d (s+n*32) (zd y)))
     go_wp2
     refine wrLx [ff,ff,ff,ff,ff,ff,ff,ff,ff] (λW=>W.rangeAt bx (r+n*32) (zd x)∧W.rangeAt d (s+n*32) (zd y)) ?_ (λK hK=>?_)
     ·exact l.o _ i
     repeat((first|(refine zk rfl ?_;constructor;constructor;(focus(first|exact zn0 rfl (λw h=>h.1) P.o|exact zn0 rfl (λw h=>h.2) Q.o|exact λw' h=>xT.exec_neq (u:=(zd x).toArray) (v:=(zd y).toArray) rfl rfl rfl (ym D.o) (ym E.o) true ⟨λ_=>z.o,λ_=>rfl⟩ w'|(rintro w' -;exact goS))))|(refine zl rfl ?_));try simp only[Act.put,pA,pB,pC])
     refine zN (hK.out _ _ ?_)
     have t:=Hd i
     clear i l
     go_wp2
     go_roundw
     case rel=>exact⟨n+1,by simp,by omega,C.o,g.o.trans0 t.o⟩
     case measure=>show a.length-(n+1)<a.length-n;omega
    ·have z:=@Hd (¬(zd x).toArray=(zd y).toArray) (λe=>hxk (zaM (by simpa using e)))
     have B:=@Hd (a≠c) (λe=>hxk (by
      have X:=U.o
      have Y:=V.o
      rw[e] at X
      rw[X] at Y
      have Z:=congrArg List.getLast? Y
      simpa using Z))
     clear hxk
     have i:Fr No wr wr.drew:=by(repeat(first|with_reducible exact Fr.refl _ _|with_reducible assumption|with_reducible refine Fr.drew ?_|with_reducible refine Fr.drewN ?_ _|with_reducible refine Fr.alloc ?_ _|with_reducible refine Fr.setCell ?_ _ (.inl (by simp<;>omega)) _))
     have l:=Hd (λ(W:World) (f:Fr No wr W)=>(⟨za S.o f id,za T.o f id⟩:W.rangeAt bx (r+n*32) (zd x)∧W.rangeAt d (s+n*32) (zd y)))
     go_wp2
     refine wrLx [ff,ff,ff,ff,ff,ff,ff,ff,ff] (λW=>W.rangeAt bx (r+n*32) (zd x)∧W.rangeAt d (s+n*32) (zd y)) ?_ (λK hK=>?_)
     ·exact l.o _ i
     repeat((first|(refine zk rfl ?_;constructor;constructor;(focus(first|exact zn0 rfl (λw h=>h.1) P.o|exact zn0 rfl (λw h=>h.2) Q.o|exact λw' h=>xT.exec_neq (u:=(zd x).toArray) (v:=(zd y).toArray) rfl rfl rfl (ym D.o) (ym E.o) false ⟨λe=>(by cases e),λe=>absurd e z.o⟩ w'|(rintro w' -;exact goS))))|(refine zl rfl ?_));try simp only[Act.put,pA,pB,pC])
     refine zN (hK.out _ _ ?_)
     have t:=Hd i
     clear i l
     go_wp2
     go_ret
     exact⟨false,rfl,by simp[B.o],g.o.trans0 t.o⟩
   ·have i1:¬(n:Int)<(a.length:Int):=by omega
    have L:n=a.length:=by omega
    have j:a=c:=by have:=R.o;rw[L,take_length,k.o,take_length] at this;exact this
    have A:=Hd j
    clear j L
    go_wp2
    go_ret
    first|exact⟨true,rfl,by simp[A.o],g.o⟩|exact .inr ⟨rfl,A.o,g.o⟩|exact .inl ⟨rfl,A.o,g.o⟩
 ·have j1:¬(a.length:Int)=(c.length:Int):=by omega
  have B:=@Hd (a≠c) (λe=>hlen (by rw[e]))
  clear hlen
  go_enter Tryz.func18,Tryz.ntmps18
  go_wp2
  go_ret
  exact⟨false,rfl,by simp[B.o],Fr.refl _ _⟩
theorem Jv (w:World) {a:List zf} (s:y4 w v a) (O:a.length≤100000) (k:zf) (B:zV k):
  Calls prog 20 #[v,.agg (zd k).toArray] w λe w'=>∃b,e=.returned (.bool b)∧(b=true↔k∈a)∧Fr No w w':=by
 obtain⟨Q,R,rfl⟩:=s.2.form
 have o:=Hd s
 have F:=Hd (zu B)
 have I:=Hd (zq w (zd k) 45)
 have m:=@Hd (Fr No w (w.alloc (.cells (zd k).toArray 45))) (by(repeat(first|with_reducible exact Fr.refl _ _|with_reducible assumption|with_reducible refine Fr.drew ?_|with_reducible refine Fr.drewN ?_ _|with_reducible refine Fr.alloc ?_ _|with_reducible refine Fr.setCell ?_ _ (.inl (by simp<;>omega)) _)))
 clear s
 go_enter Tryz.func20,Tryz.ntmps20
 go_wp2
 generalize w.alloc (.cells (zd k).toArray 45)=N at*
 go_loopw [9] (λt wr=>∃n:Nat,t=.int .i64 n∧n≤a.length∧k∉a.take n∧Fr No N wr) (λt _=>a.length-(intOf t).toNat)
 case atStart=>exact⟨0,rfl,zero_le _,by simp,Fr.refl _ _⟩
 case round=>
  obtain⟨n,rfl,P,l,fr⟩:=hrel
  have i:=Hd fr
  have y:=Hd l
  clear fr l
  by_cases h:n<a.length
  ·have M:(n:Int)<(a.length:Int):=by omega
   obtain⟨x,f⟩:∃x,a[n]? =some x:=⟨_,getElem?_eq_getElem h⟩
   obtain⟨b,off,c,L,C,K⟩:=(o.o.keep (m.o.trans0 i.o)).at_ f
   cases L
   have d:=Hd (zu (o.o.1 x (mem_of_getElem? f)))
   have z:=Hd C
   have r:=Hd (za I.o i.o id)
   have q:=Hd (o.o.1 x (mem_of_getElem? f))
   have A:=Hd (zq wr (zd x) 45)
   have j:=Hd (za r.o ((frN wr).alloc (.cells (zd x).toArray 45)) id)
   have u:=@Hd (Fr No wr (wr.alloc (.cells (zd x).toArray 45))) (by(repeat(first|with_reducible exact Fr.refl _ _|with_reducible assumption|with_reducible refine Fr.drew ?_|with_reducible refine Fr.drewN ?_ _|with_reducible refine Fr.alloc ?_ _|with_reducible refine Fr.setCell ?_ _ (.inl (by simp<;>omega)) _)))
   clear C K
   by_cases hxk:x=k
   ·subst hxk
    have G:=@Hd (x∈a) (mem_of_getElem? f)
    clear f
    go_wp2_with (first|(refine znV rfl rfl rfl z.o d.o ?_)|(refine zi rfl (zj (w:=wr) (ty:=45) rfl rfl rfl (by rw[d.o];rfl) (by rw[d.o];exact yj) zE) ?_)|(refine znV rfl rfl rfl A.o d.o ?_)|(refine znV rfl rfl rfl j.o d.o ?_)|(refine zg rfl (xT.exec_eql rfl rfl rfl (ym q.o) (ym q.o) true (by simp) _) ?_))
    go_ret
    exact⟨true,rfl,by simp[G.o],(m.o.trans0 i.o).trans0 u.o⟩
   ·have H:=@Hd (¬(zd x).toArray=(zd k).toArray) (λe=>hxk (xf (congrArg Value.agg e)))
    have p:=@Hd (k∉a.take (n+1)) (by
     rw[take_add_one,f]
     simp only[Option.toList_some,mem_append,mem_singleton]
     exact λe=>e.elim y.o (λe=>hxk e.symm))
    clear f
    go_wp2_with (first|(refine znV rfl rfl rfl z.o d.o ?_)|(refine zi rfl (zj (w:=wr) (ty:=45) rfl rfl rfl (by rw[d.o];rfl) (by rw[d.o];exact yj) zE) ?_)|(refine znV rfl rfl rfl A.o d.o ?_)|(refine znV rfl rfl rfl j.o F.o ?_)|(refine zg rfl (xT.exec_eql rfl rfl rfl (ym q.o) (ym B) false ⟨λe=>(by cases e),λe=>absurd e H.o⟩ _) ?_))
    go_roundw
    case rel=>exact⟨n+1,by simp,by omega,p.o,i.o.trans0 u.o⟩
    case measure=>show a.length-(n+1)<a.length-n;omega
  ·have M:¬(n:Int)<(a.length:Int):=by omega
   have D:n=a.length:=by omega
   have g:k∉a:=by have:=y.o;rw[D,take_length] at this;exact this
   have E:=Hd g
   clear g D
   go_wp2
   go_ret
   exact .inl ⟨rfl,E.o,m.o.trans0 i.o⟩
theorem zdU (w:World) {H:List zf} (i:y4 w v H) (C:H.length≤100000):
  Calls prog 125 #[v] w λe w'=>∃p,e=.returned p∧w'.ownsRow w.heap.size 45 32 p H.length (H.flatMap zd)∧Fr No w w':=by
 have B:∀(w:World) (a:Option Addr) (n c o l:Nat),(binOp .eql 37 (.slice a n c) (.slice none o l)).run prog w=.ok (.bool a.isNone) w:=λw a n c o l=>Lib.run_eql_slice_nil w _ _ a n c o l y7
 by_cases hnil:v=.slice none 0 0
 ·subst hnil
  have A:H=[]:=by
   obtain⟨a,c,h⟩:=i.2.form
   injection h with h1 h2 h3
   exact List.eq_nil_of_length_eq_zero h2.symm
  subst A
  clear i
  go_enter Tryz.func125,Tryz.ntmps125
  go_wp2
  go_ret
  exact⟨_,rfl,World.ownsRow_nil _ _ _ _,Fr.refl _ _⟩
 ·have t:xQ (w.alloc (.cells #[] 45)) v H.length (H.flatMap zd):=i.2.keep ((Fr.refl _ _).alloc _)
  obtain⟨p,w',d,s,r,-,m⟩:=Jn (P:=prog) (w.alloc (.cells #[] 45)) w.heap.size 37 37 45 32 32 _ y7 xA rfl (by decide) (.slice (some ⟨w.heap.size,0,none⟩) 0 0) 0 [] (World.ownsRow_made w #[] 0 (Nat.le_refl _) (zero_le _) rfl) v H.length (H.flatMap zd) t (Zk i.1) YZ (by omega) (by unfold maxLen;omega) (by simp) hnil
  have q:Fr No w w':=Fr.grown ((Fr.refl _ w).alloc _) r (λk z=>by simp[Value.ownBlock] at z;exact .inl (by omega))
  have f:∃b n c,v=.slice (some b) n c:=by
   rcases i.2 with(⟨h,_⟩|⟨g,go,y,h,_⟩)|⟨a0,y,h,-⟩
   ·exact absurd h hnil
   ·exact⟨_,_,_,h⟩
   ·exact⟨_,_,_,h⟩
  obtain⟨b,n,c,rfl⟩:=f
  have j:=Hd d
  have x:=Hd s
  have u:=Hd q
  clear t d s r m q i hnil
  go_enter Tryz.func125,Tryz.ntmps125
  go_wp2_with (at_builtin;refine zJ rfl rfl rfl rfl j.o ?_)
  go_ret
  exact⟨_,rfl,by simpa using x.o,u.o⟩
def Q0 (x:zf):List zf→Int
 |[]=> -1
 |y::r=>if y=x then 0 else if x∈r then 1+Q0 x r else -1
theorem zaN {x:zf}:∀ {l:List zf},x∉l→Q0 x l= -1
 |[],_=>rfl
 |y::r,h=>by
  have a:¬y=x:=λe=>h (by simp[e])
  have b:x∉r:=λe=>h (by simp[e])
  simp[Q0,a,b]
theorem zbt {x:zf}:∀ {l:List zf} {n:Nat},l[n]? =some x→x∉l.take n→Q0 x l=n
 |[],n,h,_=>by simp at h
 |y::r,0,h,_=>by
  simp at h
  simp[Q0,h]
 |y::r,n+1,h,hn=>by
  simp only[List.getElem?_cons_succ] at h
  simp only[List.take_succ_cons,mem_cons,not_or] at hn
  have a:¬y=x:=λe=>hn.1 e.symm
  have b:x∈r:=mem_of_getElem? h
  have:=zbt h hn.2
  simp only[Q0,a,if_false,b,if_true,this]
  omega
theorem zhd {x:zf}:∀ {l:List zf},(0≤Q0 x l↔x∈l)
 |[]=>by simp[Q0]
 |y::r=>by
  have ih:=zhd (x:=x) (l:=r)
  by_cases h1:y=x
  ·simp[Q0,h1]
  ·by_cases h2:x∈r
   ·have:=ih.2 h2
    simp only[Q0,h1,if_false,h2,if_true,mem_cons,or_true,iff_true]
    omega
   ·have a:¬x=y:=λe=>h1 e.symm
    simp[Q0,h1,h2,a]
theorem zia (w:World) {l:List zf} (y:y4 w v l) (R:l.length≤100000) (k:zf) (t:zV k):
  Calls prog 124 #[v,.agg (zd k).toArray] w λe w'=>e=.returned (.int .i64 (Q0 k l))∧Fr No w w':=by
 obtain⟨U,V,rfl⟩:=y.2.form
 have A:=Hd y
 have o:=Hd (zu t)
 have a:=Hd t
 have M:=Hd (zq w (zd k) 45)
 have m:=@Hd (Fr No w (w.alloc (.cells (zd k).toArray 45))) (by(repeat(first|with_reducible exact Fr.refl _ _|with_reducible assumption|with_reducible refine Fr.drew ?_|with_reducible refine Fr.drewN ?_ _|with_reducible refine Fr.alloc ?_ _|with_reducible refine Fr.setCell ?_ _ (.inl (by simp<;>omega)) _)))
 clear y t
 go_enter Tryz.func124,Tryz.ntmps124
 go_wp2
 generalize T:w.heap.size=q at*
 generalize w.alloc (.cells (zd k).toArray 45)=Q at*
 go_loopw [8] (λz wr=>∃n:Nat,z=.int .i64 n∧n≤l.length∧k∉l.take n∧Fr No Q wr) (λz _=>l.length-(intOf z).toNat)
 case atStart=>exact⟨0,rfl,zero_le _,by simp,Fr.refl _ _⟩
 case round=>
  obtain⟨n,rfl,S,j,fr⟩:=hrel
  have i:=Hd fr
  have p:=Hd j
  clear fr j
  by_cases h:n<l.length
  ·have P:(n:Int)<(l.length:Int):=by omega
   obtain⟨x,d⟩:∃x,l[n]? =some x:=⟨_,getElem?_eq_getElem h⟩
   obtain⟨b,off,c,O,D,N⟩:=(A.o.keep (m.o.trans0 i.o)).at_ d
   cases O
   have C:=Hd (A.o.1 x (mem_of_getElem? d))
   have H:=Hd (zu C.o)
   have L:=Hd D
   have s:=Hd (za M.o i.o id)
   have B:=Hd (λ(W:World) (f:Fr No wr W)=>(⟨za s.o f id,za L.o f id⟩:W.rangeAt q 0 (zd k)∧W.rangeAt b (off+n*32) (zd x)))
   clear D N
   by_cases hxk:k=x
   ·subst hxk
    have F:=Hd (zbt d p.o)
    clear d
    go_wp2
    refine wrLx [ff,ff,ff,ff,ff,ff] (λW=>W.rangeAt q 0 (zd k)∧W.rangeAt b (off+n*32) (zd k)) ?_ (λK hK=>?_)
    ·exact B.o _ (frN _).drew
    repeat((first|(refine zk rfl ?_;constructor;constructor;(focus(first|exact zn0 rfl (λw h=>h.1) o.o|exact zn0 rfl (λw h=>h.2) o.o|exact λw' h=>xT.exec_eql (u:=(zd k).toArray) (v:=(zd k).toArray) rfl rfl rfl (ym a.o) (ym a.o) true (by simp) w'|(rintro w' -;exact goS))))|(refine zl rfl ?_));try simp only[Act.put,pA,pB,pC])
    refine zN (hK.out _ _ ?_)
    go_wp2
    go_ret
    exact⟨by rw[F.o];rfl,(m.o.trans0 i.o).drew⟩
   ·have I:=@Hd (¬(zd k).toArray=(zd x).toArray) (λe=>hxk (xf (congrArg Value.agg e)))
    have r:=@Hd (k∉l.take (n+1)) (by
     rw[take_add_one,d]
     simp only[Option.toList_some,mem_append,mem_singleton]
     exact λe=>e.elim p.o hxk)
    clear d
    go_wp2
    refine wrLx [ff,ff,ff,ff,ff,ff] (λW=>W.rangeAt q 0 (zd k)∧W.rangeAt b (off+n*32) (zd x)) ?_ (λK hK=>?_)
    ·exact B.o _ (frN _).drew
    repeat((first|(refine zk rfl ?_;constructor;constructor;(focus(first|exact zn0 rfl (λw h=>h.1) o.o|exact zn0 rfl (λw h=>h.2) H.o|exact λw' h=>xT.exec_eql (u:=(zd k).toArray) (v:=(zd x).toArray) rfl rfl rfl (ym a.o) (ym C.o) false ⟨λe=>(by cases e),λe=>absurd e I.o⟩ w'|(rintro w' -;exact goS))))|(refine zl rfl ?_));try simp only[Act.put,pA,pB,pC])
    refine zN (hK.out _ _ ?_)
    go_wp2
    go_roundw
    case rel=>exact⟨n+1,by simp,by omega,r.o,i.o.drew⟩
    case measure=>show l.length-(n+1)<l.length-n;omega
  ·have P:¬(n:Int)<(l.length:Int):=by omega
   have E:n=l.length:=by omega
   have g:k∉l:=by have:=p.o;rw[E,take_length] at this;exact this
   have G:=Hd (zaN g)
   clear g E
   go_wp2
   go_ret
   exact⟨by rw[G.o];rfl,m.o.trans0 i.o⟩
theorem YS (w:World) {l:List zf} (m:y4 w v l) (s:l.length≤100000) (k:zf) (j:zV k):
  Calls prog 86 #[v,.agg (zd k).toArray] w λe w'=>e=.returned (.bool (decide (k∈l)))∧Fr No w w':=by
 obtain⟨u,y,rfl⟩:=m.2.form
 have o:=Hd (zu j)
 have p:=Hd (zq w (zd k) 45)
 have f:=@Hd (Fr No w (w.alloc (.cells (zd k).toArray 45))) (by(repeat(first|with_reducible exact Fr.refl _ _|with_reducible assumption|with_reducible refine Fr.drew ?_|with_reducible refine Fr.drewN ?_ _|with_reducible refine Fr.alloc ?_ _|with_reducible refine Fr.setCell ?_ _ (.inl (by simp<;>omega)) _)))
 have n:=Hd (zia (w.alloc (.cells (zd k).toArray 45)) (m.keep f.o) s k j)
 have q:=Hd (zhd (x:=k) (l:=l))
 clear m j
 have a:(k∈l∧0≤Q0 k l)∨(k∉l∧¬0≤Q0 k l):=by
  have:=q.o
  by_cases h:k∈l
  ·exact .inl ⟨h,this.2 h⟩
  ·exact .inr ⟨h,λe=>h (this.1 e)⟩
 generalize Q0 k l=i at*
 go_enter Tryz.func86,Tryz.ntmps86
 rcases a with⟨c,r⟩|⟨c,r⟩
 ·have d:=@Hd (decide (k∈l)=true) (decide_eq_true c)
  clear c
  go_wp2_with (first|(refine znV rfl rfl rfl p.o o.o ?_)|(go_at_call 124;refine n.o.mono ?_;rintro e t ⟨rfl,b⟩;have g:=Hd (f.o.trans0 b);clear b))
  go_ret
  exact⟨by rw[d.o];rfl,g.o⟩
 ·have d:=@Hd (decide (k∈l)=false) (decide_eq_false c)
  clear c
  go_wp2_with (first|(refine znV rfl rfl rfl p.o o.o ?_)|(go_at_call 124;refine n.o.mono ?_;rintro e t ⟨rfl,b⟩;have g:=Hd (f.o.trans0 b);clear b))
  go_ret
  exact⟨by rw[d.o];show Ending.returned (.bool (decide (0≤i)))=_;rw[decide_eq_false (by omega)],g.o⟩
def zcv (q:Nat):Value:=.func (.func 131) #[] #[.pointer (some ⟨q,0,none⟩)]
theorem zal (w:World) {q:Nat} {k x:zf} (c:w.rangeAt q 0 (zd k)) (b:zV k) (d:zV x):
  Calls prog 131 #[.agg (zd x).toArray,.pointer (some ⟨q,0,none⟩)] w λe w'=>e=.returned (.bool (decide (x=k)))∧Fr No w w':=by
 have g:=Hd (zu b)
 have h:=Hd (zu d)
 have i:=Hd (zq w (zd x) 45)
 have a:=@Hd (Fr No w (w.alloc (.cells (zd x).toArray 45))) (by(repeat(first|with_reducible exact Fr.refl _ _|with_reducible assumption|with_reducible refine Fr.drew ?_|with_reducible refine Fr.drewN ?_ _|with_reducible refine Fr.alloc ?_ _|with_reducible refine Fr.setCell ?_ _ (.inl (by simp<;>omega)) _)))
 have j:=Hd (za c a.o id)
 clear c
 have f:=@Hd ((decide (x=k)=true↔(zd x).toArray=(zd k).toArray)) (by
  rw[decide_eq_true_iff]
  exact⟨λe=>by rw[e],λe=>xf (congrArg Value.agg e)⟩)
 generalize decide (x=k)=l at*
 go_enter Tryz.func131,Tryz.ntmps131
 go_wp2_with (first|(refine znV rfl rfl rfl i.o h.o ?_)|(refine znV rfl rfl rfl j.o g.o ?_)|(refine zg rfl (xT.exec_eql rfl rfl rfl (ym d) (ym b) l f.o _) ?_))
 go_ret
 exact⟨by rfl,a.o⟩
theorem zcN (w:World) {l:List zf} (u:y4 w v l) (M:l.length≤100000) {q:Nat} {k:zf} (m:w.rangeAt q 0 (zd k)) (D:zV k):
  Calls prog 102 #[v,zcv q] w λe w'=>e=.returned (.int .i64 (Q0 k l))∧Fr No w w':=by
 obtain⟨O,P,rfl⟩:=u.2.form
 unfold zcv
 have z:=Hd u
 have g:=Hd D
 have C:=Hd m
 clear u D m
 go_enter Tryz.func102,Tryz.ntmps102
 go_wp2
 go_loopw [8] (λy wr=>∃n:Nat,y=.int .i64 n∧n≤l.length∧k∉l.take n∧Fr No w wr) (λy _=>l.length-(intOf y).toNat)
 case atStart=>exact⟨0,rfl,zero_le _,by simp,Fr.refl _ _⟩
 case round=>
  obtain⟨n,rfl,N,j,fr⟩:=hrel
  have a:=Hd fr
  have r:=Hd j
  clear fr j
  by_cases h:n<l.length
  ·have K:(n:Int)<(l.length:Int):=by omega
   obtain⟨x,d⟩:∃x,l[n]? =some x:=⟨_,getElem?_eq_getElem h⟩
   obtain⟨b,off,c,I,m,H⟩:=(z.o.keep a.o).at_ d
   cases I
   have t:=Hd (z.o.1 x (mem_of_getElem? d))
   have A:=Hd (zu t.o)
   have B:=Hd m
   clear m H
   by_cases hxk:x=k
   ·have F:=Hd (zbt (hxk▸d) r.o)
    have o:=@Hd (decide (x=k)=true) (decide_eq_true hxk)
    clear d hxk
    go_wp2_with (first|(refine znV rfl rfl rfl B.o A.o ?_)|(go_at_call 131;refine(zal _ (za C.o a.o id) g.o t.o).mono ?_;rintro e L ⟨rfl,i⟩;rw[o.o];have p:=Hd (a.o.trans0 i);clear i))
    go_ret
    exact⟨by rw[F.o];rfl,p.o⟩
   ·have o:=@Hd (decide (x=k)=false) (decide_eq_false hxk)
    have s:=@Hd (k∉l.take (n+1)) (by
     rw[take_add_one,d]
     simp only[Option.toList_some,mem_append,mem_singleton]
     exact λe=>e.elim r.o (λe=>hxk e.symm))
    clear d hxk
    go_wp2_with (first|(refine znV rfl rfl rfl B.o A.o ?_)|(go_at_call 131;refine(zal _ (za C.o a.o id) g.o t.o).mono ?_;rintro e L ⟨rfl,i⟩;rw[o.o];have p:=Hd (a.o.trans0 i);clear i))
    go_roundw
    case rel=>exact⟨n+1,by simp,by omega,s.o,p.o⟩
    case measure=>show l.length-(n+1)<l.length-n;omega
  ·have K:¬(n:Int)<(l.length:Int):=by omega
   have E:n=l.length:=by omega
   have f:k∉l:=by have:=r.o;rw[E,take_length] at this;exact this
   have G:=Hd (zaN f)
   clear f E
   go_wp2
   go_ret
   exact⟨by rw[G.o];rfl,a.o⟩
end Go.Proofs.YtbcllfjmabiafaaGreatDoor
namespace Go
open Go.RowKit Go.Maps Go.MapKept
theorem XZ {P:Program} (w:World) (t e ty:TypeId) (a:List Value) (s:P.underlying t=some (.slice e)) (u:∀w,(zeroValue e).run P w=.ok (.agg a.toArray) w) (p:∀v∈a,v.oneCell'=true) (x:0<a.length) (b o n c:Nat) (y:0<n)
  (k:w.there b o (n*a.length)):∃cs:List Value,cs.length=n*a.length∧
  (Builtin.clear_ #[t] ty #[.slice (some ⟨b,o,none⟩) n c]).run P w=.ok (.tuple #[]) (w.setCells b o cs):=by
 have h:(Builtin.zeroCells a.toArray n).toList.length=n*a.length:=by simp[Builtin.zeroCells]
 have q:∀v∈(Builtin.zeroCells a.toArray n).toList,v.oneCell'=true:=by
  intro v f
  simp only[Builtin.zeroCells,Array.toList_map,List.mem_map,Array.toList_range,List.mem_range] at f
  obtain⟨i,-,rfl⟩:=f
  have r:i % a.length<a.length:=Nat.mod_lt _ x
  have l:a.toArray[i % a.toArray.size]! =a[i % a.length]:=by
   simp only[List.size_toArray]
   rw[getElem!_pos _ _ (by simpa using r)]
   simp
  rw[l]
  exact p _ (List.getElem_mem _)
 refine⟨(Builtin.zeroCells a.toArray n).toList,h,?_⟩
 have d:=run_storeCells_cells (P:=P) b o (Builtin.zeroCells a.toArray n).toList 0 w (by rw[h];simpa using λj g=>(k j g).1) (by rw[h];simpa using λj g=>(k j g).2) q
 simp only[Nat.add_zero] at d
 obtain⟨m,rfl⟩:∃m,n=m+1:=⟨n-1,by omega⟩
 simp[Builtin.clear_,run_underlying s,u,Value.cells,d]
theorem Vs:∀(cs xs:List Value) (o o':Nat),o'≤o→(setM xs o cs).take o'=xs.take o'
 |[],_,_,_,_=>rfl
 |v::r,xs,o,o',h=>by
  simp only[setM]
  rw[Vs r _ (o+1) o' (by omega)]
  apply List.ext_getElem?
  intro i
  rw[List.getElem?_take,List.getElem?_take]
  split
  ·rw[List.getElem?_set_ne (by omega)]
  ·rfl
theorem YA {w:World} {B g cap n m k:Nat} {e:TypeId} {xs:List Value} (h:w.ownsRow B e k (.slice (some ⟨g,0,none⟩) n cap) n xs) (o:m≤n):w.ownsRow B e k (.slice (some ⟨g,0,none⟩) m cap) m (xs.take (m*k)):=by
 have f:m*k≤n*k:=Nat.mul_le_mul_right _ o
 refine⟨by rw[List.length_take,h.1];omega,?_⟩
 rcases h.2 with⟨b,_⟩|⟨q,i,a,b,j,l,r,c,d,p⟩
 ·cases b
 ·injection b with e2 e3 e4
  injection e2 with e2
  injection e2 with e5
  subst e5 e4
  exact .inr ⟨g,cap,a,rfl,j,l,by omega,c,d,by rw[←p,List.take_take,Nat.min_eq_left f]⟩
end Go
namespace Go.Proofs.YtbcllfjmabiafaaGreatDoor
open Go Go.RowKit Go.Maps Go.MapKept
open Go.Proofs.Tryz(prog)
open List(mem_map getElem?_eq_getElem mem_append mem_of_getElem? mem_cons take_add_one mem_singleton take_length mem_filter map_append length_take nodup_cons map_cons nodup_append filter_append filter_eq_self mem_flatMap map_map append_of_mem drop_drop filter_sublist)
open Nat(zero_le le_trans)
variable {B m n:Nat} {w:World}
structure jE (k:zf) (l R:List zf) (n m:Nat):Prop where
 len:R.length=l.length
 pre:R.take n=(l.take m).filter λx=>decide (x≠k)
 suf:R.drop m=l.drop m
 lt:n<m
 le:m≤l.length
theorem jE.start {k:zf} {l:List zf} (h:l[n]? =some k) (b:k∉l.take n):jE k l l n (n+1):=by
 have a:=(List.getElem?_eq_some_iff.1 h).1
 refine⟨rfl,?_,rfl,by omega,a⟩
 rw[take_add_one,h,filter_append]
 simp only[Option.toList_some]
 rw[filter_eq_self.2 (λx c=>by simp;rintro rfl;exact b c)]
 simp
theorem jE.skip {k:zf} {l R:List zf} (h:jE k l R n m) (b:l[m]? =some k):jE k l R n (m+1):=by
 have a:=(List.getElem?_eq_some_iff.1 b).1
 refine⟨h.len,?_,?_,by have:=h.lt;omega,a⟩
 ·rw[take_add_one,b,filter_append,h.pre]
  simp
 ·rw[←drop_drop,h.suf,drop_drop]
theorem jE.keep {k x:zf} {l R:List zf} (h:jE k l R n m) (b:l[m]? =some x) (d:x≠k):jE k l (R.set n x) (n+1) (m+1):=by
 have a:=(List.getElem?_eq_some_iff.1 b).1
 have f:=h.lt
 have c:=h.len
 refine⟨by rw[List.length_set,c],?_,?_,by omega,a⟩
 ·rw[take_add_one (l:=l),b,filter_append,←h.pre,take_add_one,List.getElem?_set_self (by omega)]
  have e:(R.set n x).take n=R.take n:=by
   apply List.ext_getElem?
   intro i
   rw[List.getElem?_take,List.getElem?_take]
   split
   ·rw[List.getElem?_set_ne (by omega)]
   ·rfl
  rw[e]
  simp[d]
 ·rw[List.drop_set_of_lt (by omega),←drop_drop,h.suf,drop_drop]
theorem jE.at_ {k x:zf} {l R:List zf} (h:jE k l R n m) (b:l[m]? =some x):R[m]? =some x:=by
 have a:(R.drop m)[0]? =(l.drop m)[0]? :=by rw[h.suf]
 simpa[b] using a
theorem jE.done {k:zf} {l R:List zf} (h:jE k l R n l.length):R.take n=l.filter λx=>decide (x≠k):=by rw[h.pre,take_length]
def zmZ (B:Nat) (w:World) (v:Value) (k:zf) (l:List zf) (v':Value) (w':World):Prop:=
 w'.ownsRow B 45 32 v' (l.filter λx=>decide (x≠k)).length ((l.filter λx=>decide (x≠k)).flatMap zd)∧Fr (λj=>v.ownBlock=some j) w w'∧(∀j,v'.ownBlock=some j→v.ownBlock=some j)
theorem filter_none {k:zf} {l:List zf} (h:k∉l):l.filter (λx=>decide (x≠k))=l:=filter_eq_self.2 λx a=>by simp;rintro rfl;exact h a
theorem XA {v:Value} {l:List zf} (o:w.ownsRow B 45 32 v l.length (l.flatMap zd)) (ok:∀x∈l,zV x) (hN:l.length≤100000) {q:Nat} {k:zf} (S:w.rangeAt q 0 (zd k)) (Q:zV k) (Y:∀j,v.ownBlock=some j→j≠q) (_:q<w.heap.size):
  Calls prog 62 #[v,zcv q] w λe w'=>∃v',e=.returned v'∧zmZ B w v k l v' w':=by
 have zh:=yJ
 have G:=Hd (zcN w (y4.own o ok) hN S Q)
 by_cases hin:k∈l
 ·obtain⟨va,p,e⟩:=o.slice.arg.form
  subst e
  obtain⟨i,hi⟩:∃i,l[i]? =some k∧k∉l.take i:=by
   clear o ok hN G S Q Y
   induction l with
   |nil=>cases hin
   |cons y r ih=>
    by_cases e:y=k
    ·exact⟨0,by simp[e],by simp⟩
    ·have O:k∈r:=by
      rcases mem_cons.1 hin with h|h
      ·exact absurd h.symm e
      ·exact h
     obtain⟨i,h1,h2⟩:=ih O
     exact⟨i+1,by simpa using h1,by simp;exact⟨λe'=>e e'.symm,h2⟩⟩
  have EI:=Hd (zbt hi.1 hi.2)
  have ST:=Hd (jE.start hi.1 hi.2)
  have ak:=(List.getElem?_eq_some_iff.1 hi.1).1
  obtain⟨g,rfl⟩:∃g,va=some ⟨g,0,none⟩:=by
   rcases o.2 with⟨e,_⟩|⟨g,c,aj,e,_⟩
   ·injection e with e1 e2;omega
   ·injection e with e1;exact⟨g,e1⟩
  have j1:¬(i:Int)= -1:=by omega
  have HL:=Hd o
  have RQ:=Hd S
  have K:=Hd Q
  have OK:=Hd ok
  have NQ:=@Hd (¬q=g) (λe=>Y g rfl e.symm)
  clear o ok S Q Y hi hin
  unfold zcv
  unfold zcv at G
  go_enter Tryz.func62,Tryz.ntmps62
  go_wp2_with (go_at_call 102;refine G.o.mono ?_;rintro e w1 ⟨rfl,M⟩;rw[EI.o];have E:=Hd M;clear M)
  rw[show((i:Int)== -1)=false from by simp]
  clear j1
  go_loopw [5,6] (λnv mv wr=>∃(n m:Nat) (R:List zf),nv=.int .i64 n∧mv=.int .i64 m∧jE k l R n m∧wr.ownsRow B 45 32 (.slice (some ⟨g,0,none⟩) l.length p) l.length (R.flatMap zd)∧(∀x∈R,zV x)∧Fr (· =g) w wr) (λ_ mv _=>l.length-(intOf mv).toNat)
  case atStart=>exact⟨i,i+1,l,rfl,by simp,ST.o,zb HL.o E.o (λ_ _=>id),OK.o,E.o.of0⟩
  case round=>
   obtain⟨n,m,R,rfl,rfl,N,ho,hok,fr⟩:=hrel
   have V:=Hd N
   have u:=Hd ho
   have b:=Hd hok
   have W:=Hd fr
   have al:=N.le
   have an:=N.lt
   have z:=Hd N.len
   clear N ho hok fr
   by_cases h:m<l.length
   ·have i1:(m:Int)<(l.length:Int):=by omega
    have i2:(n:Int)<(l.length:Int):=by omega
    obtain⟨x,D⟩:∃x,l[m]? =some x:=⟨_,getElem?_eq_getElem h⟩
    have U:=V.o.at_ D
    have H:=@Hd (wr.ownsRow B 45 32 (.slice (some ⟨g,0,none⟩) R.length p) R.length (R.flatMap zd)) (by rw[z.o];exact u.o)
    obtain⟨b2,ai,ag,hv,T,hb⟩:=(y4.own H.o b.o).at_ U
    cases hv
    have X:=Hd (OK.o x (mem_of_getElem? D))
    have d:=Hd (zu X.o)
    have R1:=@Hd (wr.rangeAt g (m*32) (zd x)) (by simpa using T)
    have FA:=Hd ((frN wr).alloc (.cells (zd x).toArray 45))
    have RN:=Hd (zq wr (zd x) 45)
    have L:=Hd (za (za RQ.o W.o NQ.o) FA.o id)
    clear T hb U
    by_cases hxk:x=k
    ·have D1:=@Hd (decide (x=k)=true) (decide_eq_true hxk)
     have t:=Hd (V.o.skip (hxk▸D))
     clear D hxk
     go_wp2_with (first|(refine znV rfl rfl rfl R1.o d.o ?_)|(refine zi rfl (zj (w:=wr) (cs:=zd x) (ty:=45) rfl rfl rfl (by rw[d.o];rfl) (by rw[d.o];exact yj) zE) ?_)|(refine znV rfl rfl rfl RN.o d.o ?_)|(go_at_call 131;refine(zal _ L.o K.o X.o).mono ?_;rintro e w2 ⟨rfl,C⟩;rw[D1.o];have F:=Hd (FA.o.trans0 C);clear C))
     go_roundw
     case rel=>exact⟨n,m+1,R,rfl,by simp,t.o,zb u.o F.o (λ_ _=>id),b.o,W.o.trans0 F.o⟩
     case measure=>show l.length-(m+1)<l.length-m;omega
    ·have D1:=@Hd (decide (x=k)=false) (decide_eq_false hxk)
     have t:=Hd (V.o.keep D hxk)
     clear D hxk
     go_wp2_with (first|(refine znV rfl rfl rfl ae.o d.o ?_)|(refine zi rfl (zU (ty:=45) rfl rfl rfl (by rw[d.o];exact TH.o) (by rw[d.o];exact yj) zE) ?_)|(refine znV rfl rfl rfl R1.o d.o ?_)|(refine zi rfl (zj (w:=wr) (cs:=zd x) (ty:=45) rfl rfl rfl (by rw[d.o];rfl) (by rw[d.o];exact yj) zE) ?_)|(refine znV rfl rfl rfl RN.o d.o ?_)|(go_at_call 131;refine(zal _ L.o K.o X.o).mono ?_;rintro e w2 ⟨rfl,C⟩;rw[D1.o];have F:=Hd (FA.o.trans0 C);have ae:=Hd (za RN.o C id);have I:=Hd (zb H.o F.o (λ_ _=>id));have TH:=Hd (Jx I.o (show n<R.length by rw[z.o];omega));clear C))
     have ab:=Hd (zhp (f:=zd) (λy hy=>zu (b.o y hy)) I.o (show n<R.length by rw[z.o];omega) x d.o)
     have ad:=@Hd ((w2.setCells g (n*32) (zd x)).ownsRow B 45 32 (.slice (some ⟨g,0,none⟩) l.length p) l.length ((R.set n x).flatMap zd)) (by have:=ab.o;rw[z.o] at this;exact this)
     go_roundw
     case rel=>exact⟨n+1,m+1,R.set n x,by simp,by simp,t.o,ad.o,λy hy=>(List.mem_or_eq_of_mem_set hy).elim (b.o y) (λe=>e▸X.o),(W.o.trans0 F.o).trans (zy g (zd x) (n*32) w2) (λ_ _ h=>h)⟩
     case measure=>show l.length-(m+1)<l.length-m;omega
   ·have i1:¬(m:Int)<(l.length:Int):=by omega
    have af:m=l.length:=by omega
    subst af
    have DN:=Hd V.o.done
    have aa:=@Hd ((R.flatMap zd).length=l.length*32) (u.o.1)
    have LN:=@Hd ((l.filter λx=>decide (x≠k)).length=n) (by rw[←DN.o,length_take,z.o];omega)
    obtain⟨cs,A,s⟩:=XZ (P:=prog) wr 37 45 0 (zd yT) y7 yJ zE (by rw[zu qY];decide) g (n*32) (l.length-n) (p-n) (by omega) (λj hj=>by
     rw[zu qY] at hj
     refine⟨?_,u.o.frozenAt _⟩
     rw[u.o.cellAt (n*32+j) (by omega),getElem?_eq_getElem (by rw[aa.o];omega)]
     rfl)
    rw[zu qY] at A
    have HS:=Hd (vP u.o (n*32) (cs:=cs) (by rw[A];omega))
    have HT:=Hd (YA HS.o (m:=n) (by omega))
    have HF:=@Hd ((setM (R.flatMap zd) (n*32) cs).take (n*32)=(l.filter λx=>decide (x≠k)).flatMap zd) (by
     rw[Vs _ _ _ _ (Nat.le_refl _),←DN.o]
     conv=>lhs;rw[←List.take_append_drop n R]
     rw[List.flatMap_append,List.take_append_of_le_length,List.take_of_length_le]
     ·rw[xY zd 32 _ (λa ha=>zu (b.o a (List.mem_of_mem_take ha))),length_take,z.o];omega
     ·rw[xY zd 32 _ (λa ha=>zu (b.o a (List.mem_of_mem_take ha))),length_take,z.o];omega)
    have FZ:=Hd (W.o.trans (zy g cs (n*32) wr) (λ_ _ h=>h))
    have Z:=Hd s
    have ah:l.length≤p:=xQ.cap u.o.slice.arg
    have jc:¬p=n:=by omega
    have ao:¬n=p:=by omega
    clear s A
    go_wp2_with (refine YJ rfl rfl rfl Z.o ?_)
    go_ret
    refine⟨.slice (some ⟨g,0,none⟩) n p,by rfl,?_,FZ.o.mono (λj hj=>by rw[hj];rfl),λ_ h=>h⟩
    rw[LN.o,←HF.o]
    exact HT.o
 ·have EI:=Hd (zaN hin)
  have FN:=Hd (filter_none hin)
  obtain⟨va,p,e⟩:=o.slice.arg.form
  subst e
  have HL:=Hd o
  clear o ok S Q Y hin
  unfold zcv
  unfold zcv at G
  go_enter Tryz.func62,Tryz.ntmps62
  go_wp2_with (go_at_call 102;refine G.o.mono ?_;rintro e w1 ⟨rfl,M⟩;rw[EI.o];have E:=Hd M;clear M)
  go_ret
  exact⟨_,by rfl,by rw[FN.o];exact zb HL.o E.o (λ_ _=>id),E.o.of0,λ_ h=>h⟩
theorem zfk {α β:Type}:∀ {M:List (α×β)} {k:α} {v v':β},(M.map (·.1)).Nodup→(k,v)∈M→(k,v')∈M→v=v'
 |[],_,_,_,_,h,_=>by cases h
 |x::r,k,v,v',hn,h1,h2=>by
  simp only[map_cons,nodup_cons] at hn
  rcases mem_cons.1 h1 with e1|h1<;>rcases mem_cons.1 h2 with e2|h2
  ·rw[←e1] at e2;injection e2 with _ e;exact e.symm
  ·exact absurd (mem_map.2 ⟨_,h2,rfl⟩) (by rw[←e1] at hn;exact hn.1)
  ·exact absurd (mem_map.2 ⟨_,h1,rfl⟩) (by rw[←e2] at hn;exact hn.1)
  ·exact zfk hn.2 h1 h2
theorem zir {X Y g Z:List Nat} {d:Nat} (h:(X++(Y++Z)).Nodup) (k:∀j∈X++(Y++Z),j<d) (s:g.Nodup) (l:∀j∈g,j∈Y∨d≤j):(X++(g++Z)).Nodup:=by
 obtain⟨n,o,i⟩:=nodup_append.1 h
 obtain⟨t,q,r⟩:=nodup_append.1 o
 refine nodup_append.2 ⟨n,nodup_append.2 ⟨s,q,λa f b c e=>?_⟩,λa f b c e=>?_⟩
 ·rcases l a f with h|h
  ·exact r a h b c e
  ·have:=k b (by simp[c]);omega
 ·rcases mem_append.1 c with c|c
  ·rcases l b c with h|h
   ·exact i a f b (by simp[h]) e
   ·have:=k a (by simp[f]);omega
  ·exact i a f b (by simp[c]) e
structure yG where
 id:zf
 seq:Nat
 ps:List zf
 ks:List zf
 b:Nat
 pv:Value
 cv:Value
def yG.blks (r:yG):List Nat:=r.b::(r.pv.ownBlock.toList++r.cv.ownBlock.toList)
def Vc (b:Nat):Value:=.pointer (some ⟨b,0,none⟩)
abbrev qQ (w:World) (m:Nat) (M:List (zf×Nat)):=yI prog 45 xL Vc w m M
structure Xv (w:World) (B:Nat) (r:yG):Prop where
 blk:w.heap[r.b]? =some (.cells #[.int .i64 (r.seq:Int),r.pv,r.cv] 189 (0,0))
 prow:w.ownsRow B 45 32 r.pv r.ps.length (r.ps.flatMap zd)
 crow:w.ownsRow B 45 32 r.cv r.ks.length (r.ks.flatMap zd)
def yM (p m:Nat) (L:List yG):List Nat:=p::m::L.flatMap yG.blks
def yG.ok (r:yG):Prop:=zV r.id∧(∀x∈r.ps,zV x)∧∀x∈r.ks,zV x
structure GR (w0 w:World) (p m sq:Nat) (L:List yG):Prop where
 obj:w.heap[p]? =some (.cells #[.map (some m),.int .i64 (sq:Int)] 178 (0,0))
 map:∃M,qQ w m M∧∀k b,(k,b)∈M↔∃r∈L,r.id=k∧r.b=b
 node:∀r∈L,Xv w w0.heap.size r
 apart:(yM p m L).Nodup
 lo:∀j∈yM p m L,w0.heap.size≤j
 ok:∀r∈L,r.ok
 idn:(L.map (·.id)).Nodup
 seqs:L.Pairwise (λa b=>a.seq<b.seq)
 top:∀r∈L,r.seq≤sq
 fr:Fr No w0 w
theorem Xv.hi {w:World} {r:yG} (h:Xv w B r):∀j∈r.blks,j<w.heap.size:=by
 intro j a
 unfold yG.blks at a
 simp only[mem_cons,mem_append,Option.mem_toList] at a
 rcases a with rfl|a|a
 ·exact yr h.blk
 ·exact(h.prow.lt j a).2
 ·exact(h.crow.lt j a).2
theorem Xv.keep {w w':World} {r:yG} (h:Xv w B r) {W:Nat→Prop} (f:Fr W w w') (a:∀j∈r.blks,¬W j):Xv w' B r:=by
 unfold yG.blks at a
 simp only[mem_cons,mem_append,Option.mem_toList] at a
 exact⟨f.obj h.blk (a _ (.inl rfl)),zb h.prow f (λb e=>a b (.inr (.inl e))),zb h.crow f (λb e=>a b (.inr (.inr e)))⟩
section
variable {w0 w w':World} {p m sq:Nat} {L:List yG}
theorem GR.hi (h:GR w0 w p m sq L):∀j∈yM p m L,j<w.heap.size:=by
 intro j a
 unfold yM at a
 simp only[mem_cons,mem_flatMap] at a
 rcases a with rfl|rfl|⟨r,c,a⟩
 ·exact yr h.obj
 ·obtain⟨M,b,-⟩:=h.map;exact b.lt
 ·exact(h.node r c).hi j a
theorem GR.frV (h:GR w0 w p m sq L) {U:Nat→Prop} (f:Fr U w w') (a:∀j∈yM p m L,¬U j) (d:∀j,U j→w0.heap.size≤j):GR w0 w' p m sq L:=by
 have n:¬U p:=a p (by simp[yM])
 have l:¬U m:=a m (by simp[yM])
 have b:∀r∈L,∀j∈r.blks,¬U j:=λr b j k=>a j (by simp only[yM,mem_cons,mem_flatMap];exact .inr (.inr ⟨r,b,k⟩))
 exact {h with
  obj:=f.obj h.obj n
  map:=by obtain⟨M,g,o⟩:=h.map;exact⟨M,g.keep f l,o⟩
  node:=λr c=>(h.node r c).keep f (b r c)
  fr:=h.fr.trans f (λi hi e=>by have:=d i e;omega)}
theorem GR.fr0 (h:GR w0 w p m sq L) (f:Fr No w w'):GR w0 w' p m sq L:=h.frV f (λ_ _=>id) (λ_ h=>h.elim)
theorem GR.look (h:GR w0 w p m sq L) {M:List (zf×Nat)} (i:∀k b,(k,b)∈M↔∃r∈L,r.id=k∧r.b=b) {r:yG} (c:r∈L) (b:Nat):(r.id,b)∈M↔b=r.b:=by
 rw[i]
 constructor
 ·rintro⟨d,a,e,rfl⟩
  have g:=h.idn
  have:d=r:=by
   have f:((L.map λx=>(x.id,x)).map (·.1)).Nodup:=by rw[map_map];exact g
   exact zfk f (k:=r.id) (mem_map.2 ⟨d,a,by rw[e]⟩) (mem_map.2 ⟨r,c,rfl⟩)
  rw[this]
 ·rintro rfl;exact⟨r,c,rfl,rfl⟩
theorem GR.run_look (h:GR w0 w p m sq L) {x:zf} (g:zV x) (c:Bool) (i:c=false):
  (∀r∈L,r.id=x→∀w',(∀M,qQ w m M→qQ w' m M)→(Instr.lookup 176 (.map (some m)) (xL x) c).run prog w'=.ok (Vc r.b) w')∧
  (x∉L.map (·.id)→∀w',(∀M,qQ w m M→qQ w' m M)→(Instr.lookup 176 (.map (some m)) (xL x) c).run prog w'=.ok (.pointer none) w'):=by
 subst i
 obtain⟨M,d,f⟩:=h.map
 refine⟨λr b e w' a=>?_,λj w' a=>?_⟩
 ·subst e
  have:=(a M d).look xT.keyed J9 (λ_ _=>xf) zfS (ym g) false (r:=some r.b) (λv=>by
   rw[h.look f b];exact⟨λe=>(Option.some.inj e).symm,λe=>by rw[e]⟩)
  simpa using this
 ·have:=(a M d).look xT.keyed J9 (λ_ _=>xf) zfS (ym g) false (r:=none) (λv=>by
   rw[f]
   exact⟨λe=>(by cases e),λ⟨r,b,e,_⟩=>absurd (mem_map.2 ⟨r,b,e⟩) j⟩)
  simpa using this
theorem xJ (A B:List yG) (r:yG):yM p m (A++r::B)=(p::m::A.flatMap yG.blks)++(r.blks++B.flatMap yG.blks):=by simp[yM]
theorem GR.turn {A B:List yG} {r l:yG} (h:GR w0 w p m sq (A++r::B)) {W:Nat→Prop} (f:Fr W w w') (y:∀j,W j→j∈r.blks) (Q:Xv w' w0.heap.size l) (hi:l.id=r.id) (t:l.b=r.b) (C:l.seq=r.seq) (F:∀j∈l.blks,j∈r.blks∨w.heap.size≤j) (K:l.blks.Nodup) (ok:l.ok):
  GR w0 w' p m sq (A++l::B):=by
 have s:=h.apart
 have u:=h.hi
 rw[xJ] at s u
 obtain⟨U,R,S⟩:=nodup_append.1 s
 obtain⟨X,Y,T⟩:=nodup_append.1 R
 have z:∀j∈p::m::A.flatMap yG.blks,¬W j:=λj d e=>S j d j (by simp[y j e]) rfl
 have I:∀j∈B.flatMap yG.blks,¬W j:=λj d e=>T j (y j e) j d rfl
 have v:((A++l::B).map (·.id))=((A++r::B).map (·.id)):=by simp[hi]
 have q:∀ {P:yG→Prop},(∀x∈A++r::B,P x)→P l→∀x∈A++l::B,P x:=by
  intro P g o x c
  rcases mem_append.1 c with c|c
  ·exact g x (by simp[c])
  ·rcases mem_cons.1 c with rfl|c
   ·exact o
   ·exact g x (by simp[c])
 refine⟨f.obj h.obj (z p (by simp)),?_,λx c=>?_,?_,λj d=>?_,q h.ok ok,by rw[v];exact h.idn,?_,q h.top (by rw[C];exact h.top r (by simp)),?_⟩
 ·obtain⟨M,H,D⟩:=h.map
  refine⟨M,H.keep f (z m (by simp)),λk b=>?_⟩
  rw[D]
  constructor
  ·rintro⟨x,c,g,o⟩
   rcases mem_append.1 c with c|c
   ·exact⟨x,by simp[c],g,o⟩
   ·rcases mem_cons.1 c with rfl|c
    ·exact⟨l,by simp,by rw[hi,g],by rw[t,o]⟩
    ·exact⟨x,by simp[c],g,o⟩
  ·rintro⟨x,c,g,o⟩
   rcases mem_append.1 c with c|c
   ·exact⟨x,by simp[c],g,o⟩
   ·rcases mem_cons.1 c with rfl|c
    ·exact⟨r,by simp,by rw[←hi,g],by rw[←t,o]⟩
    ·exact⟨x,by simp[c],g,o⟩
 ·rcases mem_append.1 c with c|c
  ·exact(h.node x (by simp[c])).keep f (λj d=>z j (by simp only[mem_cons,mem_flatMap];exact .inr (.inr ⟨x,c,d⟩)))
  ·rcases mem_cons.1 c with rfl|c
   ·exact Q
   ·exact(h.node x (by simp[c])).keep f (λj d=>I j (mem_flatMap.2 ⟨x,c,d⟩))
 ·rw[xJ]
  exact zir s u K F
 ·rw[xJ] at d
  have n:=h.lo
  rw[xJ] at n
  simp only[mem_append] at d n
  rcases d with d|d|d
  ·exact n j (.inl d)
  ·rcases F j d with g|g
   ·exact n j (.inr (.inl g))
   ·have:=h.fr.size;omega
  ·exact n j (.inr (.inr d))
 ·have:=h.seqs
  rw[List.pairwise_append,List.pairwise_cons] at this⊢
  rw[C]
  refine⟨this.1,this.2.1,λa E b t=>?_⟩
  rcases mem_cons.1 t with rfl|t
  ·rw[C];exact this.2.2 a E r (by simp)
  ·exact this.2.2 a E b (by simp[t])
 ·refine h.fr.trans f (λi O e=>?_)
  have:=h.lo i (by rw[xJ];simp[y i e])
  omega
theorem GR.del {A B:List yG} {r:yG} {M M':List (zf×Nat)} (h:GR w0 w p m sq (A++r::B)) (u:∀k b,(k,b)∈M↔∃x∈A++r::B,x.id=k∧x.b=b) (t:qQ w' m M') (s:Del M r.id M') (f:Fr (· =m) w w'):GR w0 w' p m sq (A++B):=by
 have g:=h.apart
 rw[xJ] at g
 have d:(yM p m (A++B)).Sublist ((p::m::A.flatMap yG.blks)++(r.blks++B.flatMap yG.blks)):=by
  have e:yM p m (A++B)=(p::m::A.flatMap yG.blks)++B.flatMap yG.blks:=by simp[yM]
  rw[e]
  exact List.Sublist.append (List.Sublist.refl _) (List.sublist_append_right _ _)
 have c:(A++B).Sublist (A++r::B):=List.Sublist.append (List.Sublist.refl _) (List.sublist_cons_self _ _)
 obtain⟨C,D⟩:=nodup_cons.1 (show(p::m::((A.flatMap yG.blks)++(r.blks++B.flatMap yG.blks))).Nodup from g)
 obtain⟨E,I⟩:=nodup_cons.1 D
 refine⟨f.obj h.obj (λe=>C (by simp[e])),⟨M',t,λk b=>?_⟩,λx a=>(h.node x (c.subset a)).keep f (λj o e=>E ?_),g.sublist d,λj o=>h.lo j (by rw[xJ];exact d.subset o),λx a=>h.ok x (c.subset a),h.idn.sublist (c.map _),h.seqs.sublist c,λx a=>h.top x (c.subset a),h.fr.trans f (λi hi e=>?_)⟩
 ·rw[s,u]
  have l:=h.idn
  rw[map_append,map_cons] at l
  obtain⟨F,v,y⟩:=nodup_append.1 l
  obtain⟨z,H⟩:=nodup_cons.1 v
  constructor
  ·rintro⟨q,x,a,rfl,n⟩
   rcases mem_append.1 a with a|a
   ·exact⟨x,by simp[a],rfl,n⟩
   ·rcases mem_cons.1 a with rfl|a
    ·exact absurd rfl q
    ·exact⟨x,by simp[a],rfl,n⟩
  ·rintro⟨x,a,rfl,n⟩
   refine⟨λe=>?_,x,c.subset a,rfl,n⟩
   rcases mem_append.1 a with a|a
   ·exact y _ (mem_map.2 ⟨x,a,rfl⟩) r.id (by simp) e
   ·exact z (by rw[←e];exact mem_map.2 ⟨x,a,rfl⟩)
 ·subst e
  rcases mem_append.1 a with a|a
  ·exact mem_append.2 (.inl (mem_flatMap.2 ⟨x,a,o⟩))
  ·exact mem_append.2 (.inr (mem_append.2 (.inr (mem_flatMap.2 ⟨x,a,o⟩))))
 ·subst e
  have:=h.lo i (by simp[yM])
  omega
theorem GR.ins {r:yG} {M M':List (zf×Nat)} (h:GR w0 w p m sq L) (F:∀k b,(k,b)∈M↔∃x∈L,x.id=k∧x.b=b) (A:qQ w' m M') (B:Upd M r.id r.b M') (f:Fr (· =m) w w') (D:Xv w w0.heap.size r) (q:r.id∉L.map (·.id)) (C:r.blks.Nodup) (l:∀j∈r.blks,j∉yM p m L∧w0.heap.size≤j) (E:∀x∈L,x.seq<r.seq) (v:r.seq≤sq) (ok:r.ok):GR w0 w' p m sq (L++[r]):=by
 have e:yM p m (L++[r])=yM p m L++r.blks:=by simp[yM]
 have u:p≠m:=λe=>(nodup_cons.1 h.apart).1 (by simp[e])
 have t:∀x∈L,∀j∈x.blks,¬j=m:=λx c j g e=>(nodup_cons.1 (nodup_cons.1 h.apart).2).1 (by rw[←e];exact mem_flatMap.2 ⟨x,c,g⟩)
 have d:∀ {P:yG→Prop},(∀x∈L,P x)→P r→∀x∈L++[r],P x:=by
  intro P y s x c
  rcases mem_append.1 c with c|c
  ·exact y x c
  ·rw[mem_singleton.1 c];exact s
 refine⟨f.obj h.obj (λe=>u e),⟨M',A,λk b=>?_⟩,d (λx c=>(h.node x c).keep f (t x c)) (D.keep f λj g e=>(l j g).1 (by rw[e];simp[yM])),?_,λj g=>?_,d h.ok ok,?_,?_,d h.top v,h.fr.trans f (λi hi e=>?_)⟩
 ·rw[B,F]
  constructor
  ·rintro(⟨rfl,rfl⟩|⟨y,x,c,s,z⟩)
   ·exact⟨r,by simp,rfl,rfl⟩
   ·exact⟨x,by simp[c],s,z⟩
  ·rintro⟨x,c,rfl,rfl⟩
   rcases mem_append.1 c with c|c
   ·exact .inr ⟨λe=>q (by rw[←e];exact mem_map.2 ⟨x,c,rfl⟩),x,c,rfl,rfl⟩
   ·rw[mem_singleton.1 c];exact .inl ⟨rfl,rfl⟩
 ·rw[e]
  exact nodup_append.2 ⟨h.apart,C,λa o b n e=>(l b n).1 (by rw[←e];exact o)⟩
 ·rw[e] at g
  rcases mem_append.1 g with g|g
  ·exact h.lo j g
  ·exact(l j g).2
 ·rw[map_append]
  exact nodup_append.2 ⟨h.idn,by simp,λa o b n e=>q (by
   simp only[map_cons,List.map_nil,mem_singleton] at n
   rw[←n,←e];exact o)⟩
 ·exact List.pairwise_append.2 ⟨h.seqs,by simp,λa o b n=>by rw[mem_singleton.1 n];exact E a o⟩
 ·subst e
  have:=h.lo i (by simp[yM])
  omega
theorem GR.count (h:GR w0 w p m sq L) {s:Nat} (k:sq≤s):GR w0 (w.setCell ⟨p,1,none⟩ (.int .i64 (s:Int))) p m s L:=by
 have f:Fr (· =p) w (w.setCell ⟨p,1,none⟩ (.int .i64 (s:Int))):=(Fr.refl (· =p) w).setCell ⟨p,1,none⟩ (.inr rfl) _
 obtain⟨c,l⟩:=nodup_cons.1 h.apart
 refine⟨?_,?_,λr a=>(h.node r a).keep f (λj g e=>c (by rw[←e];simp only[mem_cons,mem_flatMap];exact .inr ⟨r,a,g⟩)),h.apart,h.lo,h.ok,h.idn,h.seqs,λr a=>le_trans (h.top r a) k,h.fr.trans f (λi hi e=>?_)⟩
 ·have:=heap_setCell_same w p 1 _ _ (.int .i64 (s:Int)) h.obj
  simpa using this
 ·obtain⟨M,d,b⟩:=h.map
  exact⟨M,d.keep f (λe=>c (by simp[e])),b⟩
 ·subst e
  have:=h.lo i (by simp[yM])
  omega
end
structure GC (w0 w:World) (p:Nat) (V:Nat→Prop) (G:List yL) (N:Nat):Prop where
 ex:∃m sq L,GR w0 w p m sq L∧V=(λj=>j∈yM p m L)∧L.map (λr=>(⟨r.id,r.ps⟩:yL))=G∧(∀r∈L,r.ks=kid G r.id)∧sq≤N
 gok:GOk G
 len:G.length≤N
section
variable {w0 w w':World} {p N:Nat} {V:Nat→Prop} {G:List yL}
theorem GC.fr (h:GC w0 w p V G N):Fr No w0 w:=by obtain⟨m,sq,L,a,-⟩:=h.ex;exact a.fr
theorem GC.lo (h:GC w0 w p V G N):∀j,V j→w0.heap.size≤j:=by obtain⟨m,sq,L,a,rfl,-⟩:=h.ex;exact a.lo
theorem GC.hi (h:GC w0 w p V G N):∀j,V j→j<w.heap.size:=by obtain⟨m,sq,L,a,rfl,-⟩:=h.ex;exact a.hi
theorem GC.frV (h:GC w0 w p V G N) {U:Nat→Prop} (f:Fr U w w') (e:∀j,V j→¬U j) (a:∀j,U j→w0.heap.size≤j):GC w0 w' p V G N:=by
 obtain⟨m,sq,L,g,rfl,b,c,d⟩:=h.ex
 exact⟨⟨m,sq,L,g.frV f e a,rfl,b,c,d⟩,h.gok,h.len⟩
theorem GC.fr0 (h:GC w0 w p V G N) (f:Fr No w w'):GC w0 w' p V G N:=h.frV f (λ_ _=>id) (λ_ h=>h.elim)
theorem GC.mono (h:GC w0 w p V G N) {a:Nat} (b:N≤a):GC w0 w p V G a:=by
 obtain⟨m,sq,L,f,g,c,d,e⟩:=h.ex
 exact⟨⟨m,sq,L,f,g,c,d,le_trans e b⟩,h.gok,le_trans h.len b⟩
theorem GC.okId (h:GC w0 w p V G N):∀x∈ids G,zV x:=by
 obtain⟨m,sq,L,c,g,rfl,e,f⟩:=h.ex
 intro x d
 obtain⟨n,b,rfl⟩:=mem_map.1 d
 obtain⟨r,a,rfl⟩:=mem_map.1 b
 exact(c.ok r a).1
end
end Go.Proofs.YtbcllfjmabiafaaGreatDoor
