/- tx: fixed, form. -/
import Derived.Deep.LoopGhost
import Derived.Laws.OwnMore
import Derived.Test.YtbcllfjmabiafaaGreatDoorPG5
import Derived.Test.YtbcllfjmabiafaaGreatDoorPG2
import Derived.Test.YtbcllfjmabiafaaGreatDoorPG3
set_option linter.unusedVariables false
set_option linter.unusedSimpArgs false
set_option linter.unnecessarySimpa false
set_option linter.all false
set_option maxRecDepth 20000
set_option maxHeartbeats 16000000
namespace Go.Proofs.YtbcllfjmabiafaaGreatDoor
open Go Go.RowKit Go.Maps Go.MapKept
open Go.Proofs.Tryz(prog)
open Nat(le_refl zero_le le_trans)
open List(getElem?_eq_getElem mem_append mem_of_getElem? length_append take_add_one mem_singleton take_length map_append length_take length_cons append_assoc)
variable {B m n:Nat} {cs:List Value} {l:List Int} {v:Value} {w:World}
def leB:Nat→Int→List Int
 |0,_=>[]
 |n+1,x=>x % 256::leB n (x / 256)
theorem jg:∀(n:Nat) (x:Int),(leB n x).length=n
 |0,_=>rfl
 |n+1,x=>by simp[leB,jg n]
def zej:Nat→Int→Int
 |0,x=>x
 |n+1,x=>zej n (x / 256)
theorem zaY:∀(n:Nat) (x:Int),zej (n+1) x=zej n x / 256
 |0,_=>rfl
 |n+1,x=>by rw[zej,zaY n (x / 256)];rfl
theorem ze6:∀(n:Nat) (x:Int),leB (n+1) x=leB n x++[zej n x % 256]
 |0,_=>rfl
 |n+1,x=>by rw[leB,ze6 n (x / 256)];rfl
theorem zhx:∀(n:Nat) {x:Int},0≤x∧x≤18446744073709551615→0≤zej n x∧zej n x≤18446744073709551615
 |0,_,h=>h
 |n+1,x,h=>by
  rw[zaY]
  have:=zhx n h
  omega
theorem zaL (b:qV w B v l) (C:B≤w.heap.size) {x:Int} (F:0≤x∧x≤18446744073709551615) (Y:n≤8) (E:l.length≤100000):
  Calls prog 93 #[v,.int .u64 x,.int .i64 n] w λe w'=>∃a,e=.returned a∧qV w' B a (l++leB n x)∧Fr (λj=>v.ownBlock=some j) w w'∧Ye w v a:=by
 have N:=Hd b
 have O:=Hd F
 have K:=Hd C
 have p:=Hd E
 obtain⟨d,f,rfl⟩:=b.form
 clear b F C E
 go_enter Tryz.func93,Tryz.ntmps93
 go_wp2
 go_loopw [0,1,8] (λz W r wr=>∃k:Nat,r=.int .i64 k∧k≤n∧W=.int .u64 (zej k x)∧qV wr B z (l++leB k x)∧Fr (λj=>Value.ownBlock (.slice d l.length f)=some j) w wr∧Ye w (.slice d l.length f) z) (λ_ _ r _=>n-(intOf r).toNat)
 case atStart=>exact⟨0,rfl,zero_le _,rfl,by simpa[leB] using N.o,Fr.refl _ _,λk D=>.inl D⟩
 case round=>
  obtain⟨k,rfl,D,rfl,b,fr,A⟩:=hrel
  have c:=Hd b
  have g:=Hd fr
  have o:=Hd A
  obtain⟨R,S,rfl⟩:=b.form
  clear b fr A
  by_cases hlt:k<n
  rotate_left
  ·have q:k=n:=by omega
   subst q
   have U:¬(k:Int)<(k:Int):=by omega
   have M:=@Hd (∃a,(Value.slice R (l++leB k x).length S)=a∧qV wr B a (l++leB k x)∧Fr (λj=>Value.ownBlock (.slice d l.length f)=some j) w wr∧Ye w (.slice d l.length f) a) (⟨_,rfl,c.o,g.o,o.o⟩)
   generalize X:(l++leB k x).length=m at*
   go_wp2
   go_ret
   obtain⟨a,e,h⟩:=M.o
   exact⟨a,by rw[←e];rfl,h⟩
  ·have U:(k:Int)<(n:Int):=by omega
   have Z:=zhx k O.o
   have P:=@Hd ((l++leB k x).length≤100008) (by rw[length_append,jg];have:=p.o;omega)
   obtain⟨G,V,s,t,u,y⟩:=Jt wr (x:=zej k x % 256) c.o (by have:=P.o;omega) (le_trans K.o g.o.size) 110
   have A1:=Hd s
   have A2:=@Hd (qV V B G (l++leB (k+1) x)) (by rw[ze6,←append_assoc];exact t)
   have H:=Hd (g.o.trans u (λi hi e=>(o.o i e).resolve_right (by omega)))
   have I:=@Hd (Ye w (.slice d l.length f) G) (λj T=>(y j T).elim (λe=>o.o j e) (λe=>.inr (le_trans g.o.size e)))
   have Q:=Hd (zaY k x)
   clear s t u y
   generalize l++leB k x=L at*
   go_wp2_with (first|(at_builtin;refine zJ rfl rfl rfl rfl A1.o ?_))
   go_roundw
   case rel=>exact⟨k+1,by go_num,by omega,by rw[Q.o],A2.o,H.o,I.o⟩
   case measure=>simp[intOf];omega
def qK (t:TxD):Bool:=t.ins.all (λx=>decide (x.key.length≤64)) && (decide (t.ins.length≤8) && decide (t.outs.length≤8))
theorem XF (w:World) {p:zx} {kv:Value} (ok:p.ok):(w.alloc (.cells (inC p kv).toArray 112)).rangeAt w.heap.size 0 (zm p)∧(w.alloc (.cells (inC p kv).toArray 112)).cell? ⟨w.heap.size,33,none⟩=some kv:=by
 have:=zhe (zq w (inC p kv) 112) ok
 simpa using this
theorem qI (w:World) (v:Int) (a b:Value):(w.alloc (.cells #[.int .u32 v,a,b] 27)).cell? ⟨w.heap.size,0,none⟩=some (.int .u32 v)∧(w.alloc (.cells #[.int .u32 v,a,b] 27)).cell? ⟨w.heap.size,1,none⟩=some a∧(w.alloc (.cells #[.int .u32 v,a,b] 27)).cell? ⟨w.heap.size,2,none⟩=some b∧(w.alloc (.cells #[.int .u32 v,a,b] 27)).rangeAt w.heap.size 0 [.int .u32 v,a,b]:=by
 have:=zq w [.int .u32 v,a,b] 27
 exact⟨by simpa using this 0 _ rfl,by simpa using this 1 _ rfl,by simpa using this 2 _ rfl,this⟩
theorem zb0 (w:World) {t:TxD} (P:TxQ w t cs):
  Calls prog 64 #[.agg cs.toArray] w λe w'=>e=.returned (.bool (qK t))∧Fr No w w':=by
 obtain⟨r,s,u,v,rfl,-,hi,-⟩:=P
 have W:=Yc
 have y:=Hd ((frN w).alloc (.cells #[.int .u32 t.ver,.slice r t.ins.length s,.slice u t.outs.length v] 27))
 obtain⟨-,c1,c2,-⟩:=qI w t.ver (.slice r t.ins.length s) (.slice u t.outs.length v)
 have I:=Hd c1
 have K:=Hd c2
 have L:=Hd (hi.keep0 y.o)
 have O:t.ins.length≤9223372036854775807:=le_trans hi.len (by unfold maxLen;decide)
 clear hi
 show Calls prog 64 #[.agg #[.int .u32 t.ver,.slice r t.ins.length s,.slice u t.outs.length v]] w _
 go_enter Tryz.func64,Tryz.ntmps64
 go_wp2
 generalize w.alloc (.cells #[.int .u32 t.ver,.slice r t.ins.length s,.slice u t.outs.length v] 27)=T at*
 generalize w.heap.size=q at*
 clear c1 c2
 go_loopw [8] (λC wr=>∃n:Nat,C=.int .i64 n∧n≤t.ins.length∧(∀x∈t.ins.take n,x.key.length≤64)∧Fr No T wr) (λC _=>t.ins.length-(intOf C).toNat)
 case atStart=>exact⟨0,rfl,zero_le _,by simp,Fr.refl _ _⟩
 case round=>
  obtain⟨n,rfl,V,m,fr⟩:=hrel
  have i:=Hd fr
  have A:=Hd m
  clear fr m
  by_cases B:n<t.ins.length
  ·have R:(n:Int)<(t.ins.length:Int):=by omega
   obtain⟨x,o⟩:∃x,t.ins[n]? =some x:=⟨_,getElem?_eq_getElem B⟩
   obtain⟨b,off,cap,cs,Q,H,f,g,rfl,h,l⟩:=(L.o.keep0 i.o).at_ o
   cases Q
   have G:=Hd H
   have p:=Hd (jf h (.slice f x.key.length g))
   have N:=(XF wr (kv:=.slice f x.key.length g) h).2
   have E:=Hd (i.o.alloc (.cells (inC x.from_ (.slice f x.key.length g)).toArray 112))
   have F:=Hd o
   clear H l h o
   by_cases hk:64<x.key.length
   ·have D:decide ((64:Int)<(x.key.length:Int))=true:=by simp;omega
    have j:=@Hd (qK t=false) (by
     have:t.ins.all (λx=>decide (x.key.length≤64))=false:=by
      rw[List.all_eq_false]
      exact⟨x,mem_of_getElem? F.o,by simp;omega⟩
     simp[qK,this])
    clear hk
    go_wp2_with (first|(refine znS rfl rfl rfl G.o p.o ?_)|(refine zn1 (w:=wr) (cs:=inC x.from_ (.slice f x.key.length g)) rfl rfl rfl rfl p.o Jm ?_;generalize wr.alloc (.cells (inC x.from_ (.slice f x.key.length g)).toArray 112)=U at*))
    go_ret
    exact⟨by rw[j.o];rfl,y.o.trans0 E.o⟩
   ·have D:decide ((64:Int)<(x.key.length:Int))=false:=by simp;omega
    have M:=@Hd (∀e∈t.ins.take (n+1),e.key.length≤64) (λe d=>by
     rw[take_add_one,F.o] at d
     rcases mem_append.1 d with d|d
     ·exact A.o e d
     ·simp at d;subst d;omega)
    clear hk
    go_wp2_with (first|(refine znS rfl rfl rfl G.o p.o ?_)|(refine zn1 (w:=wr) (cs:=inC x.from_ (.slice f x.key.length g)) rfl rfl rfl rfl p.o Jm ?_;generalize wr.alloc (.cells (inC x.from_ (.slice f x.key.length g)).toArray 112)=U at*))
    go_roundw
    case rel=>exact⟨n+1,by go_num,by omega,M.o,E.o⟩
    case measure=>simp[intOf];omega
  ·have R:¬(n:Int)<(t.ins.length:Int):=by omega
   have c1:=i.o.cell I.o id
   have c2:=i.o.cell K.o id
   have a:t.ins.all (λx=>decide (x.key.length≤64))=true:=by
    rw[List.all_eq_true]
    intro x o
    rw[show n=t.ins.length by omega,take_length] at A
    simpa using A.o x o
   have j:=@Hd (qK t=(decide (t.ins.length≤8) && decide (t.outs.length≤8))) (by simp[qK,a])
   have z:=Hd (y.o.trans0 i.o)
   clear a
   by_cases h8:t.ins.length≤8
   ·have D:decide ((t.ins.length:Int)≤8)=true:=by simp;omega
    by_cases h9:t.outs.length≤8
    ·have S:decide ((t.outs.length:Int)≤8)=true:=by simp;omega
     have c:(decide (t.ins.length≤8) && decide (t.outs.length≤8))=true:=by simp[h8,h9]
     have k:=Hd c
     clear h8 h9 c
     go_wp2
     go_ret
     exact⟨by rw[j.o,k.o];rfl,z.o⟩
    ·have S:decide ((t.outs.length:Int)≤8)=false:=by simp;omega
     have c:(decide (t.ins.length≤8) && decide (t.outs.length≤8))=false:=by simp[h8,h9]
     have k:=Hd c
     clear h8 h9 c
     go_wp2
     go_ret
     exact⟨by rw[j.o,k.o];rfl,z.o⟩
   ·have D:decide ((t.ins.length:Int)≤8)=false:=by simp;omega
    have c:(decide (t.ins.length≤8) && decide (t.outs.length≤8))=false:=by simp[h8]
    have k:=Hd c
    clear h8 c
    go_wp2
    go_ret
    exact⟨by rw[j.o,k.o];rfl,z.o⟩
abbrev zi0 (w:World) (r b:Nat) (M R:List (zx×yC)):Prop:=vZ prog 56 Jd zcP w r b M R
def Laid (Md D M':List (zx×yC)):Prop:=∀k v,(k,v)∈M'↔(k,v)∈D∨((k,v)∈Md∧∀u,(k,u)∉D)
theorem Laid.step {d D M' c:List (zx×yC)} {x:zx×yC} (h:Laid d D M') (l:∀u,(x.1,u)∉D) (i:Upd M' x.1 x.2 c):Laid d (D++[x]) c:=by
 intro k v
 obtain⟨f,m⟩:=x
 rw[i k v,h k v]
 simp only[mem_append,mem_singleton,Prod.mk.injEq]
 constructor
 ·rintro(⟨rfl,rfl⟩|⟨a,b|⟨b,g⟩⟩)
  ·exact .inl (.inr ⟨rfl,rfl⟩)
  ·exact .inl (.inl b)
  ·exact .inr ⟨b,λu=>by rintro(h|⟨h,_⟩);exact g u h;exact a h⟩
 ·rintro((a|⟨rfl,rfl⟩)|⟨a,b⟩)
  ·by_cases e:k=f
   ·subst e;exact absurd a (l v)
   ·exact .inr ⟨e,.inl a⟩
  ·exact .inl ⟨rfl,rfl⟩
  ·by_cases e:k=f
   ·subst e;exact absurd (.inr ⟨rfl,rfl⟩) (b m)
   ·exact .inr ⟨e,.inr ⟨a,λu j=>b u (.inl j)⟩⟩
theorem zhS (w:World) {o t:Nat} {n c:List (zx×yC)} (hd:Je w o n) (hs:Je w t c) (ae:o≠t) (hN:n.length+c.length≤1000000) (ok:∀x∈c,x.1.ok∧x.2.ok):
  Calls prog 130 #[.map (some o),.map (some t)] w λe w'=>e=.returned (.tuple #[])∧∃M',Je w' o M'∧Laid n c M'∧Fr (λj=>j=o) w w':=by
 obtain⟨d,q,hit⟩:=hs.rangeI ZT
 have H:=hs.nodup
 have ab:=hd.lt
 have Q:=Hd (hd.keep ((frN w).alloc (.mapIter (some t) d #[] d)) id)
 have T:=Hd hit
 have F0:=Hd ((frN w).alloc (.mapIter (some t) d #[] d))
 have HN:=Hd H
 have Z:=Hd ok
 have zp:=vr
 have zo:=y3
 clear hd hs hit H ok
 go_enter Tryz.func130,Tryz.ntmps130
 go_wp2_with (refine vS rfl rfl rfl q ?_)
 generalize hq:w.heap.size=r at*
 generalize w.alloc (.mapIter (some t) d #[] d)=W at*
 clear q
 try simp only[Act.put,pA,pB,pC]
 go_loopg [] c.length (λm wr=>∃(D R M':List (zx×yC)),(D++R).Perm c∧R.length=m∧zi0 wr r t c R∧Je wr o M'∧Laid n D M'∧M'.length≤n.length+D.length∧Fr (λj=>j=o) w wr)
 case atStart=>exact⟨[],c,n,List.Perm.refl _,rfl,T.o,Q.o,λk v=>by simp,by simp,F0.o.of0⟩
 case round=>
  obtain⟨D,R,M',a,hm,M,O,N,af,g⟩:=hrel
  cases R with
  |nil=>
   have h:=M.stop
   have E:Laid n c M':=λk v=>by
    rw[N k v]
    have:∀x,x∈D↔x∈c:=λx=>by rw[←a.mem_iff];simp
    simp only[this]
   have HL:=Hd E
   have HM:=Hd O
   have HF:=Hd g
   clear M a hm N E O g
   go_wp2_with (refine xm rfl rfl rfl (h _) ?_)
   go_end0
   exact⟨rfl,M',HM.o,HL.o,HF.o⟩
  |cons x0 R0=>
   obtain⟨A,x,B,w2,f,h,C,f2,p⟩:=M.step (by simp) 0
   have hx:x∈c:=a.subset (by rw[f];simp)
   have s:=Hd (Z.o x hx)
   have PL:=Hd (zW s.o.1)
   have OL:=Hd (yq s.o.2)
   have l:((D++[x])++(A++B)).Perm c:=by
    refine List.Perm.trans ?_ a
    rw[f,append_assoc]
    exact List.Perm.append_left _ (show(x::(A++B)).Perm (A++x::B) from List.perm_middle.symm)
   have L:∀u,(x.1,u)∉D:=by
    intro u hu
    have h1:=(l.map (·.1)).nodup_iff.2 HN.o
    rw[map_append,map_append,append_assoc] at h1
    exact(List.nodup_append.1 h1).2.2 x.1 (List.mem_map.2 ⟨_,hu,rfl⟩) x.1 (by simp) rfl
   have z:D.length+(A++B).length+1=c.length:=by have:=l.length_eq;simp at this⊢;omega
   obtain⟨t1,t2,t3,t4,P⟩:=zcF w2 (T1:=56) (T2:=58) (z1:=(zm vi).toArray) (z2:=(zF xN).toArray) (c1:=zm x.1) (c2:=zF x.2) (by rw[PL.o];rfl) (by rw[OL.o];exact yQ)
   have K:r≠o:=by have:=ab;omega
   have F:=(O.keep f2 (λe=>K e.symm)).keep P id
   obtain⟨w4,y,I,G,hU,hT,ad⟩:=F.upd jF.keyed ZT (λ_ _=>vD) (xu s.o.1) (by unfold maxLen;simp at z;omega) x.2
   have fT:=hT.fr
   have Y:=Hd G
   have U:=Hd ((C.keep P id id).keep fT (λe=>ae e.symm) K)
   have V:=Hd (N.step L hU)
   have S:=Hd (((g.trans f2 (λi hi e=>by omega)).trans P.of0 (λi hi e=>e)).trans fT (λi hi e=>e))
   have X:=@Hd (y.length≤n.length+(D++[x]).length) (by simp;omega)
   have HP:=Hd l
   have HR:=@Hd ((A++B).length<gk) (by rw[←hm,f];simp)
   have T1:=Hd t1
   have T2:=Hd t2
   have T3:=Hd t3
   have T4:=Hd t4
   have aa:=Hd I
   clear M C O F N g hx l L z t1 t2 t3 t4 P I G hU hT ad fT f a hm f2
   unfold Jd zcP at h p
   go_wp2_with (first|refine xm rfl rfl rfl h ?_|refine qU rfl rfl rfl p ?_|(refine zi rfl (zU (ty:=56) (b:=w2.heap.size) rfl rfl rfl T1.o (by rw[PL.o];exact xZ) yF) ?_)|(refine zi rfl (zU (ty:=58) (b:=w2.heap.size+1) rfl (by show Value.pointer (some ⟨_,0,none⟩)=_;simp) rfl T2.o (by rw[OL.o];exact yW) yd) ?_)|(refine znW rfl rfl rfl T3.o PL.o ?_)|(refine znU rfl rfl rfl T4.o OL.o ?_)|(refine zi rfl (xK rfl rfl rfl rfl aa.o) ?_))
   go_roundg (A++B).length
   case measure=>exact HR.o
   case rel=>exact⟨D++[x],A++B,y,HP.o,rfl,U.o,Y.o,V.o,X.o,S.o⟩
def jD (S l:List zn):Int:=if(l.map (·.at_)).Nodup then if l.any (λc=>yV S c.at_) then 10 else 0 else 12
def JQ (S l:List zn):List zn:=if jD S l=0 then jQ S l else S
theorem zeg {S l:List zn} (a:(l.map (·.at_)).Nodup) (b:∀c∈l,yV S c.at_=false):jD S l=0∧JQ S l=jQ S l:=by
 have:jD S l=0:=by
  unfold jD
  rw[if_pos a,if_neg (by rw[Bool.not_eq_true,List.any_eq_false];exact λc d=>by rw[b c d];simp)]
 exact⟨this,by unfold JQ;rw[if_pos this]⟩
theorem zlf {S l:List zn} (a:(l.map (·.at_)).Nodup) {c:zn} (d:c∈l) (b:yV S c.at_=true):jD S l=10∧JQ S l=S:=by
 have:jD S l=10:=by
  unfold jD
  rw[if_pos a,if_pos (List.any_eq_true.2 ⟨c,d,b⟩)]
 exact⟨this,by unfold JQ;rw[this];rfl⟩
theorem zlg {S l:List zn} (a:¬(l.map (·.at_)).Nodup):jD S l=12∧JQ S l=S:=by
 have:jD S l=12:=by
  unfold jD
  rw[if_neg a]
 exact⟨this,by unfold JQ;rw[this];rfl⟩
section
variable {w0 w:World} {p:Nat} {V:Nat→Prop} {S:List zn}
theorem CS.put (h:CS w0 w p V S) {M M':List (zx×yC)} {w':World} (o:w.heap[p]? =some (.cells #[.map (some m)] 198 (0,0))) (z:∀k v,(k,v)∈M↔(⟨k,v⟩:zn)∈S) {n:List (zx×yC)} {l:List zn} (t:Je w' m M') (s:Laid M n M') (r:∀k v,(k,v)∈n↔(⟨k,v⟩:zn)∈l) (g:(l.map (·.at_)).Nodup) (q:∀c∈l,yV S c.at_=false) (ok:∀c∈l,c.ok) (f:Fr (λj=>j=m) w w'):
  CS w0 w' p V (jQ S l):=by
 obtain⟨D,C,a,y,A,d,rfl⟩:=h.ex
 rw[o] at a
 injection a with a
 injection a with e1
 injection e1 with e1
 injection e1 with e1
 injection e1 with e1
 injection e1 with e1
 subst e1
 refine⟨⟨m,M',f.obj o d,t,λk v=>?_,d,rfl⟩,JJ h.srt g q,λc x=>(qL.1 x).elim (h.ok c) (ok c),h.lo,h.fr.trans f (λi hi e=>by subst e;have:=h.lo i (.inr rfl);omega)⟩
 rw[s k v,qL,r,z]
 constructor
 ·rintro(b|⟨b,_⟩)
  ·exact .inr b
  ·exact .inl b
 ·rintro(b|b)
  ·refine .inr ⟨b,λu B=>?_⟩
   exact ZN.1 (q _ ((r k u).1 B)) _ b rfl
  ·exact .inl b
theorem zhu (h:CS w0 w p V S) {l:List zn} (hl:vt w v l) (hN:l.length+S.length≤100000):
  Calls prog 99 #[.pointer (some ⟨p,0,none⟩),v] w λe w'=>e=.returned (.int .i64 (jD S l))∧CS w0 w' p V (JQ S l)∧Fr V w w':=by
 obtain⟨va,vc,rfl⟩:=hl.2.form
 have U:=Hd h
 have HL:=Hd hl
 clear h hl
 by_cases hnd:(l.map (·.at_)).Nodup
 ·have ND:=Hd hnd
  clear hnd
  go_enter Tryz.func99,Tryz.ntmps99
  go_wp2_with fail
  refine(zlV w w (Fr.refl _ _) HL.o (by omega) ND.o).mono ?_
  rintro e w1 ⟨p1,rfl,V1,c1,f1,au⟩
  have C1:=Hd c1
  have F1:=Hd f1
  have aj:=Hd au
  have Y:=Hd (U.o.fr0 f1)
  clear c1 f1 au
  obtain⟨m,M,hb,hm,hs,aw,E⟩:=Y.o.ex
  obtain⟨G,I,Z,ab,ad,ax,j⟩:=C1.o.ex
  obtain⟨z,T,hit⟩:=ab.rangeI ZT
  have aJ:w1.cell? ⟨p1,0,none⟩=some (.map (some G)):=(zbf Z).1
  have HB:=Hd hb
  have az:=Hd Z
  have ah:=Hd hm
  have HS:=Hd hs
  have u:=@Hd (∀k v,(k,v)∈I↔(⟨k,v⟩:zn)∈l) (λk v=>by rw[ad,qL];simp)
  have aD:=Hd hit
  have F0:=Hd ((frN w1).alloc (.mapIter (some G) z #[] z))
  have aG:=@Hd (m≠G) (λe=>by
   have h1:=aj.o G (by rw[j];exact .inr rfl)
   have h2:=U.o.hi m (by rw[E];exact .inr rfl)
   omega)
  have LM:=Hd (zdx hm hs Y.o.srt)
  have ak:=@Hd (I.length=l.length) (by rw[zdx ab ad C1.o.srt,(Zu l []).length_eq];rfl)
  have aH:=Hd aw
  have ai:=@Hd (p1≠m) (λe=>by
   have h1:=aj.o p1 (by rw[j];exact .inl rfl)
   have h2:=U.o.hi m (by rw[E];exact .inr rfl)
   omega)
  have VM:=@Hd (V m∧V p) (by rw[E];exact⟨.inr rfl,.inl rfl⟩)
  have zp:=vr
  have zo:=y3
  clear hb Z hm ab hs ad aw ax E j hit
  go_wp2_with (refine vS rfl rfl rfl T ?_)
  generalize hq:w1.heap.size=r at*
  generalize w1.alloc (.mapIter (some G) z #[] z)=W at*
  clear T aJ
  try simp only[Act.put,pA,pB,pC]
  go_loopg [] l.length (λn wr=>∃(D R:List (zx×yC)),(D++R).Perm I∧R.length=n∧zi0 wr r G I R∧(∀x∈D,yV S x.1=false)∧Fr No w1 wr)
  case atStart=>exact⟨[],I,List.Perm.refl _,ak.o,aD.o,by simp,F0.o⟩
  case round=>
   obtain⟨D,R,a,hm,hI,hD,F⟩:=hrel
   cases R with
   |nil=>
    have s:=hI.stop
    have aa:∀c∈l,yV S c.at_=false:=λc hc=>hD (c.at_,c.out) (by
     have:(c.at_,c.out)∈D++[]:=a.mem_iff.2 ((u.o _ _).2 hc)
     simpa using this)
    obtain⟨N,O⟩:=zeg ND.o aa
    have E0:=Hd N
    have E1:=Hd O
    have aC:=Hd aa
    have FR:=Hd F
    have aF:=Hd hI.map
    clear hI a hm hD F N O aa
    have b0:=FR.o.obj HB.o id
    have b1:=FR.o.obj az.o id
    have g:wr.cell? ⟨p,0,none⟩=some (.map (some m)):=(zbf b0).1
    have c1:wr.cell? ⟨p1,0,none⟩=some (.map (some G)):=(zbf b1).1
    have ar:=ah.o.keep FR.o id
    have ag:=Hd (Y.o.fr0 FR.o)
    have Q:∀x∈I,x.1.ok∧x.2.ok:=λx hx=>HL.o.1 _ ((u.o x.1 x.2).1 hx)
    have av:=zhS wr.drew (ar.keep (frN _).drew id) (aF.o.keep (frN _).drew id) aG.o (by rw[LM.o,ak.o];omega) Q
    have aB:=Hd av
    clear b1 ar Q av
    go_wp2_with (refine xm rfl rfl rfl (s _) ?_)
    refine wrLx [ff,ff,ff,ff,ff,ff,ff,ff,tt] (λw'=>w'.cell? ⟨p,0,none⟩=some (.map (some m))∧w'.cell? ⟨p1,0,none⟩=some (.map (some G))) ?_ (λK hK=>?_)
    ·exact⟨g,c1⟩
    repeat((first|(refine zk rfl ?_;constructor;constructor;(focus(first|(rintro w' ⟨s1,s2⟩;exact goS))))|(refine zl rfl ?_));try simp only[Act.put,pA,pB,pC])
    (refine zM rfl (λK' hK'=>?_))
    go_simp
    refine aB.o.mono ?_
    rintro e w3 ⟨rfl,M',aq,ao,f3⟩
    have aA:=Hd (ag.o.put b0 HS.o aq ao u.o ND.o aC.o HL.o.1 ((frN wr).drew.of0.trans f3 (λ_ _ h=>h)))
    have F3:=@Hd (Fr V w w3) (((F1.o.trans0 FR.o).of0.trans ((frN wr).drew.of0.trans f3 (λ_ _ h=>h)) (λi hi e=>by subst e;exact VM.o.1)))
    have S3:=@Hd (w3.cell? ⟨p,0,none⟩=some (.map (some m))∧w3.cell? ⟨p1,0,none⟩=some (.map (some G))) (⟨f3.cell g aH.o,f3.cell c1 ai.o⟩)
    clear aq ao f3 ag
    refine nXt hK' ?_ λhS=>?_
    ·exact S3.o
    try simp only[Act.put,pA,pB,pC]
    refine zN (hK.out _ _ ?_)
    go_wp2
    go_ret
    exact⟨by rw[E0.o];rfl,by rw[E1.o];exact aA.o,F3.o⟩
   |cons x0 R0=>
    obtain⟨A,x,B,b,C,s,an,f2,o⟩:=hI.step (by simp) 0
    have hx:x∈I:=a.subset (by rw[C];simp)
    have ae:=(u.o x.1 x.2).1 hx
    have al:=Hd (HL.o.1 _ ae)
    have PL:=Hd (zW al.o.1)
    have XO:=Hd (qB U.o.ok x.1)
    have OL:=Hd (yq XO.o)
    have ay:((D++[x])++(A++B)).Perm I:=by
     refine List.Perm.trans ?_ a
     rw[C,append_assoc]
     exact List.Perm.append_left _ (show(x::(A++B)).Perm (A++x::B) from List.perm_middle.symm)
    have P:Fr No w1 b:=F.trans f2 (λi hi e=>by omega)
    have f:=P.alloc (.cells (zm x.1).toArray 56)
    have bA:=f.obj HB.o id
    have g:(b.alloc (.cells (zm x.1).toArray 56)).cell? ⟨p,0,none⟩=some (.map (some m)):=(zbf bA).1
    have L:=Hd (zq b (zm x.1) 56)
    have H:=Hd (ah.o.keep f id)
    have aE:=Hd (an.keep (((frN b).alloc (.cells (zm x.1).toArray 56)).alloc (.cells (zF (zZ S x.1)).toArray 58)).drew id id)
    have af:=Hd ((f.alloc (.cells (zF (zZ S x.1)).toArray 58)).drew)
    have d:=Hd (λw' (h':Je w' m M)=>zd7 (w:=w') (q:=x.1) HS.o U.o.srt al.o.1 h')
    have HP:=Hd ay
    have HR:=@Hd ((A++B).length<gk) (by rw[←hm,C];simp)
    have aI:=Hd ae
    have HD:=Hd hD
    clear hI an F P f bA hx ae ay C a hm f2 hD
    unfold Jd zcP at s o
    cases hh:yV S x.1 with
    |true=>
     obtain⟨N,O⟩:=zlf ND.o aI.o hh
     have E0:=Hd N
     have E1:=Hd O
     rw[hh] at d
     have FZ:=Hd (F1.o.trans0 af.o)
     clear hh N O
     generalize hX:zZ S x.1=X at*
     generalize hQ:x.1=q at*
     clear hX
     go_wp2_with (first|refine xm rfl rfl rfl s ?_|refine qU rfl rfl rfl o ?_|(refine zi rfl (zj (w:=b) (ty:=56) rfl rfl rfl (by rw[PL.o];rfl) (by rw[PL.o];exact xZ) yF) ?_))
     refine wrLx [ff,ff,ff,ff,ff,ff,ff,ff,ff,tt,tt,ff] (λw'=>w'.cell? ⟨p,0,none⟩=some (.map (some m))∧w'.rangeAt b.heap.size 0 (zm q)∧Je w' m M) ?_ (λK hK=>?_)
     ·exact⟨g,za L.o (frN _).drew id,H.o.keep (frN _).drew id⟩
     repeat((first|(refine zk rfl ?_;constructor;constructor;(focus(first|exact znZ rfl (λw h=>h.2.1) PL.o|exact λw' h=>zY (t:=196) rfl rfl rfl (d.o w' h.2.2)|(rintro w' ⟨s1,s2,s3⟩;exact goS))))|(refine zl rfl ?_));try simp only[Act.put,pA,pB,pC])
     (refine zM rfl (λK' hK'=>?_))
     refine yD (xH rfl (y3 _)) ?_
     refine nXt hK' ?_ λhS=>?_
     ·exact⟨(((frN (b.alloc (.cells (zm q).toArray 56))).drew).alloc _).cell g id,za L.o (((frN (b.alloc (.cells (zm q).toArray 56))).drew).alloc _) id,H.o.keep (((frN (b.alloc (.cells (zm q).toArray 56))).drew).alloc _) id⟩
     try simp only[Act.put,pA,pB,pC]
     (refine zM rfl (λK' hK'=>?_))
     refine xp (zj (w:=((b.alloc (.cells (zm q).toArray 56))).drew) (ty:=58) (cs:=zF X) rfl rfl rfl (by rw[OL.o];rfl) (by rw[OL.o];exact yW) yd) ?_
     refine nXt hK' ?_ λhS=>?_
     ·exact⟨(((frN (b.alloc (.cells (zm q).toArray 56))).drew).alloc _).cell g id,za L.o (((frN (b.alloc (.cells (zm q).toArray 56))).drew).alloc _) id,H.o.keep (((frN (b.alloc (.cells (zm q).toArray 56))).drew).alloc _) id⟩
     try simp only[Act.put]
     repeat((first|(refine zk rfl ?_;constructor;constructor;(focus(first|(rintro w' -;exact goS))))|(refine zl rfl ?_));try simp only[Act.put,pA,pB,pC])
     refine zN (hK.out _ _ ?_)
     clear g L H d
     go_wp2
     go_ret
     exact⟨by rw[E0.o];rfl,by rw[E1.o];exact U.o.fr0 FZ.o,FZ.o.of0⟩
    |false=>
     rw[hh] at d
     have HH:=Hd hh
     clear hh
     generalize hX:zZ S x.1=X at*
     generalize hQ:x.1=q at*
     clear hX
     go_wp2_with (first|refine xm rfl rfl rfl s ?_|refine qU rfl rfl rfl o ?_|(refine zi rfl (zj (w:=b) (ty:=56) rfl rfl rfl (by rw[PL.o];rfl) (by rw[PL.o];exact xZ) yF) ?_))
     refine wrLx [ff,ff,ff,ff,ff,ff,ff,ff,ff,tt,tt,ff] (λw'=>w'.cell? ⟨p,0,none⟩=some (.map (some m))∧w'.rangeAt b.heap.size 0 (zm q)∧Je w' m M) ?_ (λK hK=>?_)
     ·exact⟨g,za L.o (frN _).drew id,H.o.keep (frN _).drew id⟩
     repeat((first|(refine zk rfl ?_;constructor;constructor;(focus(first|exact znZ rfl (λw h=>h.2.1) PL.o|exact λw' h=>zY (t:=196) rfl rfl rfl (d.o w' h.2.2)|(rintro w' ⟨s1,s2,s3⟩;exact goS))))|(refine zl rfl ?_));try simp only[Act.put,pA,pB,pC])
     (refine zM rfl (λK' hK'=>?_))
     refine yD (xH rfl (y3 _)) ?_
     refine nXt hK' ?_ λhS=>?_
     ·exact⟨(((frN (b.alloc (.cells (zm q).toArray 56))).drew).alloc _).cell g id,za L.o (((frN (b.alloc (.cells (zm q).toArray 56))).drew).alloc _) id,H.o.keep (((frN (b.alloc (.cells (zm q).toArray 56))).drew).alloc _) id⟩
     try simp only[Act.put,pA,pB,pC]
     (refine zM rfl (λK' hK'=>?_))
     refine xp (zj (w:=((b.alloc (.cells (zm q).toArray 56))).drew) (ty:=58) (cs:=zF X) rfl rfl rfl (by rw[OL.o];rfl) (by rw[OL.o];exact yW) yd) ?_
     refine nXt hK' ?_ λhS=>?_
     ·exact⟨(((frN (b.alloc (.cells (zm q).toArray 56))).drew).alloc _).cell g id,za L.o (((frN (b.alloc (.cells (zm q).toArray 56))).drew).alloc _) id,H.o.keep (((frN (b.alloc (.cells (zm q).toArray 56))).drew).alloc _) id⟩
     try simp only[Act.put]
     repeat((first|(refine zk rfl ?_;constructor;constructor;(focus(first|(rintro w' -;exact goS))))|(refine zl rfl ?_));try simp only[Act.put,pA,pB,pC])
     refine zN (hK.out _ _ ?_)
     clear g L H d
     go_wp2
     go_roundg (A++B).length
     case measure=>exact HR.o
     case rel=>
      refine⟨D++[x],A++B,HP.o,rfl,aE.o,?_,af.o⟩
      intro y hy
      rcases mem_append.1 hy with h|h
      ·exact HD.o y h
      ·rw[mem_singleton.1 h,hQ];exact HH.o
 ·have ND:=Hd hnd
  obtain⟨N,O⟩:=zlg (S:=S) hnd
  have E0:=Hd N
  have E1:=Hd O
  clear hnd N O
  go_enter Tryz.func99,Tryz.ntmps99
  go_wp2_with fail
  refine(ziq w HL.o (by omega) ND.o).mono ?_
  rintro e w1 ⟨rfl,f1⟩
  have F1:=Hd f1
  clear f1
  go_wp2
  go_ret
  exact⟨by rw[E0.o];rfl,by rw[E1.o];exact U.o.fr0 F1.o,F1.o.of0⟩
end
section
open Go.Sort
def Xo (S:List zn) (ps:List zx):Int:=if ps.Nodup then if ps.all (yV S) then 0 else 9 else 12
def JK (S:List zn) (ps:List zx):List zn:=if Xo S ps=0 then x9 S ps else S
def zcC (S:List zn) (ps:List zx):List yC:=if Xo S ps=0 then ps.map (zZ S) else[]
def Xm (S:List zn) (ps:List zx):Nat:=(ps.filter λp=> !yV S p).length
theorem zgw (S:List zn) {ps:List zx} {x:zx} (h:ps[n]? =some x):Xm S (ps.take (n+1))=Xm S (ps.take n)+if yV S x=true then 0 else 1:=by
 unfold Xm
 rw[take_add_one,h]
 simp only[Option.toList_some,List.filter_append,length_append]
 cases hx:yV S x<;>simp[hx]
theorem zjP (S:List zn) (ps:List zx):Xm S ps≤ps.length:=List.length_filter_le _ _
theorem zio {S:List zn} {ps:List zx}:ps.all (yV S)=true↔Xm S ps=0:=by
 unfold Xm
 rw[List.length_eq_zero_iff,List.filter_eq_nil_iff,List.all_eq_true]
 simp
abbrev zko (c:Int):Value:=.int .i64 c
abbrev zbC (w:World) (m:Nat) (M:List (zx×Int)):Prop:=yI prog 56 Jd zko w m M
theorem zak (w:World):(Instr.makeMap 148 none).run prog w=.ok (.map (some w.heap.size)) (w.alloc (.map #[] 0)):=by kernel_rfl
theorem zgK {S:List zn} {ps:List zx} {x:zx} (h:ps[n]? =some x):x9 (x9 S (ps.take n)) [x]=x9 S (ps.take (n+1)):=by
 unfold x9
 rw[List.filter_filter,take_add_one,h]
 apply List.filter_congr
 intro c _
 simp[Bool.and_comm]
theorem yu {w:World} {B b k n:Nat} {e:TypeId} {xs:List Value} (h:w.ownsRow B e k v n xs) (f:b≤B):w.ownsRow b e k v n xs:=
 ⟨h.1,h.2.imp id λ⟨g,c,a,d,i,r⟩=>⟨g,c,a,d,le_trans f i,r⟩⟩
theorem ziV (S:List zn):x9 S []=S:=by simp[x9]
section
variable {w0 w:World} {p:Nat} {V:Nat→Prop} {S:List zn}
theorem CS.setM (h:CS w0 w p V S) {M':List (zx×yC)} {w':World} {d:List zn} (g:w.heap[p]? =some (.cells #[.map (some m)] 198 (0,0))) (l:Je w' m M') (o:∀k v,(k,v)∈M'↔(⟨k,v⟩:zn)∈d) (srt:qF d) (ok:∀c∈d,c.ok) (f:Fr (λj=>j=m) w w'):
  CS w0 w' p V d:=by
 obtain⟨s,r,a,n,q,b,rfl⟩:=h.ex
 rw[g] at a
 injection a with a
 injection a with e1
 injection e1 with e1
 injection e1 with e1
 injection e1 with e1
 injection e1 with e1
 subst e1
 exact⟨⟨m,M',f.obj g b,l,o,b,rfl⟩,srt,ok,h.lo,h.fr.trans f (λi hi e=>by subst e;have:=h.lo i (.inr rfl);omega)⟩
omit w0 w p V S in
theorem ze9 {w:World} {M:List (zx×yC)} (h:Je w m M) (o:Nat):w.cell? ⟨m,o,none⟩=none:=by
 obtain⟨es,a,b,-⟩:=h
 simp[World.cell?,b]
theorem zkt (h:CS w0 w p V S) {ps:List zx} (hl:vw w v ps) (hN:ps.length+S.length≤100000):
  Calls prog 100 #[.pointer (some ⟨p,0,none⟩),v] w λe w'=>∃x,e=.returned (.tuple #[x,.int .i64 (Xo S ps)])∧w'.ownsRow w.heap.size 58 33 x (zcC S ps).length ((zcC S ps).flatMap zF)∧CS w0 w' p V (JK S ps)∧Fr V w w':=by
 obtain⟨va,vc,rfl⟩:=hl.2.form
 have HC:=Hd h
 have HL:=Hd hl
 have zp:=vr
 have zo:=y3
 have bz:=zak w
 obtain⟨iK,hi,hz,E,aI⟩:=info_parts JG
 obtain⟨w2,aM,R,ao⟩:=run_makeSlice_full (P:=prog) (w:=w.alloc (.map #[] 0)) (w.heap.size+1) 22 58 iK _ 33 qO hi hz E .i64 .i64 ps.length (by omega) (by rw[aI];omega) (by unfold maxLen;omega) (by simp)
 have f2:Fr No w w2:=((frN w).alloc _).trans0 (Fr.of_grown ao (λk e=>by cases e))
 have a7:=@Hd (zbC w2 w.heap.size []) ((yI.made w).keep (W:=No) (Fr.of_grown ao (λk e=>by cases e)) id)
 have ae:(w.alloc (.map #[] 0)).heap.size=w.heap.size+1:=by simp
 rw[ae] at aM R
 have bc:=Hd (yu R (Nat.le_succ w.heap.size))
 have F2:=Hd f2
 have bp:=@Hd (w.heap.size+1<w2.heap.size) ((R.lt _ rfl).2)
 clear h hl hi hz E aI R ao f2 ae
 go_enter Tryz.func100,Tryz.ntmps100
 go_wp2_with fail
 clear aM bz
 generalize bw:w.heap.size=f at*
 go_loopw [7,23] (λkv iv wr=>∃(n:Nat) (T:List (zx×Int)) (xs:List Value),iv=.int .i64 n∧n≤ps.length∧kv=.int .i64 (Xm S (ps.take n))∧zbC wr f T∧(∀k,(∃c,(k,c)∈T)↔k∈ps.take n)∧T.length≤n∧wr.ownsRow f 58 33 (.slice (some ⟨f+1,0,none⟩) ps.length ps.length) ps.length xs∧xs.take (n*33)=((ps.take n).map (zZ S)).flatMap zF∧Fr No w wr∧f+1<wr.heap.size) (λ_ iv _=>ps.length-(intOf iv).toNat)
 case atStart=>exact⟨0,[],_,rfl,zero_le _,rfl,a7.o,by simp,le_refl _,bc.o,by simp,F2.o,bp.o⟩
 case round=>
  obtain⟨n,T,xs,rfl,hn,rfl,aT,aJ,aN,aP,aW,fr,E⟩:=hrel
  have FR:=Hd fr
  have y:=Hd aT
  have I:=Hd aJ
  have u:=Hd aP
  have L:=Hd aW
  have ag:=Hd aN
  have al:=Hd E
  have an:=HC.o.fr0 fr
  obtain⟨m,M,hb,hm,hs,aO,aH⟩:=an.ex
  have VM:=@Hd (V m∧V p) (by rw[aH];exact⟨.inr rfl,.inl rfl⟩)
  have HB:=Hd hb
  have ah:=Hd hm
  have HS:=Hd hs
  have bb:=Hd aO
  have H:=Hd an
  clear fr aT aJ aP aW aN E an hm hs aO aH
  by_cases h:n<ps.length
  ·have i1:(n:Int)<(ps.length:Int):=by omega
   obtain⟨q,G⟩:∃x,ps[n]? =some x:=⟨_,getElem?_eq_getElem h⟩
   obtain⟨b,off,cap,hv,hr,-⟩:=(HL.o.keep FR.o).at_ G
   cases hv
   have d:=Hd (HL.o.1 q (mem_of_getElem? G))
   have F:=Hd (zW d.o)
   have XO:=Hd (qB HC.o.ok q)
   have U:=Hd (yq XO.o)
   have R1:=Hd hr
   have Q:=zgw S G
   have bs:=zjP S (ps.take n)
   rw[length_take] at bs
   have aG:ps.take (n+1)=ps.take n++[q]:=by rw[take_add_one,G];rfl
   have A:=Hd (λw' (h':Je w' m M)=>zd7 (w:=w') (q:=q) HS.o HC.o.srt d.o h')
   have N:=(frN wr).alloc (.cells (zm q).toArray 56)
   have c0:(wr.alloc (.cells (zm q).toArray 56)).cell? ⟨p,0,none⟩=some (.map (some m)):=(zbf (N.obj hb id)).1
   have RB:=Hd (zq wr (zm q) 56)
   have HM:=Hd (ah.o.keep N id)
   have f5:=(N.alloc (.cells (zF (zZ S q)).toArray 58)).drew
   have F5:=Hd f5
   have RX:=@Hd (((wr.alloc (.cells (zm q).toArray 56)).alloc (.cells (zF (zZ S q)).toArray 58)).drew.rangeAt (wr.alloc (.cells (zm q).toArray 56)).heap.size 0 (zF (zZ S q))) (zq _ _ _)
   have ai:=Hd (zb u.o f5 (λ_ _=>id))
   have TH:=Hd (Jx ai.o h)
   have au:=Hd (vP ai.o (n*33) (cs:=zF (zZ S q)) (by rw[U.o];omega))
   have f6:=zy (f+1) (zF (zZ S q)) (n*33) ((wr.alloc (.cells (zm q).toArray 56)).alloc (.cells (zF (zZ S q)).toArray 58)).drew
   have bl:=@Hd ((setM xs (n*33) (zF (zZ S q))).take ((n+1)*33)=((ps.take (n+1)).map (zZ S)).flatMap zF) (by
    have h1:=zam xs (zF (zZ S q)) (n*33) (by rw[u.o.1,U.o];omega)
    rw[U.o] at h1
    rw[aG,map_append,List.flatMap_append,←L.o,show(n+1)*33=n*33+33 by omega,h1]
    simp)
   have D:zbC ((((wr.alloc (.cells (zm q).toArray 56)).alloc (.cells (zF (zZ S q)).toArray 58)).drew.setCells (f+1) (n*33) (zF (zZ S q))).drew) f T:=((y.o.keep f5 id).keep f6 (λe=>by omega)).keep (frN _).drew id
   have ay:=@Hd (((((wr.alloc (.cells (zm q).toArray 56)).alloc (.cells (zF (zZ S q)).toArray 58)).drew.setCells (f+1) (n*33) (zF (zZ S q))).drew).rangeAt wr.heap.size 0 (zm q)) (za (za (za RB.o (((frN _).alloc _).drew) id) f6 (λe=>by have:=al.o;omega)) (frN _).drew id)
   obtain⟨v0,w7,s,M1,bx,Z,B,aC,aa,ab,aV⟩:=D.bump jF.keyed Xh (λ_ _=>vD) (z:=0) YK (xu d.o) (by unfold maxLen;have:=ag.o;omega)
   obtain⟨w8,M',aU,aD,hU,O,bt⟩:=aV (IntKind.i64.wrap (v0+1)) w7 No (Fr.refl _ _) id
   have bm:=Hd (aa _ D)
   have bn:=Hd (ab _ aC)
   have aq:=Hd Z
   have bk:=Hd aU
   have bo:=Hd (za ay.o B.fr (λe=>by have:=al.o;omega))
   have ba:=Hd aD
   have bd:=Hd (zb (zb (zb au.o (frN _).drew (λ_ _=>id)) B.fr (λj e e'=>by simp[Value.ownBlock] at e;omega)) O.fr (λj e e'=>by simp[Value.ownBlock] at e;omega))
   have az:Fr No w w8:=((((FR.o.trans0 f5).trans f6 (λi hi e=>by omega)).drew).trans B.fr (λi hi e=>by omega)).trans O.fr (λi hi e=>by omega)
   have F8:=Hd az
   have bq:=@Hd (f+1<w8.heap.size) (by
    have h1:=f5.size;have h2:=f6.size;have h3:=B.fr.size;have h4:=O.fr.size;have h5:=al.o
    simp only[World.drew] at h3
    have h6:((((wr.alloc (.cells (zm q).toArray 56)).alloc (.cells (zF (zZ S q)).toArray 58)).drew.setCells (f+1) (n*33) (zF (zZ S q)))).heap.size≤w7.heap.size:=h3
    omega)
   have aZ:=@Hd (∀k,(∃c,(k,c)∈M')↔k∈ps.take (n+1)) (λk=>by
    rw[aG,mem_append,mem_singleton,←I.o k]
    constructor
    ·rintro⟨c,hc⟩
     rcases(hU k c).1 hc with⟨rfl,_⟩|⟨_,h⟩
     ·exact .inr rfl
     ·exact .inl ⟨c,h⟩
    ·rintro(⟨c,hc⟩|rfl)
     ·by_cases e:k=q
      ·subst e;exact⟨_,(hU _ _).2 (.inl ⟨rfl,rfl⟩)⟩
      ·exact⟨c,(hU _ _).2 (.inr ⟨e,hc⟩)⟩
     ·exact⟨_,(hU _ _).2 (.inl ⟨rfl,rfl⟩)⟩)
   have a1:=@Hd (M'.length≤n+1) (by have:=ag.o;omega)
   clear hr G N f5 f6 D Z B aC aa ab aV aU aD hU O bt hb az ai au y I L ah bx
   have hw:IntKind.i64.wrap ((Xm S (ps.take n):Int)+1)=((Xm S (ps.take n)+1:Nat):Int):=by rw[IntWalk.i64_in _ (by omega)];omega
   cases hh:yV S q
   all_goals
    rw[hh] at A Q
    simp only[if_true,Bool.false_eq_true,if_false] at Q
    have aY:=Hd Q
    clear hh Q
    generalize hX:zZ S q=X at*
    clear hX
    go_wp2_with (first|(refine znW rfl rfl rfl R1.o F.o ?_)|(refine zi rfl (zj (w:=wr) (ty:=56) rfl rfl rfl (by rw[F.o];rfl) (by rw[F.o];exact xZ) yF) ?_))
    refine wrLx [ff,ff,ff,ff,ff,ff,ff,ff,ff,tt,tt,ff] (λw'=>w'.cell? ⟨p,0,none⟩=some (.map (some m))∧w'.rangeAt wr.heap.size 0 (zm q)∧Je w' m M) ?_ (λK hK=>?_)
    ·exact⟨c0,za RB.o (frN _).drew id,HM.o.keep (frN _).drew id⟩
    repeat((first|(refine zk rfl ?_;constructor;constructor;(focus(first|exact znZ rfl (λw h=>h.2.1) F.o|exact λw' h=>zY (t:=196) rfl rfl rfl (A.o w' h.2.2)|(rintro w' ⟨s1,s2,s3⟩;exact goS))))|(refine zl rfl ?_));try simp only[Act.put,pA,pB,pC])
    (refine zM rfl (λK' hK'=>?_))
    refine yD (xH rfl (y3 _)) ?_
    refine nXt hK' ?_ λhS=>?_
    ·exact⟨(((frN (wr.alloc (.cells (zm q).toArray 56))).drew).alloc _).cell c0 id,za RB.o (((frN (wr.alloc (.cells (zm q).toArray 56))).drew).alloc _) id,HM.o.keep (((frN (wr.alloc (.cells (zm q).toArray 56))).drew).alloc _) id⟩
    try simp only[Act.put,pA,pB,pC]
    (refine zM rfl (λK' hK'=>?_))
    refine xp (zj (w:=((wr.alloc (.cells (zm q).toArray 56))).drew) (ty:=58) (cs:=zF X) rfl rfl rfl (by rw[U.o];rfl) (by rw[U.o];exact yW) yd) ?_
    refine nXt hK' ?_ λhS=>?_
    ·exact⟨(((frN (wr.alloc (.cells (zm q).toArray 56))).drew).alloc _).cell c0 id,za RB.o (((frN (wr.alloc (.cells (zm q).toArray 56))).drew).alloc _) id,HM.o.keep (((frN (wr.alloc (.cells (zm q).toArray 56))).drew).alloc _) id⟩
    try simp only[Act.put]
    repeat((first|(refine zk rfl ?_;constructor;constructor;(focus(first|(rintro w' -;exact goS))))|(refine zl rfl ?_));try simp only[Act.put,pA,pB,pC])
    refine zN (hK.out _ _ ?_)
    clear c0 RB HM A
    go_wp2_with (first|(refine znU rfl rfl rfl RX.o U.o ?_)|(refine zi rfl (zU (ty:=58) rfl rfl rfl (by rw[U.o];exact TH.o) (by rw[U.o];exact yW) yd) ?_))
    refine yw [ff,ff,ff,ff,tt,ff,tt] (λw'=>w'.rangeAt wr.heap.size 0 (zm q)∧(Instr.lookup 148 (.map (some f)) (Jd q) false).run prog w'=.ok (.int .i64 v0) w') (by kernel_rfl) (by kernel_rfl) 6 (by kernel_rfl) (by kernel_rfl) ?_ (λK hK=>?_)
    ·exact⟨ay.o,bm.o⟩
    repeat((first|(refine yk rfl ?_;constructor;constructor;(focus(first|exact znZ rfl (λw h=>h.1) F.o|exact λw' h=>zY (t:=148) rfl rfl rfl h.2|(rintro w' ⟨s1,s2⟩;exact goS))))|(refine yl rfl ?_));try simp only[Act.put,pA,pB,pC])
    (refine yf rfl (λK' hK'=>?_))
    refine yD (Va rfl rfl rfl aq.o) ?_
    refine hK'.out _ _ (λ_=>?_) (λhS=>?_)
    ·exact⟨bo.o,bn.o⟩
    try simp only[Act.put,pA,pB,pC]
    repeat((first|(refine yk rfl ?_;constructor;constructor;(focus(first|(rintro w' ⟨s1,s2⟩;exact goS))))|(refine yl rfl ?_));try simp only[Act.put,pA,pB,pC])
    (refine yf rfl (λK' hK'=>?_))
    refine xp (Xk rfl rfl rfl rfl bk.o) ?_
    refine hK'.out _ _ (λh=>absurd rfl h) (λhS=>?_)
    refine xV (hK.out _ _ ?_)
    go_wp2
    go_roundw
    case rel=>exact⟨n+1,M',_,by simp,by omega,by rw[aY.o];rfl,ba.o,aZ.o,a1.o,bd.o,bl.o,F8.o,bq.o⟩
    case measure=>show ps.length-(n+1)<ps.length-n;omega
  ·have i1:¬(n:Int)<(ps.length:Int):=by omega
   have Y:ps.take n=ps:=by rw[show n=ps.length by omega,take_length]
   have ad:∀x,x∈T.map (·.1)↔x∈ps:=by
    intro x
    rw[←show ps.take n=ps from Y,←I.o x]
    simp
   have a:=zaP y.o.nodup ad
   rw[List.length_map] at a
   have LR:=Hd (λty=>y.o.lenRun Xh ty)
   have o:=zio (S:=S) (ps:=ps)
   rw[←Y] at o
   have ax:=@Hd (xs=(ps.map (zZ S)).flatMap zF) (by
    have h1:=L.o
    rw[Y,show n=ps.length by omega,List.take_of_length_le (by rw[u.o.1];omega)] at h1
    exact h1)
   have F0:=FR
   clear ad L I ah
   by_cases hnd:ps.Nodup
   ·have j1:(T.length:Int)=(ps.length:Int):=by have:=a.2 hnd;omega
    clear a
    by_cases hm0:Xm S (ps.take n)=0
    ·have j2:¬(0:Int)<(Xm S (ps.take n):Int):=by omega
     have r:=@Hd (Xo S ps=0) (by unfold Xo;rw[if_pos hnd,if_pos (by rw[←Y];exact o.2 hm0)])
     have a6:=Hd (HL.o.keep FR.o)
     have av:=@Hd (wr.ownsRow f 58 33 (.slice (some ⟨f+1,0,none⟩) ps.length ps.length) (zcC S ps).length ((zcC S ps).flatMap zF)) (by
      unfold zcC
      rw[if_pos r.o,List.length_map,←ax.o]
      exact u.o)
     have ES:=@Hd (JK S ps=x9 S ps) (by unfold JK;rw[if_pos r.o])
     obtain⟨m2,M2,C,aK,aR,-,-⟩:=H.o.ex
     have bu:m2=m:=by
      rw[hb] at C
      injection C with C
      injection C with e1
      injection e1 with e1
      injection e1 with e1
      injection e1 with e1
      injection e1 with e1
      exact e1.symm
     subst bu
     have ar:=Hd aK
     have bh:=Hd aR
     have aw:=@Hd (p<f∧m2<f) (⟨by have:=HC.o.hi p VM.o.2;omega,by have:=HC.o.hi m2 VM.o.1;omega⟩)
     clear o hm0 Y C aK aR ax u y ag
     go_wp2_with (refine zg rfl (jr rfl rfl (LR.o _)) ?_)
     clear LR
     go_loopw [61] (λiv aX=>∃(g:Nat) (M3:List (zx×yC)),iv=.int .i64 g∧g≤ps.length∧Je aX m2 M3∧(∀k v,(k,v)∈M3↔(⟨k,v⟩:zn)∈x9 S (ps.take g))∧Fr (λj=>j=m2) wr aX) (λiv _=>ps.length-(intOf iv).toNat)
     case atStart=>exact⟨0,M2,rfl,zero_le _,ar.o,by rw[List.take_zero,ziV];exact bh.o,Fr.refl _ _⟩
     case round=>
      obtain⟨g,M3,rfl,bA,aL,aS,aA⟩:=hrel
      have af:=Hd aL
      have aj:=Hd aS
      have l:=Hd aA
      clear aL aS aA
      by_cases h2:g<ps.length
      ·have i2:(g:Int)<(ps.length:Int):=by omega
       obtain⟨q,G⟩:∃x,ps[g]? =some x:=⟨_,getElem?_eq_getElem h2⟩
       obtain⟨b,off,cap,hv,hr,-⟩:=a6.o.at_ G
       cases hv
       have d:=Hd (HL.o.1 q (mem_of_getElem? G))
       have F:=Hd (zW d.o)
       have br:b≠m2:=λe=>by
        subst e
        have h3:=hr 32 _ (zdz d.o)
        rw[ze9 ar.o] at h3
        cases h3
       have R1:=Hd (za hr l.o br)
       have N:=(frN wr).alloc (.cells (zm q).toArray 56)
       have cA:(wr.alloc (.cells (zm q).toArray 56)).cell? ⟨p,0,none⟩=some (.map (some m2)):=(zbf (N.obj (l.o.obj HB.o bb.o) id)).1
       have CA:=Hd cA
       have RB:=Hd (zq wr (zm q) 56)
       obtain⟨w5,M4,aQ,aB,hD,aF,-⟩:=((af.o.keep N id).keep (frN _).drew id).del jF.keyed ZT (λ_ _=>vD) (xu d.o) 0 56
       have bg:=Hd aQ
       have a8:=Hd aB
       have F5:=Hd ((l.o.trans0 N.drew).trans aF.fr (λi hi e=>e))
       have bj:=@Hd (∀k v,(k,v)∈M4↔(⟨k,v⟩:zn)∈x9 S (ps.take (g+1))) (λk v=>by
        rw[hD k v,aj.o,←zgK G,jV (ps:=[q])]
        simp only[mem_singleton]
        exact And.comm)
       clear hr G N cA aQ aB hD aF
       go_wp2_with (first|(refine znW rfl rfl rfl R1.o F.o ?_)|(refine zi rfl (zj (w:=wr) (ty:=56) rfl rfl rfl (by rw[F.o];rfl) (by rw[F.o];exact xZ) yF) ?_))
       refine yw [ff,ff,ff,ff,ff,tt] (λw'=>w'.cell? ⟨p,0,none⟩=some (.map (some m2))∧w'.rangeAt wr.heap.size 0 (zm q)) (by kernel_rfl) (by kernel_rfl) 5 (by kernel_rfl) (by kernel_rfl) ?_ (λK hK=>?_)
       ·exact⟨CA.o,za RB.o (frN _).drew id⟩
       repeat((first|(refine yk rfl ?_;constructor;constructor;(focus(first|exact znZ rfl (λw h=>h.2) F.o|(rintro w' ⟨s1,s2⟩;exact goS))))|(refine yl rfl ?_));try simp only[Act.put,pA,pB,pC])
       (refine yf rfl (λK' hK'=>?_))
       refine yD (J2 rfl rfl rfl bg.o) ?_
       refine hK'.out _ _ (λh=>absurd rfl h) (λhS=>?_)
       refine xV (hK.out _ _ ?_)
       go_wp2
       go_roundw
       case rel=>exact⟨g+1,M4,by simp,by omega,a8.o,bj.o,F5.o⟩
       case measure=>show ps.length-(g+1)<ps.length-g;omega
      ·have i2:¬(g:Int)<(ps.length:Int):=by omega
       have aE:ps.take g=ps:=by rw[show g=ps.length by omega,take_length]
       have ak:=aj.o
       rw[aE] at ak
       have CF:=Hd (H.o.setM HB.o af.o ak (Zv HC.o.srt) (λc hc=>HC.o.ok c (jV.1 hc).1) l.o)
       have FF:=@Hd (Fr V w wr) (F0.o.of0.trans l.o (λi hi e=>by subst e;exact VM.o.1))
       have bf:=Hd (zb av.o l.o (λj e e'=>by have:=(av.o.lt j e).1;have:=aw.o.2;omega))
       clear ak aE aj af i2
       go_wp2
       go_ret2
       exact⟨_,by rw[r.o];rfl,by rw[bw];exact bf.o,by rw[ES.o];exact CF.o,FF.o⟩
    ·have j2:(0:Int)<(Xm S (ps.take n):Int):=by omega
     have r:=@Hd (Xo S ps=9) (by unfold Xo;rw[if_pos hnd,if_neg (λe=>hm0 (o.1 (by rw[Y];exact e)))])
     clear o hm0 Y
     go_wp2_with (refine zg rfl (jr rfl rfl (LR.o _)) ?_)
     go_ret2
     exact⟨_,by rw[r.o];rfl,by unfold zcC;rw[if_neg (by rw[r.o];decide)];exact World.ownsRow_nil _ _ _ _,by unfold JK;rw[if_neg (by rw[r.o];decide)];exact H.o,F0.o.of0⟩
   ·have j1:¬(T.length:Int)=(ps.length:Int):=λe=>hnd (a.1 (by omega))
    have r:=@Hd (Xo S ps=12) (by unfold Xo;rw[if_neg hnd])
    clear a o Y
    go_wp2_with (refine zg rfl (jr rfl rfl (LR.o _)) ?_)
    go_ret2
    exact⟨_,by rw[r.o];rfl,by unfold zcC;rw[if_neg (by rw[r.o];decide)];exact World.ownsRow_nil _ _ _ _,by unfold JK;rw[if_neg (by rw[r.o];decide)];exact H.o,F0.o.of0⟩
end
end
def inB (x:InD):List Int:=x.from_.tx++(leB 4 x.from_.n++((x.key.length:Int)::x.key))
def Yy (o:yC):List Int:=leB 8 o.value++o.lock
def txB (t:TxD):List Int:=leB 4 t.ver++((t.ins.length:Int)::(t.ins.flatMap inB++((t.outs.length:Int)::t.outs.flatMap Yy)))
theorem zk0 {x:InD} (h:x.from_.ok):(inB x).length=37+x.key.length:=by simp[inB,jg,h.1.1];omega
theorem zjX {x:yC} (h:x.ok):(Yy x).length=40:=by simp[Yy,jg,h.2.1]
theorem zb7:∀ {l:List InD},(∀x∈l,x.from_.ok)→(∀x∈l,x.key.length≤64)→(l.flatMap inB).length≤101*l.length
 |[],_,_=>le_refl _
 |x::l,h,k=>by
  have:=zb7 (l:=l) (λy a=>h y (.tail _ a)) (λy a=>k y (.tail _ a))
  have b:=zk0 (h x (.head _))
  have c:=k x (.head _)
  simp only[List.flatMap_cons,length_append,length_cons]
  omega
theorem Qv:∀ {l:List yC},(∀x∈l,x.ok)→(l.flatMap Yy).length=40*l.length
 |[],_=>rfl
 |x::l,h=>by
  have:=Qv (l:=l) (λy a=>h y (.tail _ a))
  have b:=zjX (h x (.head _))
  simp only[List.flatMap_cons,length_append,length_cons]
  omega
theorem xe {t:TxD}:qK t=true↔(∀x∈t.ins,x.key.length≤64)∧t.ins.length≤8∧t.outs.length≤8:=by
 simp[qK]
theorem QF {α β:Type} (f:α→List β) {l:List α} {x:α} (h:l[n]? =some x):(l.take (n+1)).flatMap f=(l.take n).flatMap f++f x:=by
 rw[take_add_one,h]
 simp
theorem Xb (w:World) {o:yC} (ok:o.ok):(w.alloc (.cells (zF o).toArray 58)).cell? ⟨w.heap.size,0,none⟩=some (.int .u64 o.value)∧(w.alloc (.cells (zF o).toArray 58)).rangeAt w.heap.size 1 (o.lock.map zQ):=by
 have r:=zq w (zF o) 58
 refine⟨by simpa using r 0 _ rfl,λj u a=>?_⟩
 have:=r (j+1) u (by simpa[zF] using a)
 rwa [show 0+(j+1)=1+j by omega] at this
theorem zbp {b o:Nat} (h:w.rangeAt b o (l.map zQ)) (c:l.length=32) (a:b<w.heap.size):xQ w (.slice (some ⟨b,o,none⟩) 32 32) l.length (l.map zQ):=by
 rw[c]
 exact .inl (.inr ⟨b,o,32,rfl,le_refl _,by decide,h,a⟩)
theorem qV.step {a b c:World} (fr:Fr No a b) (d:qV b B v l) (g:a.heap.size≤B) (f:Fr (λj=>v.ownBlock=some j) b c):Fr No a c:=fr.trans f (λi hi e=>by have:=(d.lt i e).1;omega)
theorem Ye.ne {v a:Value} {q:Nat} (g:Ye w v a) (b:v.ownBlock≠some q) (c:q<w.heap.size):a.ownBlock≠some q:=λe=>(g q e).elim b (λh=>by omega)
theorem qV.ne (a:qV w B v l) {q:Nat} (b:w.heap.size≤q):v.ownBlock≠some q:=λe=>by have:=(a.lt q e).2;omega
def zi5 (w:World) (t:TxD) (e:Ending) (w':World):Prop:=∃v,e=.returned (.tuple #[v,.int .i64 (if qK t=true then 0 else 5)])∧Fr No w w'∧(if qK t=true then qV w' w.heap.size v (txB t) else v=.slice none 0 0)
theorem zlh (w:World) {t:TxD} (ht:TxQ w t cs):
  Calls prog 52 #[.agg cs.toArray] w (zi5 w t):=by
 have HT:=Hd ht
 obtain⟨q,r,s,u,rfl,R,hi,ho⟩:=ht
 have zI:=Yc
 have zO:=y3
 have N:=Hd ((frN w).alloc (.cells #[.int .u32 t.ver,.slice q t.ins.length r,.slice s t.outs.length u] 27))
 have m:=@Hd ((w.alloc (.cells #[.int .u32 t.ver,.slice q t.ins.length r,.slice s t.outs.length u] 27)).heap.size=w.heap.size+1) (by simp)
 obtain⟨c0,c1,c2,r0⟩:=qI w t.ver (.slice q t.ins.length r) (.slice s t.outs.length u)
 have C0:=Hd c0
 have C1:=Hd c1
 have C2:=Hd c2
 have R0:=Hd r0
 have HI:=Hd (hi.keep0 N.o)
 have U:=Hd (ho.keep N.o)
 have HV:=Hd R
 have HF:=Hd (zb0 (w.alloc (.cells #[.int .u32 t.ver,.slice q t.ins.length r,.slice s t.outs.length u] 27)) (HT.o.keep N.o))
 have ar:[Value.int .u32 t.ver,.slice q t.ins.length r,.slice s t.outs.length u].toArray= #[Value.int .u32 t.ver,.slice q t.ins.length r,.slice s t.outs.length u]:=rfl
 clear hi ho R
 show Calls prog 52 #[.agg #[.int .u32 t.ver,.slice q t.ins.length r,.slice s t.outs.length u]] w _
 by_cases hfm:qK t=true
 rotate_left
 ·have k:qK t=false:=by simpa using hfm
  rw[k] at HF
  have HP:=@Hd (∀w',Fr No w w'→zi5 w t (.returned (.tuple #[.slice none 0 0,.int .i64 5])) w') (λw' f=>⟨.slice none 0 0,by rw[k];rfl,f,by rw[k];rfl⟩)
  clear hfm k c0 c1 c2 r0
  go_enter Tryz.func52,Tryz.ntmps52
  go_wp2_with (first|(refine znT rfl rfl rfl R0.o rfl ?_;generalize w.alloc (.cells #[.int .u32 t.ver,.slice q t.ins.length r,.slice s t.outs.length u] 27)=w1 at*)|(go_at_call 64;refine HF.o.mono ?_;rintro e w2 ⟨rfl,Q⟩;have F2:=Hd Q;clear Q))
  go_ret2
  exact HP.o _ (N.o.trans0 F2.o)
 ·obtain⟨hk,au,av⟩:=xe.1 hfm
  rw[hfm] at HF
  have HK:=Hd hk
  have HP:=@Hd (∀v w',Fr No w w'→qV w' (w.heap.size+1) v (txB t)→zi5 w t (.returned (.tuple #[v,.int .i64 0])) w') (λv w' f h=>⟨v,by rw[hfm];rfl,f,by rw[if_pos hfm];exact yu h (Nat.le_succ _)⟩)
  clear hk hfm c0 c1 c2 r0
  go_enter Tryz.func52,Tryz.ntmps52
  have v1:=HV.o.1
  have v2:=HV.o.2
  have e1:(t.ins.length:Int) % 256=(t.ins.length:Int):=by omega
  have e2:(t.outs.length:Int) % 256=(t.outs.length:Int):=by omega
  have⟨M0,M1,M2,M3⟩:=tZ4
  go_wp2_with ((first|((with_reducible refine zt ?_);first|(clear M0;refine znT rfl rfl rfl R0.o rfl ?_;generalize w.alloc (.cells #[.int .u32 t.ver,.slice q t.ins.length r,.slice s t.outs.length u] 27)=w1 at*)|(clear M3;at_builtin;refine zJ rfl rfl rfl rfl A1.o ?_;have cC:=F4.o.cell C1.o id))|(clear M1;go_at_call 64;refine HF.o.mono ?_;rintro e w2 ⟨rfl,Q⟩;have F2:=Hd (N.o.trans0 Q);have C:=Hd Q;clear Q;have cA:=C.o.cell C0.o id)|(clear M2;go_at_call 93;refine(zaL (qV.nil w2 (w.heap.size+1)) (by have:=m.o;have:=C.o.size;omega) (x:=t.ver) (by omega) (n:=4) (by decide) (by decide)).mono ?_;rintro e w3 ⟨v3,rfl,b3,f3,-⟩;have y:=Hd (C.o.trans f3 (λi hi e=>(by cases e)));rw[List.nil_append] at b3;have BL:=Hd (jg 4 t.ver);have B:=Hd b3;clear f3 b3;have cB:=y.o.cell C1.o id;obtain⟨v4,S,d,g,c,z⟩:=Jt w3 (x:=t.ins.length) B.o (by rw[BL.o];decide) (by have:=m.o;have:=y.o.size;omega) 110;have A1:=Hd d;have B4:=Hd g;have F4:=Hd (y.o.trans c (λi hi e=>(show False by have:=(B.o.lt i e).1;have:=m.o;omega)));clear d g c z));go_frame)
  have af:=@Hd ((leB 4 t.ver++[(t.ins.length:Int)]).length=5) (by rw[length_append,jg];rfl)
  have LE:=@Hd (txB t=leB 4 t.ver++[(t.ins.length:Int)]++t.ins.flatMap inB++([(t.outs.length:Int)]++t.outs.flatMap Yy)) (by simp[txB])
  have ag:=@Hd (∀x∈t.ins,x.from_.ok) (λx j=>by
   obtain⟨i,hi⟩:=List.mem_iff_getElem?.1 j
   obtain⟨_,_,_,_,_,_,_,_,_,h,_⟩:=HI.o.at_ hi
   exact h)
  generalize leB 4 t.ver++[(t.ins.length:Int)]=W at*
  go_loopw [4,26] (λbv H wr=>∃n:Nat,H=.int .i64 n∧n≤t.ins.length∧qV wr (w.heap.size+1) bv (W++(t.ins.take n).flatMap inB)∧Fr No w1 wr) (λ_ H _=>t.ins.length-(intOf H).toNat)
  case atStart=>exact⟨0,rfl,zero_le _,by simpa using B4.o,F4.o⟩
  case round=>
   obtain⟨n,rfl,hn,E,fr⟩:=hrel
   have FR:=Hd fr
   have L:=Hd E
   have SZ:=@Hd (w.heap.size+1≤wr.heap.size) (by have:=fr.size;have:=m.o;omega)
   have P:=@Hd ((W++(t.ins.take n).flatMap inB).length≤5+101*n) (by
    rw[length_append,af.o]
    have:=zb7 (l:=t.ins.take n) (λx j=>ag.o x (List.mem_of_mem_take j)) (λx j=>HK.o x (List.mem_of_mem_take j))
    rw[length_take] at this
    omega)
   obtain⟨ba,bc,o⟩:=E.form
   clear fr E
   by_cases F:n<t.ins.length
   ·have i1:(n:Int)<(t.ins.length:Int):=by omega
    obtain⟨x,j⟩:∃x,t.ins[n]? =some x:=⟨_,getElem?_eq_getElem F⟩
    have TF:=Hd (QF inB j)
    have KL:=Hd (HK.o x (mem_of_getElem? j))
    obtain⟨b,off,cap,cs,R,hr,I,K,rfl,a,A⟩:=HI.o.at_ j
    cases R
    have R1:=Hd (za hr FR.o id)
    have OK:=Hd a
    have ah:=Hd A
    have V:=Hd (jf a (.slice I x.key.length K))
    have O:=Hd ((frN wr).alloc (.cells (inC x.from_ (.slice I x.key.length K)).toArray 112))
    have D:=@Hd ((wr.alloc (.cells (inC x.from_ (.slice I x.key.length K)).toArray 112)).heap.size=wr.heap.size+1) (by simp)
    obtain⟨n1,n2⟩:=XF wr (kv:=.slice I x.key.length K) a
    obtain⟨n3,n4⟩:=zcu n1 a
    have N2:=Hd n2
    have N4:=@Hd ((wr.alloc (.cells (inC x.from_ (.slice I x.key.length K)).toArray 112)).cell? ⟨wr.heap.size,32,none⟩=some (.int .u32 x.from_.n)) (by simpa using n4)
    obtain⟨v3,w3,d,g,c,z⟩:=vx _ (L.o.keep0 O.o) (zbp n3 a.1.1 (by have:=D.o;omega)) (by have:=P.o;rw[a.1.1];omega) (by have:=SZ.o;have:=D.o;omega) 110
    have A1:=Hd d
    have B:=Hd g
    have y:=Hd (qV.step (FR.o.trans0 O.o) (L.o.keep0 O.o) (by have:=m.o;omega) c)
    have M:=L.o.ne (le_refl _)
    have D3:=Hd (z.ne M (by have:=D.o;omega))
    have an:=c.cell N4.o M
    have ad:=Hd (c.cell N2.o M)
    have QL:=@Hd (wr.heap.size<w3.heap.size) (by have:=c.size;have:=D.o;omega)
    have ak:=a.2.1
    have al:=a.2.2
    have aw:(x.key.length:Int) % 256=(x.key.length:Int):=by have:=KL.o;omega
    have X:=@Hd (x.from_.tx.length=32) (a.1.1)
    clear n1 n2 n3 n4 d g c z hr A a j M
    subst o
    generalize ab:W++(t.ins.take n).flatMap inB=Ln at*
    have⟨K0,K1,K2,K3,K4,K5⟩:=tZ6
    go_wp2_with ((first|((with_reducible refine zt ?_);first|(clear K0;refine znS rfl rfl rfl R1.o V.o ?_)|(clear K2;at_builtin;refine zJ rfl rfl rfl rfl A1.o ?_)|(clear K4;at_builtin;refine zJ rfl rfl rfl rfl A5.o ?_)|(clear K5;at_builtin;refine zJ rfl rfl rfl rfl A6.o ?_))|((with_reducible refine zr ?_);clear K1;refine zn1 (w:=wr) (cs:=inC x.from_ (.slice I x.key.length K)) rfl rfl rfl rfl V.o Jm ?_;generalize wr.alloc (.cells (inC x.from_ (.slice I x.key.length K)).toArray 112)=wA at*)|(clear K3;go_at_call 93;refine(zaL B.o (by have:=SZ.o;have:=QL.o;omega) (x:=x.from_.n) (by omega) (n:=4) (by decide) (by rw[length_append,X.o];have:=P.o;omega)).mono ?_;rintro e S ⟨v4,rfl,b4,p,g4⟩;have T:=Hd b4;have F5:=Hd (qV.step y.o B.o (by have:=m.o;omega) p);have D5:=Hd (g4.ne D3.o QL.o);have C5:=Hd (p.cell ad.o D3.o);have ao:=C5.o;have Z:=@Hd (wr.heap.size<S.heap.size) (by have:=p.size;have:=QL.o;omega);have L5:=@Hd ((Ln++x.from_.tx++leB 4 x.from_.n).length≤41+101*n) (by simp only[length_append,X.o,jg];have:=P.o;omega);clear b4 p g4;obtain⟨v5,w5,d,g,c,z⟩:=Jt S (x:=x.key.length) T.o (by have:=L5.o;omega) (by have:=SZ.o;have:=Z.o;omega) 110;have A5:=Hd d;have B6:=Hd g;have F6:=Hd (qV.step F5.o T.o (by have:=m.o;omega) c);have c5:=c.cell C5.o D5.o;have Q6:=@Hd (wr.heap.size<w5.heap.size) (by have:=c.size;have:=Z.o;omega);clear d g c z;obtain⟨v6,w6,d,g,c,-⟩:=vx w5 B6.o (ah.o.2.keep F6.o) (by have:=L5.o;have:=KL.o;rw[length_append];simp only[List.length_singleton];omega) (by have:=SZ.o;have:=Q6.o;omega) 110;have A6:=Hd d;have B7:=Hd g;have F7:=Hd (qV.step F6.o B6.o (by have:=m.o;omega) c);clear d g c));go_frame)
    go_roundw
    case rel=>exact⟨n+1,by go_num,by omega,by rw[TF.o,←append_assoc,ab];simpa[inB] using B7.o,F7.o⟩
    case measure=>simp[intOf];omega
   ·have G:n=t.ins.length:=by omega
    subst G
    have i1:¬(t.ins.length:Int)<(t.ins.length:Int):=by omega
    rw[take_length] at L P
    have c2:=FR.o.cell C2.o id
    obtain⟨v3,w3,d,g,c,z⟩:=Jt wr (x:=t.outs.length) L.o (by have:=P.o;omega) SZ.o 110
    have A1:=Hd d
    have B:=Hd g
    have y:=Hd (qV.step FR.o L.o (by have:=m.o;omega) c)
    have cD:=y.o.cell C2.o id
    have ai:=@Hd ((W++t.ins.flatMap inB++[(t.outs.length:Int)]).length≤1000) (by
     rw[length_append]
     have:=P.o
     simp only[List.length_singleton]
     omega)
    rw[←append_assoc] at LE
    have Y:=Hd U.o.1
    clear d g c z
    subst o
    generalize ab:W++t.ins.flatMap inB=Ln at*
    go_wp2_with (first|(at_builtin;refine zJ rfl rfl rfl rfl A1.o ?_))
    generalize aq:Ln++[(t.outs.length:Int)]=Lm at*
    go_loopw [4,63] (λbv H wr=>∃n:Nat,H=.int .i64 n∧n≤t.outs.length∧qV wr (w.heap.size+1) bv (Lm++(t.outs.take n).flatMap Yy)∧Fr No w1 wr) (λ_ H _=>t.outs.length-(intOf H).toNat)
    case atStart=>exact⟨0,rfl,zero_le _,by simpa using B.o,y.o⟩
    case round=>
     obtain⟨n,rfl,hn,E,fr⟩:=hrel
     have FS:=Hd fr
     have BS:=Hd E
     have SY:=@Hd (w.heap.size+1≤wr.heap.size) (by have:=fr.size;have:=m.o;omega)
     have aa:=@Hd ((Lm++(t.outs.take n).flatMap Yy).length≤1000+40*n) (by
      rw[length_append,Qv (λx j=>Y.o x (List.mem_of_mem_take j)),length_take]
      have:=ai.o
      omega)
     obtain⟨ba,bc,o⟩:=E.form
     clear fr E
     by_cases F:n<t.outs.length
     ·have i1:(n:Int)<(t.outs.length:Int):=by omega
      obtain⟨x,j⟩:∃x,t.outs[n]? =some x:=⟨_,getElem?_eq_getElem F⟩
      have TF:=Hd (QF Yy j)
      obtain⟨b,off,cap,R,hr,-⟩:=U.o.at_ j
      cases R
      have a:=Y.o x (mem_of_getElem? j)
      have R1:=Hd (za hr FS.o id)
      have OK:=Hd a
      have V:=Hd (yq a)
      have O:=Hd ((frN wr).alloc (.cells (zF x).toArray 58))
      have D:=@Hd ((wr.alloc (.cells (zF x).toArray 58)).heap.size=wr.heap.size+1) (by simp)
      obtain⟨n1,n2⟩:=Xb wr a
      have N2:=Hd n2
      have ak:=a.1.1
      have al:=a.1.2
      have X:=Hd a.2.1
      have M:=Hd (BS.o.ne (le_refl _))
      have FW:=Hd (FS.o.trans0 O.o)
      have BW:=Hd (BS.o.keep0 O.o)
      clear n2 hr a j
      subst o
      generalize aj:Lm++(t.outs.take n).flatMap Yy=Lo at*
      have⟨K0,K1,K2,K3⟩:=tZ4
      go_wp2_with ((first|((with_reducible refine zt ?_);first|(clear K0;refine znU rfl rfl rfl R1.o V.o ?_)|(clear K3;at_builtin;refine zJ rfl rfl rfl rfl A6.o ?_))|((with_reducible refine zr ?_);clear K1;refine zn2 (w:=wr) (cs:=zF x) rfl rfl rfl rfl V.o yd ?_;generalize wr.alloc (.cells (zF x).toArray 58)=wA at*)|(clear K2;go_at_call 93;refine(zaL BW.o (by have:=SY.o;have:=D.o;omega) (x:=x.value) (by omega) (n:=8) (by decide) (by have:=aa.o;omega)).mono ?_;rintro e S ⟨v4,rfl,b4,p,g4⟩;have T:=Hd b4;have F5:=Hd (qV.step FW.o BW.o (by have:=m.o;omega) p);have N5:=Hd (za N2.o p M.o);have Z:=@Hd (wr.heap.size<S.heap.size) (by have:=p.size;have:=D.o;omega);clear b4 p g4;obtain⟨v6,w6,d,g,c,-⟩:=vx S T.o (zbp N5.o X.o Z.o) (by simp only[length_append,X.o,jg];have:=aa.o;omega) (by have:=SY.o;have:=Z.o;omega) 110;have A6:=Hd d;have B7:=Hd g;have F7:=Hd (qV.step F5.o T.o (by have:=m.o;omega) c);clear d g c));go_frame)
      go_roundw
      case rel=>exact⟨n+1,by go_num,by omega,by rw[TF.o,←append_assoc,aj];simpa[Yy] using B7.o,F7.o⟩
      case measure=>simp[intOf];omega
     ·have G:n=t.outs.length:=by omega
      subst G
      have i1:¬(t.outs.length:Int)<(t.outs.length:Int):=by omega
      rw[take_length] at BS
      have ae:=Hd (HP.o _ wr (N.o.trans0 FS.o) (by rw[LE.o];exact BS.o))
      subst o
      generalize (Lm++(t.outs.take t.outs.length).flatMap Yy).length=zz at*
      go_wp2
      go_ret2
      exact ae.o
def idE (t:TxD):Int:=if qK t=true then 0 else 5
def idH (t:TxD):zf:=if qK t=true then vQ (txB t) else yT
theorem jJ (t:TxD):zV (idH t):=by
 unfold idH
 split
 ·exact Yb _
 ·exact qY
theorem zlF {t:TxD} (h:qK t=true) (hi:∀x∈t.ins,x.from_.ok) (d:∀x∈t.outs,x.ok):(txB t).length≤100000:=by
 obtain⟨c,e,f⟩:=xe.1 h
 have a:=zb7 hi c
 have b:=Qv d
 simp only[txB,length_append,length_cons,jg]
 omega
theorem TxQ.oks {t:TxD} (h:TxQ w t cs):(∀x∈t.ins,x.from_.ok)∧∀x∈t.outs,x.ok:=by
 obtain⟨d,e,f,g,-,-,hi,b⟩:=h
 refine⟨λx c=>?_,b.1⟩
 obtain⟨i,a⟩:=List.mem_iff_getElem?.1 c
 obtain⟨_,_,_,_,_,_,_,_,_,h,_⟩:=hi.at_ a
 exact h
theorem TxQ.form {t:TxD} (h:TxQ w t cs):∃a b c d,cs=[.int .u32 t.ver,.slice a t.ins.length b,.slice c t.outs.length d]:=by
 obtain⟨a,b,c,d,e,-⟩:=h
 exact⟨a,b,c,d,e⟩
theorem Jl:(zd yT).toArray.size=32:=rfl
theorem Xw (w:World):(Instr.build 45 #[]).run prog w=.ok (.agg (zd yT).toArray) w:=by kernel_rfl
theorem YX (O:vp w) {t:TxD} (y:TxQ w t cs):
  Calls prog 19 #[.agg cs.toArray] w λe w'=>e=.returned (.tuple #[.agg (zd (idH t)).toArray,.int .i64 (idE t)])∧Fr No w w':=by
 have zH:=yJ
 obtain⟨dH,R,Q⟩:=jq
 obtain⟨k,l,m,o,F⟩:=y.form
 subst F
 have I:=Hd y.oks
 have M:Fr No w (w.alloc (.cells #[.int .u32 t.ver,.slice k t.ins.length l,.slice m t.outs.length o] 27)):=(frN w).alloc _
 have R0:=Hd (za (qI w t.ver (.slice k t.ins.length l) (.slice m t.outs.length o)).2.2.2 ((frN _).alloc (.cells (zd yT).toArray 45)) id)
 have x:=Hd (M.alloc (.cells (zd yT).toArray 45))
 have B2:=Hd (yU (w.alloc (.cells #[.int .u32 t.ver,.slice k t.ins.length l,.slice m t.outs.length o] 27)) (.cells (zd yT).toArray 45) (n:=w.heap.size+1) (by simp))
 have K:=Hd (zlh _ (y.keep x.o))
 have T:=Hd (O.keep0 x.o)
 have V:=Hd (λh=>zlF (t:=t) h I.o.1 I.o.2)
 clear y M O
 show Calls prog 19 #[.agg #[.int .u32 t.ver,.slice k t.ins.length l,.slice m t.outs.length o]] w _
 go_enter Tryz.func19,Tryz.ntmps19
 by_cases a:qK t=true
 ·have q:=@Hd (idE t=0∧idH t=vQ (txB t)) (⟨by simp[idE,a],by simp[idH,a]⟩)
  have E:=Hd (V.o a)
  have d:=Hd a
  have f:=@Hd ((zd (vQ (txB t))).length=32) (zu (Yb _))
  clear a
  have⟨A,B,C,D⟩:=tZ4
  go_wp2_with ((first|((with_reducible refine zt ?_);clear A;refine znT rfl rfl rfl R0.o rfl ?_;generalize (w.alloc (.cells #[.int .u32 t.ver,.slice k t.ins.length l,.slice m t.outs.length o] 27)).alloc (.cells (zd yT).toArray 45)=w2 at*)|(clear B;go_at_call 52;refine K.o.mono ?_;rintro e u ⟨v,rfl,s,g⟩;rw[if_pos d.o] at g;rw[if_pos d.o];have j:=Hd s;have S:=Hd g;obtain⟨Y,Z,G⟩:=g.form;subst G;have U:=Hd (T.o.keep0 j.o);have z:=@Hd (Fr No u (u.alloc (.cells #[.slice Y (txB t).length Z] 110))) ((frN u).alloc _);have r:=Hd (zdG (U.o.keep0 z.o) (v:=.slice (some ⟨u.heap.size,0,none⟩) 1 1) (L:=[txB t]) (zcq S.o.slice.arg) (by simp) (by have:=E.o;simp;omega));rw[show[txB t].flatten=txB t by simp] at r;clear s g;generalize vQ (txB t)=W at*)|(clear C;go_at_call 53;refine r.o.mono ?_;rintro e w5 ⟨rfl,N⟩;have H:=Hd N;clear N;have p:=Hd (H.o.obj (z.o.obj (j.o.obj B2.o id) id) id))|((with_reducible refine zr ?_);clear D;refine zi rfl (zU (ty:=45) (b:=w.heap.size+1) (off:=0) (cs:=zd W) rfl rfl rfl (by rw[f.o];exact yb p.o (Nat.le_of_eq Jl.symm)) (by rw[f.o];exact yj) zE) ?_));go_frame)
  refine bodyPost_ret (yt (P:=prog) (fn:=Tryz.f19) rfl _ rfl (yB p.o (by rw[f.o];exact Jl)) R Q (by rw[f.o];exact yj) rfl) rfl ⟨by rw[q.o.1,q.o.2];rfl,?_⟩
  exact(((x.o.trans0 j.o).trans0 z.o).trans0 H.o).trans (zy _ _ _ _) (λi hi e=>by omega)
 ·have c:qK t=false:=by simpa using a
  have q:=@Hd (idE t=5∧idH t=yT) (⟨by simp[idE,c],by simp[idH,c]⟩)
  have d:=Hd c
  have f:=@Hd ((zd yT).length=32) (rfl)
  clear a c
  have⟨A,B,C,D⟩:=tZ4
  go_wp2_with ((first|((with_reducible refine zt ?_);first|(clear A;refine znT rfl rfl rfl R0.o rfl ?_;generalize (w.alloc (.cells #[.int .u32 t.ver,.slice k t.ins.length l,.slice m t.outs.length o] 27)).alloc (.cells (zd yT).toArray 45)=w2 at*)|(clear C;with_reducible refine yg 13 ?_;refine zg rfl (yv (t:=45) rfl rfl (Xw _)) ?_))|(clear B;go_at_call 52;refine K.o.mono ?_;rintro e u ⟨v,rfl,s,g⟩;rw[d.o] at g;have X:v=.slice none 0 0:=g;subst X;rw[d.o];have j:=Hd s;clear s g;have p:=Hd (j.o.obj B2.o id))|((with_reducible refine zr ?_);clear D;refine zi rfl (zU (ty:=45) (b:=w.heap.size+1) (off:=0) (cs:=zd yT) rfl rfl rfl (by rw[f.o];exact yb p.o (Nat.le_of_eq Jl.symm)) (by rw[f.o];exact yj) zE) ?_));go_frame)
  refine bodyPost_ret (yt (P:=prog) (fn:=Tryz.f19) rfl _ rfl (yB p.o (by rw[f.o];exact Jl)) R Q (by rw[f.o];exact yj) rfl) rfl ⟨by rw[q.o.1,q.o.2];rfl,?_⟩
  exact(x.o.trans0 j.o).trans (zy _ _ _ _) (λi hi e=>by omega)
end Go.Proofs.YtbcllfjmabiafaaGreatDoor
