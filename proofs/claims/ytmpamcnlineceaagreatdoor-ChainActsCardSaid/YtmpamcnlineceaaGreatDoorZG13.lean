/- chain: Disconnect. -/
import Derived.Test.YtmpamcnlineceaaGreatDoorRows
import Derived.WalkKit
import Derived.ProofKit
import Derived.OpenShut
import Derived.Carry
import Derived.WideKeyArgs
import Derived.Deep.Slices
import Derived.Deep.Fields
import Derived.ChangeSame
import Derived.LaidMore
import Derived.Stop.Joined
import Derived.Test.YtmpamcnlineceaaGreatDoorZG11
import Derived.Test.YtmpamcnlineceaaGreatDoorZG1
import Derived.Test.YtmpamcnlineceaaGreatDoorZG2
import Derived.Test.YtmpamcnlineceaaGreatDoorZG6
import Derived.Test.YtmpamcnlineceaaGreatDoorZG5
import Derived.Test.YtmpamcnlineceaaGreatDoorZG12
import Derived.Test.YtmpamcnlineceaaGreatDoorZG10
set_option linter.unusedVariables false
set_option linter.unusedSimpArgs false
set_option linter.unnecessarySimpa false
set_option linter.all false
set_option maxRecDepth 20000
set_option maxHeartbeats 16000000
namespace Go.Proofs.YtmpamcnlineceaaGreatDoor
open Go Go.RowKit Go.Maps Go.MapKept
open Go.Proofs.Tryz(prog)
open Nat(le_refl zero_le)
open List(getElem?_eq_getElem mem_cons not_mem_nil length_drop take_zero drop_zero)
variable {T e t:TypeId} {U V:Nat→Prop} {W w w' w0:World} {cs:List Value} {fuel k n p:Nat} {v:Value}
theorem zgo (w:World):(Instr.build 36 #[]).run prog w=.ok (.agg xY.toArray) w:=by kernel_rfl
theorem zbb:∀u∈xY,u.oneCell'=true:=by
 intro u a
 simp only[xY,mem_cons,not_mem_nil,or_false] at a
 rcases a with rfl|rfl|rfl<;>rfl
theorem zhM {q:Nat} {a b c d e:Value} (h:w.heap[q]? =some (.cells [a,b,c,d,e].toArray T (0,0))):w.rangeAt q 0 [a,b,c]:=λj v f=>by
 refine zm h j v ?_
 match j,f with
 |0,f=>exact f
 |1,f=>exact f
 |2,f=>exact f
theorem zgI {B m k g a:Nat} {A C:List Value} (h:w.ownsRow B T k (.slice (some ⟨g,0,none⟩) (m+1) a) (m+1) (A++C)) (f:A.length=m*k):w.ownsRow B T k (.slice (some ⟨g,0,none⟩) m a) m A:=by
 rcases h.2 with⟨e,_⟩|⟨p,d,b,e,i,j,q,l,n,o⟩
 ·cases e
 ·injection e with c e2 e3
  injection c with c
  injection c with c
  subst c
  subst e3
  refine⟨f,.inr ⟨g,a,b,rfl,i,j,by omega,l,n,?_⟩⟩
  have c:b.toList.take (m*k)=(b.toList.take ((m+1)*k)).take (m*k):=by rw[List.take_take,Nat.min_eq_left (Nat.mul_le_mul_right k (Nat.le_succ m))]
  rw[c,o,←f]
  simp
theorem zdX {p s l:Nat} {j:Value} {css:List (List Value)} {D:ChD} (h:qy w0 w p s U l j css D) (k:D.bs=[]):
  Calls prog 12 #[.pointer (some ⟨p,0,none⟩)] w λe w'=>e=.returned (.tuple #[.agg xY.toArray,.int .i64 9])∧Fr No w w':=by
 obtain⟨r,n,m⟩:=Y3
 have u:=jY
 have d:=J ((frN w).alloc (.cells xY.toArray 36))
 have c:=J (zS w (.cells xY.toArray 36))
 obtain⟨o,q,a⟩:=h.row.slice.arg.form
 have c1:=(h.fr0 d.o).cells.2.1
 rw[a,k] at c1
 clear h a
 go_enter Tryz.func12,Tryz.ntmps12
 have⟨f,g⟩:=tZ2
 go_wp2_with ((first|((with_reducible refine zt ?_);clear f;refine zg rfl (yl (t:=36) rfl rfl (zgo _)) ?_)|((with_reducible refine zr ?_);clear g;refine ze rfl (zy (ty:=36) (b:=w.heap.size) (off:=0) (cs:=xY) rfl rfl rfl (zM c.o (le_refl 3)) xg zbb) ?_));go_frame)
 refine bodyPost_ret (zR (P:=prog) (fn:=Tryz.f12) rfl _ rfl (yE c.o rfl) n m xg rfl) rfl ⟨rfl,?_⟩
 exact d.o.trans (zv _ _ _ _) (λi hi e=>by omega)
def zhn (w0 w:World) (p s mi:Nat) (U:Nat→Prop) (bv:Value) (css:List (List Value)) (D:ChD) (bs0:List zU) (d:zU) (e:Ending) (w':World):Prop:=
 ∃bcs bv' css' M',e=.returned (.tuple #[.agg bcs.toArray,.int .i64 0])∧qy w0 w' p s U mi bv' css' ⟨qh d.chg D.S,bs0,M'⟩∧(∀x v,(x,v)∈M'↔x∉d.ids∧(x,v)∈D.M)∧Kept (chV p U mi bv') w' (λw=>xT w d.blk bcs)∧Fr (chV p U mi bv) w w'∧bv'.ownBlock=bv.ownBlock∧∃tl,css=css'++[bcs++tl]
theorem zbo {p s z:Nat} {bv:Value} {css:List (List Value)} {D:ChD} (h:qy w0 w p s U z bv css D) {o:List zU} {d:zU} (H:D.bs=o++[d]) (hl:o.length≤2000) (hN:D.S.length+vw d.chg≤100000) (ai:d.chg.length≤100000) (hI:d.ids.length≤100000):
  Calls prog 12 #[.pointer (some ⟨p,0,none⟩)] w (zhn w0 w p s z U bv css D o d):=by
 obtain⟨dB,uB,rB⟩:=Y3
 obtain⟨dD,uD,rD⟩:=zbm
 have zB:=jY
 have zD:=zck
 have t:D.bs.length=o.length+1:=by rw[H];simp
 obtain⟨m,hm⟩:∃m,m=o.length:=⟨_,rfl⟩
 rw[←hm] at t hl
 obtain⟨n,K,hcss⟩:∃n K,css=n++[K]:=by
  have al:css≠[]:=λe=>by have:=h.cl;rw[e,t] at this;simp at this
  exact⟨css.dropLast,css.getLast al,(List.dropLast_concat_getLast al).symm⟩
 have q:n.length=m:=by have:=h.cl;rw[hcss,t] at this;simpa using this
 have T:D.bs[m]? =some d:=by rw[H,hm];simp
 have I:css[m]? =some K:=by rw[hcss,←q];simp
 have h5:K.length=5:=h.c5 K (by rw[hcss];simp)
 have KD:=J (h.data m d K T I)
 obtain⟨g,c,hv,hr,-⟩:=J6 (f:=id) (k:=5) (by decide) h.c5 h.row I
 rw[t] at hv
 subst hv
 have X:=J ((frN w).alloc (.cells xY.toArray 36))
 have B1:=J (zS w (.cells xY.toArray 36))
 have G:=J h
 have r:=J (h.fr0 X.o)
 have ag:=J (KD.o.same X.o.of0)
 have R1:=@J ((w.alloc (.cells xY.toArray 36)).rangeAt g (m*5) K) (zb hr X.o id)
 have c1:=r.o.cells.2.1
 have ae:=J h.hi
 have i1:(0:Int)≤(m:Int):=by omega
 have i2:(m:Int)<((m+1:Nat):Int):=by omega
 have ah:=@J (∀w':World,w'.ownsRow w0.heap.size 94 5 (.slice (some ⟨g,0,none⟩) (m+1) c) (m+1) (css.flatMap id)→w'.ownsRow w0.heap.size 94 5 (.slice (some ⟨g,0,none⟩) m c) m (n.flatMap id)) (λw' hh=>zgI (C:=K) (by rw[hcss,List.flatMap_append] at hh;simpa using hh) (by rw[qU id 5 n (λx hx=>h.c5 x (by rw[hcss];simp[hx])),q]))
 have OD:=J KD.o.now.one
 have v:=@J (n.length=m∧(∀x∈n,x.length=5)∧∀(i:Nat) (y:zU) (cs:List Value),o[i]? =some y→n[i]? =some cs→D.bs[i]? =some y∧css[i]? =some cs) (⟨q,λx hx=>h.c5 x (by rw[hcss];simp[hx]),λi y cs a b=>⟨by rw[H,List.getElem?_append_left (List.getElem?_eq_some_iff.1 a).1];exact a,by rw[hcss,List.getElem?_append_left (List.getElem?_eq_some_iff.1 b).1];exact b⟩⟩)
 have af:=J t
 have HM:=J hm
 have ad:=J (And.intro T I)
 have O:=J (And.intro hN (And.intro ai hI))
 have aa:=J hcss
 clear h hr H hN ai hI hm hcss q T I t KD h5
 go_enter Tryz.func12,Tryz.ntmps12
 obtain⟨A,B,E,F,V,W,Q,R,aw⟩:=ag.o.now.form
 subst aw
 have ar:=J (G.o.data m d _ (show D.bs[m]? =some d from ad.o.1) ad.o.2)
 have ay:(m:Int)≤(c:Int):=by
  rcases r.o.row.2 with⟨e,_⟩|⟨g',ax,aB,e,S,h2,h3,h4,h5,h6⟩
  ·cases e
  ·injection e with e1 e2 e3
   have:=af.o
   omega
 have N:=J ((frN (w.alloc (.cells xY.toArray 36))).alloc (.cells ([.int .u64 d.blk.tag,.slice A d.blk.pay.length B,.slice E d.blk.txs.length F,.slice V d.ids.length W,.slice Q d.chg.length R]).toArray 94))
 have BA:=J (zS (w.alloc (.cells xY.toArray 36)) (.cells ([.int .u64 d.blk.tag,.slice A d.blk.pay.length B,.slice E d.blk.txs.length F,.slice V d.ids.length W,.slice Q d.chg.length R]).toArray 94))
 have av:=(r.o.fr0 N.o).cells.2.1
 have l:=J (r.o.fr0 N.o)
 have fz:=zW (i:=1) l.o.obj
 have⟨K0,K1,K2,K3,K4,K5⟩:=tZ6
 go_wp2_with ((first|((with_reducible refine zt ?_);first|(clear K0;refine zg rfl (ye (ty:=94) rfl rfl R1.o uD rD Jv) ?_;clear c1;generalize aD:w.alloc (.cells xY.toArray 36)=w1 at*)|(clear K2;refine zg rfl (ye (ty:=94) rfl rfl (zm B3.o) uD rD Jv) ?_;clear fz av;generalize aF:M.setCell ⟨p,1,none⟩ (.slice (some ⟨g,0,none⟩) m c)=w3 at*)|(clear K4;refine ziS rfl rfl rfl R8.o rfl ?_))|((with_reducible refine zr ?_);first|(clear K1;refine ze rfl (zj (w:=w1) (ty:=94) (cs:=[.int .u64 d.blk.tag,.slice A d.blk.pay.length B,.slice E d.blk.txs.length F,.slice V d.ids.length W,.slice Q d.chg.length R]) rfl rfl rfl rfl Jv OD.o.2) ?_;generalize aE:w1.alloc (.cells ([.int .u64 d.blk.tag,.slice A d.blk.pay.length B,.slice E d.blk.txs.length F,.slice V d.ids.length W,.slice Q d.chg.length R]).toArray 94)=M at*;generalize aC:w1.heap.size=dq at*;have L:Fr (λj=>j=p) M (M.setCell ⟨p,1,none⟩ (.slice (some ⟨g,0,none⟩) m c)):=(Fr.refl (λj=>j=p) M).setCell ⟨p,1,none⟩ (.inr rfl) _;have an:=@J (qy w0 (M.setCell ⟨p,1,none⟩ (.slice (some ⟨g,0,none⟩) m c)) p s U z (.slice (some ⟨g,0,none⟩) m c) n ⟨D.S,o,D.M⟩) ({obj:=(by have:=heap_setCell_same M p 1 _ _ (.slice (some ⟨g,0,none⟩) m c) l.o.obj;simpa using this),set:=l.o.set.frV L (λj Y e=>l.o.up (e▸Y)) (λj e=>by have:=l.o.lo1;omega),row:=(by have S:=zf (ah.o M (by have:=l.o.row;rw[af.o] at this;exact this)) L (λj Y e=>(l.o.rn j Y).1 e);rw[HM.o] at S;rw[HM.o];exact S),cl:=v.o.1.trans HM.o,c5:=v.o.2.1,data:=λi y cs a b=>(l.o.data i y cs (v.o.2.2 i y cs a b).1 (v.o.2.2 i y cs a b).2).same (L.mono (λj e=>.inl e)),map:=l.o.map.keep L (λe=>l.o.pm e.symm),pm:=l.o.pm,up:=l.o.up,um:=l.o.um,rn:=l.o.rn,lo1:=l.o.lo1,lo2:=l.o.lo2});have FS:=J L;have PQ:=@J (p≠dq∧¬chV p U z (.slice (some ⟨g,0,none⟩) m c) dq) (⟨λe=>by have:=yu r.o.obj;omega,λe=>by have:=r.o.hi dq e;omega⟩);have B3:=J (L.obj BA.o (λe=>PQ.o.1 e.symm));have au:=@J (Kept (chV p U z (.slice (some ⟨g,0,none⟩) m c)) (M.setCell ⟨p,1,none⟩ (.slice (some ⟨g,0,none⟩) m c)) (λw=>vr w d [.int .u64 d.blk.tag,.slice A d.blk.pay.length B,.slice E d.blk.txs.length F,.slice V d.ids.length W,.slice Q d.chg.length R])) ((ag.o.same N.o.of0).same (L.mono (λj e=>.inl e)));clear L)|(clear K5;refine ze rfl (zy (ty:=36) (b:=w.heap.size) (off:=0) (cs:=[.int .u64 d.blk.tag,.slice A d.blk.pay.length B,.slice E d.blk.txs.length F]) rfl rfl rfl (zM BZ.o (le_refl 3)) xg (λu hu=>by simp only[mem_cons,not_mem_nil,or_false] at hu;rcases hu with rfl|rfl|rfl<;>rfl)) ?_))|(clear K3;go_at_call 34;refine(zcg an.o au.o O.o.1 O.o.2.1 O.o.2.2).mono ?_;rintro e w8 ⟨rfl,M8,aj,ak,-,f8⟩;have ao:=J aj;have aq:=J ak;have Z:=J f8;clear aj ak f8;have B8:=J (Z.o.obj B3.o PQ.o.2);have R8:=J (zhM B8.o);have BZ:=@J (w8.heap[w.heap.size]? =some (.cells xY.toArray 36 (0,0))) (Z.o.obj (FS.o.obj (N.o.obj B1.o id) (λe=>by have:=yu G.o.obj;omega)) (λe=>by have:=ae.o _ e;omega))));go_frame)
 have fE:=zv w.heap.size [.int .u64 d.blk.tag,.slice A d.blk.pay.length B,.slice E d.blk.txs.length F] 0 w8
 have NQ:=@J (¬chV p U z (.slice (some ⟨g,0,none⟩) m c) w.heap.size) (λe=>by have:=ae.o _ e;omega)
 have KF:=@J (Kept (λj=>chV p U z (.slice (some ⟨g,0,none⟩) m c) j∨j=w.heap.size) w8 (λw=>xT w d.blk [.int .u64 d.blk.tag,.slice A d.blk.pay.length B,.slice E d.blk.txs.length F])) (by
  have S:Kept (chV p U z (.slice (some ⟨g,0,none⟩) m c)) w (λw=>vr w d [.int .u64 d.blk.tag,.slice A d.blk.pay.length B,.slice E d.blk.txs.length F,.slice V d.ids.length W,.slice Q d.chg.length R]):=ar.o
  have h2:Kept (λj=>chV p U z (.slice (some ⟨g,0,none⟩) m c) j∨j=w.heap.size) w8 (λw=>vr w d [.int .u64 d.blk.tag,.slice A d.blk.pay.length B,.slice E d.blk.txs.length F,.slice V d.ids.length W,.slice Q d.chg.length R]):=S.step (show Fr (chV p U z (.slice (some ⟨g,0,none⟩) m c)) w w8 from(((X.o.trans0 N.o).of0.trans FS.o (λj _ e=>.inl e)).trans Z.o (λ_ _ h=>h))) (λj Y e=>e.resolve_right (by omega))
  exact h2.imp (λw' f hq=>by
   obtain⟨bcs,aG,aH,az,aA,e,hb,_,_⟩:=hq
   obtain⟨aI,aJ,aK,aL,rfl⟩:=hb.form
   simp only[List.cons_append,List.nil_append,List.cons.injEq,and_true] at e
   obtain⟨-,e1,e2,-,-⟩:=e
   injection e1 with e11 _ e13
   injection e2 with e21 _ e23
   subst e11;subst e13;subst e21;subst e23
   exact hb))
 refine bodyPost_ret (zR (P:=prog) (fn:=Tryz.f12) rfl _ rfl (yE BZ.o rfl) uB rB xg rfl) rfl ⟨[.int .u64 d.blk.tag,.slice A d.blk.pay.length B,.slice E d.blk.txs.length F],.slice (some ⟨g,0,none⟩) m c,n,M8,rfl,ao.o.frV fE (λj Y e=>NQ.o (e▸Y)) (λj e=>by have:=G.o.fr.size;omega) (λi y cs a b=>?_),aq.o,λw' f=>KF.o w' ((fE.mono (λj e=>.inr e)).trans (f.mono (λj e=>.inl e)) (λ_ _ h=>h)),?_,rfl,_,aa.o⟩
 ·have ab:=v.o.2.2 i y cs a b
  have S:Kept (chV p U z (.slice (some ⟨g,0,none⟩) m c)) w (λw=>vr w y cs):=G.o.data i y cs ab.1 ab.2
  exact S.step ((((X.o.trans0 N.o).of0.trans FS.o (λj _ e=>.inl e)).trans Z.o (λ_ _ h=>h)).trans fE (λi hi e=>by omega)) (λj _ e=>e)
 ·exact(((X.o.trans0 N.o).of0.trans FS.o (λj _ e=>.inl e)).trans Z.o (λ_ _ h=>h)).trans fE (λi hi e=>by omega)
def Cn (w0 w:World) (p:Nat) (V:Nat→Prop) (S:List zh) (bs:List zU) (ids:List zY):Prop:=∃M,Ch w0 w p V ⟨S,bs,M⟩∧(∀x,x∈ids↔∃v,(x,v)∈M)∧∀x v,(x,v)∈M→0<v
theorem Cn.fr {S:List zh} {bs:List zU} {a:List zY} (h:Cn w0 w p V S bs a):Fr No w0 w:=by
 obtain⟨M,h,-⟩:=h
 exact Ch.fr h
theorem Cn.fr0 {S:List zh} {bs:List zU} {a:List zY} (h:Cn w0 w p V S bs a) (f:Fr No w w'):Cn w0 w' p V S bs a:=by
 obtain⟨M,h,r⟩:=h
 exact⟨M,h.fr0 f,r⟩
theorem Cn.lo {S:List zh} {bs:List zU} {a:List zY} (h:Cn w0 w p V S bs a):∀j,V j→w0.heap.size≤j:=by
 obtain⟨M,h,-⟩:=h
 exact Ch.lo h
theorem Cn.hi {S:List zh} {bs:List zU} {a:List zY} (h:Cn w0 w p V S bs a):∀j,V j→j<w.heap.size:=by
 obtain⟨M,⟨s,U,c,b,css,h,rfl⟩,-⟩:=h
 exact h.hi
theorem qy.base {w0 c w:World} {p s b:Nat} {a:Value} {css:List (List Value)} {D:ChD} (h:qy w0 w p s U b a css D) (f:Fr No c w0):qy c w p s U b a css D:=
 {h with set:=h.set.base f,row:=qs h.row f.size,lo1:=Nat.le_trans f.size h.lo1,lo2:=Nat.le_trans f.size h.lo2}
theorem Cn.base {w0 b w:World} {S:List zh} {bs:List zU} {a:List zY} (h:Cn w0 w p V S bs a) (f:Fr No b w0):Cn b w p V S bs a:=by
 obtain⟨M,⟨s,U,e,c,css,h,d⟩,r⟩:=h
 exact⟨M,⟨s,U,e,c,css,h.base f,d⟩,r⟩
theorem zbI (w:World) {l:List yk} (c:xA w v l) (a:l.length≤256):
  Calls prog 6 #[v] w λe w'=>∃p,e=.returned (.tuple #[.pointer (some ⟨p,0,none⟩),.int .i64 0])∧∃V,Cn w w' p V (qP [] (xP z7 l)) [] []:=
 (zdQ w c a).mono λe w' ⟨p,b,V,h⟩=>⟨p,b,V,[],h,by simp,by simp⟩
theorem Qb {S:List zh} {bs:List zU} {a:List zY} (h:Cn w0 w p V S bs a):Calls prog 15 #[.pointer (some ⟨p,0,none⟩)] w λe w'=>e=.returned (.int .i64 (bs.length:Int))∧w'=w:=by
 obtain⟨M,h,-⟩:=h
 exact zcJ h
theorem QM {S:List zh} {bs:List zU} {a:List zY} (h:Cn w0 w p V S bs a) (b:S.length≤100000):Calls prog 17 #[.pointer (some ⟨p,0,none⟩)] w λe w'=>∃v,e=.returned v∧w'.ownsRow w.heap.size 103 66 v S.length (S.flatMap zw)∧Fr No w w':=by
 obtain⟨M,h,-⟩:=h
 exact zbd h b
theorem zd6 {S:List zh} {bs:List zU} {a:List zY} (h:Cn w0 w p V S bs a) {q:zE} (b:q.ok):Calls prog 21 #[.pointer (some ⟨p,0,none⟩),.agg (zi q).toArray] w λe w'=>e=.returned (.tuple #[.agg (zx (yj S q)).toArray,.bool (xE S q)])∧Fr No w w':=by
 obtain⟨M,h,-⟩:=h
 exact zcq h b
def R0 (S:List zh) (b:y7):DoR:=⟨if xQ S (yZ b)=0 then 0 else 10,qQ S (yZ b),⟨b,[],if xQ S (yZ b)=0 then[⟨[],(yZ b).map (·.at_)⟩] else[]⟩⟩
theorem ziM (o:jM w0) {p s z:Nat} {k:Value} {css:List (List Value)} {D:ChD} {b:y7} (l:b.txs=[]) (m:D.S.length≤90000):DoC (λ_=>False) w0 p s z U k css D b (R0 D.S b):=by
 intro w A bcs h u t r _ q hok n
 refine(zgu o h u t r (q.step (Fr.refl _ _) (λj _ e=>e.imp_right .inl)) l hok m n).mono λe w' ⟨a,c,d,f,cs,g,i⟩=>⟨D.M,⟨λx v=>?_,λx y=>?_⟩,a,c,d,f,cs,g,i.step (Fr.refl _ _) (λj _ e=>e.imp_right (λe=>e.elim id False.elim))⟩
 ·simp[R0]
 ·simp[R0] at y
def jw (S:List zh) (bs:List zU) (b:y7):Int:=if 1024≤bs.length then 18 else if xC b=true then(if b.pay.any xX=true then 11 else(R0 S b).E) else 5
def JO (S:List zh) (bs:List zU) (b:y7):List zh:=if jw S bs b=0 then qQ S (yZ b) else S
def JN (S:List zh) (bs:List zU) (b:y7):List zU:=if jw S bs b=0 then bs++[⟨b,[],[⟨[],(yZ b).map (·.at_)⟩]⟩] else bs
theorem zhq {S:List zh} {b:y7} (h:(R0 S b).E≠0):qh (R0 S b).d.chg (R0 S b).S=S:=by
 have a:xQ S (yZ b)≠0:=λe=>h (by simp[R0,e])
 simp[R0,a,qh,qQ]
theorem zdU (u:jM w0) {S:List zh} {bs:List zU} {n:List zY} (h:Cn w0 w p V S bs n) {b:y7} (E:xT w b cs) (D:b.txs=[]) (hS:S.length≤80000) (L:bs.length≤2000):
  Calls prog 10 #[.pointer (some ⟨p,0,none⟩),.agg cs.toArray] w λe w'=>e=.returned (.int .i64 (jw S bs b))∧∃V',Cn w0 w' p V' (JO S bs b) (JN S bs b) n:=by
 obtain⟨M,⟨s,U,B,C,css,h,N⟩,g,d⟩:=h
 by_cases hpre:JA ⟨S,bs,M⟩ b=0
 ·have i:jw S bs b=(R0 S b).E:=by
   unfold JA at hpre
   unfold jw
   split at hpre
   ·cases hpre
   ·rename_i h1
    rw[if_neg h1]
    split at hpre
    ·rename_i h2
     rw[if_pos h2]
     split at hpre
     ·cases hpre
     ·rename_i h3
      rw[if_neg h3]
    ·cases hpre
  have F:b.pay.length≤8:=by
   unfold JA at hpre
   split at hpre
   ·cases hpre
   ·split at hpre
    ·rename_i h2
     simp only[xC,Bool.and_eq_true,decide_eq_true_eq] at h2
     exact h2.1
    ·cases hpre
  have G:(R0 S b).S.length≤S.length+8:=by
   have:=zbV S (yZ b)
   rw[jD] at this
   show(qQ S (yZ b)).length≤_
   omega
  have H:vw (R0 S b).d.chg≤8:=by
   unfold R0
   dsimp only
   split
   ·simp only[vw,List.map_cons,List.map_nil,List.sum_cons,List.sum_nil,List.length_nil,List.length_map,jD];omega
   ·simp[vw]
  have I:(R0 S b).d.chg.length≤1:=by
   unfold R0
   dsimp only
   split<;>simp
  refine(Y2 u h E hpre (R:=R0 S b) (λw cs K=>zfD w K D (by omega)) (λ_ h=>h.elim) (ziM u D (by show S.length≤_;omega)) ⟨by omega,by omega,by simp[R0]⟩).mono λe w' ⟨t,_,hok,m⟩=>?_
  refine⟨by rw[t,i],?_⟩
  by_cases hz:(R0 S b).E=0
  ·obtain⟨q,j,o,r,⟨y,-⟩,-⟩:=hok hz
   have a:jw S bs b=0:=by rw[i];exact hz
   have z:xQ S (yZ b)=0:=by
    apply Classical.byContradiction
    intro z
    simp[R0,z] at hz
   have k:JO S bs b=(R0 S b).S:=by simp[JO,a,R0]
   have l:JN S bs b=bs++[(R0 S b).d]:=by simp[JN,a,R0,z]
   rw[k,l]
   have c:∀x v,(x,v)∈o↔(x,v)∈M:=λx v=>by rw[y];simp[R0]
   exact⟨_,o,⟨s,U,B,q,j,r,rfl⟩,λx=>by rw[g];simp only[c],λx v A=>d x v ((c x v).1 A)⟩
  ·obtain⟨o,r,c⟩:=m hz
   have a:jw S bs b≠0:=by rw[i];exact hz
   have k:JO S bs b=qh (R0 S b).d.chg (R0 S b).S:=by rw[zhq hz];simp[JO,a]
   have l:JN S bs b=bs:=by simp[JN,a]
   rw[k,l]
   exact⟨_,o,⟨s,U,B,C,css,r,rfl⟩,λx=>by rw[g];simp only[c],λx v A=>d x v ((c x v).1 A)⟩
 ·have i:jw S bs b=JA ⟨S,bs,M⟩ b:=by
   unfold JA at hpre⊢
   unfold jw
   dsimp only at hpre⊢
   split
   ·rfl
   ·rename_i h1
    rw[if_neg h1] at hpre
    split
    ·rename_i h2
     rw[if_pos h2] at hpre
     split
     ·rfl
     ·rename_i h3
      rw[if_neg h3] at hpre
      exact absurd rfl hpre
    ·rfl
  have a:jw S bs b≠0:=by rw[i];exact hpre
  refine(X8 u h E (by show bs.length≤_;omega) hpre).mono λe w' ⟨t,f⟩=>⟨by rw[t,i],?_⟩
  have k:JO S bs b=S:=by simp[JO,a]
  have l:JN S bs b=bs:=by simp[JN,a]
  rw[k,l]
  exact⟨_,M,⟨s,U,B,C,css,h.fr0 f,rfl⟩,g,d⟩
theorem QQ {S:List zh} {a:List zY} (h:Cn w0 w p V S [] a):
  Calls prog 12 #[.pointer (some ⟨p,0,none⟩)] w λe w'=>e=.returned (.tuple #[.agg xY.toArray,.int .i64 9])∧Fr No w w':=by
 obtain⟨M,⟨s,U,g,d,css,h,f⟩,c,b⟩:=h
 exact zdX h rfl
def YK:yk:=⟨50,List.replicate 32 0⟩
def zaL:yk:=⟨3,List.replicate 32 0⟩
def Qx:y7:=⟨0,[zaL],[]⟩
def ZX:zh:=⟨⟨z7,0⟩,YK⟩
theorem Vi:YK.ok:=⟨by decide,rfl,by decide⟩
theorem zdz:zaL.ok:=⟨by decide,rfl,by decide⟩
theorem zgm:qP [] (xP z7 [YK])=[ZX]:=rfl
set_option maxRecDepth 100000 in
theorem zeP:xH Qx≠z7:=by decide+kernel
theorem ziP {h:zY} (b:h≠z7):xQ [ZX] (xP h [zaL])=0:=by
 refine(Vs (vm h [zaL]) (λc a=>?_)).1
 have d:xP h [zaL]=[⟨⟨h,0⟩,zaL⟩]:=rfl
 rw[d] at a
 simp only[List.mem_singleton] at a
 subst a
 rw[jA]
 intro c a e
 simp only[List.mem_singleton] at a
 subst a
 exact b (congrArg zE.tx e).symm
theorem zbk {S:List zh} {b:y7} (a:xC b=true) (c:b.pay.any xX=false) (d:xQ S (yZ b)=0):jw S [] b=0:=by
 unfold jw
 rw[if_neg (by simp),if_pos a,c,if_neg (by decide)]
 unfold R0
 rw[if_pos d]
theorem VW:xQ [ZX] (yZ Qx)=0:=ziP (h:=xH Qx) zeP
theorem za6:jw [ZX] [] Qx=0:=zbk (by decide) (by decide) VW
theorem zdV {S:List zh} {b:y7} (h:jw S [] b=0) (a:xQ S (yZ b)=0):(JO S [] b).length=S.length+b.pay.length∧(JN S [] b).length=1:=by
 constructor
 ·unfold JO qQ
  rw[if_pos h,if_pos a,(jd _ _).length_eq,List.length_append,jD]
 ·unfold JN
  rw[if_pos h]
  rfl
theorem Xt:(JO [ZX] [] Qx).length=2∧(JN [ZX] [] Qx).length=1:=zdV za6 VW
section
open Go.ChangeShapes Go.WideShapes Go.ChangeAt Go.Deep
theorem laid:laidOutB prog=true:=by kernel_rfl
theorem own:ownKnob prog.godebug=none:=by kernel_rfl
section
variable {H:Type} {enc:TypeId×Value→H} {P:Program}
theorem zbs {w w':World} (h:Fr No w w'):Below w.heap.size w w':=⟨h.os,h.tape,h.output,h.size,λk a=>h.block k a id⟩
theorem YN (e:laidOutB P=true) {W b:World} (c:Below W.heap.size W b) {f:Nat→Bool}:∀ {ts:List TypeId} {vs:List Value} {ds:List (DataW H)} {ps:List MemPlace},
  (∀t∈ts,P.readableRec t=true∧t<P.types.size)→DataW.TrodAll enc P W 0 (λ_=>true) true ts vs ds ps→(∀p∈ps,p.block<W.heap.size)→(∀p∈ps,f p.block=true)→DataW.TrodAll enc P b 0 f true ts vs ds ps
 |[],_,_,_,_,h,_,_=>by
  obtain⟨rfl,rfl,rfl⟩:=trodAll_nil h
  exact trodAll_mk0
 |t::ts,_,_,_,hr,h,hlt,hs=>by
  obtain⟨v,o,d,g,p,q,rfl,rfl,rfl,i,j⟩:=trodAll_cons h
  obtain⟨l,m⟩:=hr t (List.mem_cons_self ..)
  exact trodAll_cons_mk (WideElems.Trod_stays e l m i (λx a=>c.same (hlt x (List.mem_append_left _ a))) (λx a=>hs x (List.mem_append_left _ a)))
   (YN e c (λn k=>hr n (List.mem_cons_of_mem _ k)) j (λx a=>hlt x (List.mem_append_right _ a)) (λx a=>hs x (List.mem_append_right _ a)))
theorem zcY {f:Func} {s:ChangeSpec} {apart fresh a:Bool} {W j:World} {args:Array Value} {e:List (DataW H)} {before:List MemPlace}
  (z:laidOutB P=true) (B:∀t∈f.params.toList,P.readableRec t=true∧t<P.types.size) (r:s.vars=[])
  (k:DataW.Whole enc P f.params.toList s.vars apart W args.toList e [] before) (o:Fr No W j)
  (i:∀(b:Nat) (sp:Nat→Bool) (hd:Bool),DataW.TrodAll enc P j b sp hd f.resultTypes.toList (v.resultList f.resultTypes.size) (s.fn H (e++[])).results [])
  (d:(s.fn H (e++[])).args=e) (m:(s.fn H (e++[])).vars=[]):
  s.post enc P f apart fresh a false W args v j:=by
 have l:=k
 obtain⟨p,q,u,n,rfl,y,A⟩:=l
 rw[r] at n
 obtain⟨_,rfl⟩:=trodVars_none n
 have c:∀x∈p,x.block<W.heap.size:=λx g=>by simpa using k.lt x (List.mem_append_left _ g)
 refine⟨e,[],p++[],[],p,[],k,i _ _ _,?_,?_,World.keptBut_mono (λx g=>⟨g,.inr (by simpa using g)⟩) ((zbs o).frame _),λh=>by cases h⟩
 ·rw[d]
  exact YN z (zbs o) B u c (λx g=>by simpa using c x g)
 ·rw[m,r]
  exact rfl
theorem Xu {w:World} {a:Addr} (h:w.cell? a=some v):a=⟨a.block,a.off,none⟩∧a.block<w.heap.size:=by
 unfold World.cell? at h
 split at h
 ·rename_i c x y e
  split at h
  ·cases h
  ·rename_i hs
   refine⟨?_,(Array.getElem?_eq_some_iff.1 e).1⟩
   obtain⟨b,o,s⟩:=a
   cases s<;>simp_all
 ·cases h
variable {w:World} {base:Nat} {spare:Nat→Bool} {held:Bool}
end
end
section
open Go.ChangeShapes Go.WideShapes Go.Deep
theorem Zr {b o k:Nat}:(⟨b,o,none⟩:Addr).add k=⟨b,o+k,none⟩:=by
 unfold Addr.add
 split
 ·subst_vars;rfl
 ·rfl
theorem YR {α:Type} {p:Nat→α→Prop} (h:∀i,i<n→∃a,p i a):∃L:List α,L.length=n∧∀i a,L[i]? =some a→p i a:=by
 induction n with
 |zero=>exact⟨[],rfl,λi a h=>by simp at h⟩
 |succ n ih=>
  obtain⟨L,c,e⟩:=ih (λi hi=>h i (by omega))
  obtain⟨a,d⟩:=h n (by omega)
  refine⟨L++[a],by simp[c],λi x b=>?_⟩
  by_cases hi:i<n
  ·rw[List.getElem?_append_left (by omega)] at b;exact e i x b
  ·have:i=n:=by have:=(List.getElem?_eq_some_iff.1 b).1;simp at this;omega
   subst this
   rw[List.getElem?_append_right (by omega)] at b
   simp[c] at b
   exact b▸d
section
variable {H:Type} {enc:TypeId×Value→H} {P:Program} {w:World} {base:Nat} {spare:Nat→Bool} {held:Bool}
theorem zde {x:DataW H×List MemPlace} (u:P.underlying t=some (.array n e)) (r:P.cellsOf t=n) (q:P.cellsOf e=1) (s:P.underlying e=some (.int .u8))
  (h:DataW.trod enc P w base spare held fuel t cs=some x):∃l:List Int,l.length=n∧(∀y∈l,0≤y∧y≤255)∧cs=l.map (Value.int .u8):=by
 obtain⟨xs,m,_,_,z,v,hi⟩:=DataW.trod_array u h
 obtain⟨l,f,j⟩:=YR (n:=n) (p:=λi (y:Int)=>cs[i]? =some (.int .u8 y)∧0≤y∧y≤255) (λi d=>by
  have b:=hi i d
  rw[q,getElem?_eq_getElem (by omega)] at b
  obtain⟨y,a,_,g⟩:=DataW.trod_int s b
  have k:IntKind.u8.min=0:=rfl
  have o:IntKind.u8.max=255:=rfl
  simp[Lit.wf,k,o] at g
  refine⟨y,?_,g.1,g.2⟩
  rw[Nat.mul_one] at a
  have c:i<cs.length:=by omega
  rw[List.drop_eq_getElem_cons c] at a
  simp only[List.take_succ_cons,take_zero,List.cons.injEq,and_true] at a
  rw[getElem?_eq_getElem c,a])
 refine⟨l,f,λy a=>?_,?_⟩
 ·obtain⟨i,hi⟩:=List.mem_iff_getElem?.1 a
  exact(j i y hi).2
 ·apply List.ext_getElem?
  intro i
  by_cases d:i<n
  ·have b:l[i]? =some (l[i]'(by omega)):=getElem?_eq_getElem (by omega)
   rw[(j i _ b).1,List.getElem?_map,b]
   rfl
  ·rw[List.getElem?_eq_none (by omega),List.getElem?_eq_none (by simp;omega)]
theorem zak {α:Type} {f:α→List Value} {ok:α→Prop} {x:DataW H×List MemPlace} (ht:P.underlying t=some (.slice e)) (X:P.cellsOf e=k) (N:0<k) (C:∀a,ok a→(f a).length=k)
  (z:∀(fuel:Nat) (cs:List Value) (x:DataW H×List MemPlace),DataW.trod enc P w base spare held fuel e cs=some x→∃a,ok a∧cs=f a)
  (h:DataW.trod enc P w base spare held fuel t [v]=some x):∃L:List α,(∀a∈L,ok a)∧xG w v L.length (L.flatMap f):=by
 rcases open_slice ht h with⟨Q,_⟩|⟨a,q,r,m,n,D,Pl,g,hb,hl,T,M,hx,hi⟩
 ·simp only[List.cons.injEq,and_true] at Q
  exact⟨[],(λa b=>by cases b),.inl (.inl ⟨Q,rfl,rfl⟩)⟩
 ·simp only[List.cons.injEq,and_true] at g
  rw[X] at hi
  have aa:q≤m:=by rw[M];split<;>omega
  by_cases hl0:q=0
  ·subst hl0
   exact⟨[],(λa b=>by cases b),.inr ⟨a,r,g,rfl,rfl,T⟩⟩
  have hs:a.spot=none∧a.block<w.heap.size:=by
   obtain⟨F,I,o⟩:=hi 0 (by omega)
   obtain⟨y,E,rfl⟩:=z _ _ _ o
   obtain⟨_,K,d⟩:=World.cells?_some I
   have s:=d 0 N
   rw[getElem?_eq_getElem (by rw[C y E];exact N)] at s
   have c:=Xu s
   rw[Nat.zero_mul] at c
   exact⟨by simpa[Addr.add] using congrArg Addr.spot c.1,by simpa[Addr.add] using c.2⟩
  obtain⟨O,B,W⟩:=a
  obtain⟨rfl,G⟩:=hs
  obtain⟨L,Y,U⟩:=YR (n:=q) (p:=λi (y:α)=>ok y∧w.rangeAt O (B+i*k) (f y)) (λi Z=>by
   obtain⟨F,I,o⟩:=hi i (by omega)
   obtain⟨y,E,rfl⟩:=z _ _ _ o
   obtain⟨_,K,d⟩:=World.cells?_some I
   refine⟨y,E,λj u A=>?_⟩
   have l:j<k:=by have:=(List.getElem?_eq_some_iff.1 A).1;rw[C y E] at this;exact this
   have s:=d j l
   rw[Zr,Zr] at s
   rw[s]
   exact A)
  have hok:∀a∈L,ok a:=λa b=>by
   obtain⟨i,hi⟩:=List.mem_iff_getElem?.1 b
   exact(U i a hi).1
  refine⟨L,hok,.inl (.inr ⟨O,B,r,by rw[Y];exact g,by omega,T,λj u A=>?_,G⟩)⟩
  have l:j<L.length*k:=by
   have:=(List.getElem?_eq_some_iff.1 A).1
   rwa [qU f k L (λa b=>C a (hok a b))] at this
  have V:j / k<L.length:=Nat.div_lt_of_lt_mul (by rw[Nat.mul_comm];exact l)
  have hr:j % k<k:=Nat.mod_lt _ N
  have R:=JY f k L (λa b=>C a (hok a b)) (j / k) L[j / k] (getElem?_eq_getElem V) (j % k) hr
  rw[Nat.div_add_mod' j k,A] at R
  have S:=(U (j / k) _ (getElem?_eq_getElem V)).2 (j % k) u R.symm
  rw[show B+j / k*k+j % k=B+(j / k*k+j % k) by omega,Nat.div_add_mod' j k] at S
  exact S
end
end
section
open Go.ChangeShapes Go.WideShapes Go.Deep
section
variable {H:Type} {enc:TypeId×Value→H} {P:Program} {w:World} {base:Nat} {spare:Nat→Bool} {held:Bool}
theorem XF {α:Type} {q:α→List Value→Prop} {x:DataW H×List MemPlace} (Z:P.underlying t=some (.slice e)) (T:P.cellsOf e=k) (S:0<k) (R:∀a cs,q a cs→cs.length=k)
  (A:∀(fuel:Nat) (cs:List Value) (x:DataW H×List MemPlace),DataW.trod enc P w base spare held fuel e cs=some x→∃a,q a cs)
  (h:DataW.trod enc P w base spare held fuel t [v]=some x):∃(L:List α) (va:Option Addr) (vc:Nat),v=.slice va L.length vc∧(L.length≤maxLen∧L.length≤vc)∧∀(i:Nat) (d:α),L[i]? =some d→∃b off cs,va=some ⟨b,off,none⟩∧w.rangeAt b (off+i*k) cs∧q d cs:=by
 rcases open_slice Z h with⟨O,_⟩|⟨a,o,r,m,n,D,Pl,g,hb,hl,hm,N,hx,hi⟩
 ·simp only[List.cons.injEq,and_true] at O
  exact⟨[],none,0,O,⟨zero_le _,zero_le _⟩,λi d K=>by simp at K⟩
 ·simp only[List.cons.injEq,and_true] at g
  rw[T] at hi
  have W:o≤m:=by rw[N];split<;>omega
  by_cases hl0:o=0
  ·subst hl0
   exact⟨[],some a,r,g,⟨zero_le _,zero_le _⟩,λi d K=>by simp at K⟩
  have Y:a.spot=none:=by
   obtain⟨s,G,l⟩:=hi 0 (by omega)
   obtain⟨y,B⟩:=A _ _ _ l
   obtain⟨_,I,f⟩:=World.cells?_some G
   have z:=f 0 S
   rw[getElem?_eq_getElem (by rw[R y _ B];exact S)] at z
   have c:=Xu z
   rw[Nat.zero_mul] at c
   simpa[Addr.add] using congrArg Addr.spot c.1
  obtain⟨C,E,F⟩:=a
  obtain rfl:F=none:=Y
  obtain⟨L,U,X⟩:=YR (n:=o) (p:=λi (y:α)=>∃b off cs,(some ⟨C,E,none⟩:Option Addr)=some ⟨b,off,none⟩∧w.rangeAt b (off+i*k) cs∧q y cs) (λi V=>by
   obtain⟨s,G,l⟩:=hi i (by omega)
   obtain⟨y,B⟩:=A _ _ _ l
   obtain⟨_,I,f⟩:=World.cells?_some G
   refine⟨y,C,E,s,rfl,λj u Q=>?_,B⟩
   have M:j<k:=by have:=(List.getElem?_eq_some_iff.1 Q).1;rw[R y _ B] at this;exact this
   have z:=f j M
   rw[Q,Zr,Zr] at z
   exact z)
  exact⟨L,some ⟨C,E,none⟩,r,by rw[U];exact g,⟨by omega,by omega⟩,X⟩
end
end
theorem zhs (w:World):(Instr.build 68 #[(0,.int .u64 50)]).run prog w=.ok (.agg (zx YK).toArray) w:=by kernel_rfl
theorem zim (w:World):(Instr.build 68 #[(0,.int .u64 3)]).run prog w=.ok (.agg (zx zaL).toArray) w:=by kernel_rfl
theorem zin (w:World):(Instr.build 72 #[]).run prog w=.ok (.agg (zi vn).toArray) w:=by kernel_rfl
theorem zik (a:Option Addr) (n c:Nat) (w:World):(Instr.build 36 #[(1,.slice a n c)]).run prog w=.ok (.agg [.int .u64 0,.slice a n c,.slice none 0 0].toArray) w:=by kernel_rfl
theorem zal (w:World) {o:yk} (h:o.ok):xA (w.alloc (.cells (zx o).toArray 68)) (.slice (some ⟨w.heap.size,0,none⟩) 1 1) [o]:=
 ⟨λx a=>by simp at a;subst a;exact h,.inl (.inr ⟨w.heap.size,0,1,rfl,le_refl _,by decide,λj u b=>by
  have:=zK w (zx o) 68 j u (by simpa using b)
  simpa using this,by simp⟩)⟩
theorem Vn:vn.ok:=⟨⟨rfl,λx a=>by have:x=0:=List.eq_of_mem_replicate a;omega⟩,by decide,by decide⟩
theorem zfd:yj [ZX] vn=YK∧xE [ZX] vn=true:=⟨rfl,by decide⟩
theorem zcn (B:jM w):Calls prog 4 #[] w λe w'=>e=.returned (.bool true)∧Fr No w w':=by
 have I:=J B
 have u:=J (z6 Vi)
 have l:=J (z6 zdz)
 have zo:=yA
 have zB:=jY
 have H:=J ((frN w).alloc (.cells (zx YK).toArray 68))
 have s:=J (zbI _ (zal w Vi) (by decide))
 rw[zgm] at s
 clear B
 go_enter Tryz.func4,Tryz.ntmps4
 have⟨K,L,M,N,O,P,Q,R,S,T,h,i,j,k⟩:=tZ14
 go_wp2_with ((first|((with_reducible refine xF 8 ?_);clear K;refine zg rfl (yl (o:=⟨some 8,_,_,_,_,_⟩) (t:=68) rfl rfl (zhs _)) ?_)|((with_reducible refine zt ?_);clear L;refine zg rfl (zL (t:=22) rfl rfl vU JZ (by rw[←xq];rfl) (by decide) (by decide) u.o) ?_)|(clear M;go_at_call 6;generalize w.alloc (.cells (zx YK).toArray 68)=w1 at*;refine s.o.mono ?_;rintro e w2 ⟨p,rfl,V,A⟩;have q:=J A;clear A)|(clear N;go_at_call 12;refine(QQ q.o).mono ?_;rintro e n ⟨rfl,y⟩;have D:=J (q.o.fr0 y);clear y;have r:=J (D.o.fr0 ((frN n).alloc (.cells xY.toArray 36))))|(clear Q;go_at_call 21;refine(zd6 r.o Vn).mono ?_;rintro e c ⟨rfl,z⟩;rw[zfd.1,zfd.2];have E:=J (r.o.fr0 z);clear z;have F:=J (E.o.fr0 ((frN c).alloc (.cells (zx YK).toArray 68)));have W:=(vt c Vi).1)|(clear i;go_at_call 10;refine(zdU I.o (G.o.base H.o) C.o rfl (by simp) (by simp)).mono ?_;rintro e w8 ⟨rfl,V8,x⟩;rw[za6];have f:=J x;clear x)|(clear j;go_at_call 15;refine(Qb f.o).mono ?_;rintro e w9 ⟨rfl,m⟩;rw[m,Xt.2])|(clear k;go_at_call 17;refine(QM f.o (by rw[Xt.1];decide)).mono ?_;rintro e Y ⟨v,rfl,a,b⟩;rw[Xt.1] at a;obtain⟨va,vc,X⟩:=a.slice.arg.form;subst X;have g:=J b;clear a b)|((with_reducible refine zr ?_);first|(clear O;refine ze rfl (zj (w:=n) (ty:=36) (cs:=xY) rfl rfl rfl rfl xg zbb) ?_;generalize n.alloc (.cells xY.toArray 36)=w4 at*)|(clear R;refine zi5 (w:=c) (cs:=zx YK) rfl rfl rfl rfl u.o zV ?_;generalize c.alloc (.cells (zx YK).toArray 68)=d at*;have cy:d.cell? ⟨c.heap.size,0,none⟩=some (.int .u64 50):=W))|((with_reducible refine xF 26 ?_);clear P;refine zg rfl (yl (o:=⟨some 26,_,_,_,_,_⟩) (t:=72) rfl rfl (zin _)) ?_)|((with_reducible refine xF 42 ?_);clear S;refine xM (o:=⟨some 42,_,_,_,_,_⟩) rfl (yl (t:=68) rfl rfl (zim _)) ?_;have U:=J (zal d zdz);have G:=J (F.o.fr0 ((frN d).alloc (.cells (zx zaL).toArray 68))))|((with_reducible refine xF 43 ?_);clear T;refine xM (o:=⟨some 43,_,_,_,_,_⟩) rfl (zL (t:=22) rfl rfl vU JZ (by rw[←xq];rfl) (by decide) (by decide) l.o) ?_;generalize d.alloc (.cells (zx zaL).toArray 68)=Z at*)|((with_reducible refine xF 44 ?_);clear h;refine xM (o:=⟨some 44,_,_,_,_,_⟩) rfl (yl (t:=36) rfl rfl (zik _ _ _ _)) ?_;have C:=@J (xT Z Qx [.int .u64 0,.slice (some ⟨d.heap.size,0,none⟩) 1 1,.slice none 0 0]) (⟨_,1,none,0,rfl,by decide,U.o,xB.nil⟩)));go_frame)
 go_ret
 exact⟨rfl,f.o.fr.trans0 g.o⟩
section
open Go.ChangeShapes Go.WideShapes Go.ChangeAt Go.WideMaps Go.WideElems
def zbA:List (String×DataW Unit):=[("pappus/sha.constants",Rows.laid_pappus_sha_constants),("pappus/sha.first",Rows.laid_pappus_sha_first)]
theorem gK:prog.globalNamed "pappus/sha.constants" =some 2:=by kernel_rfl
theorem tK:(prog.globals[2]?).map (·.type)=some 159:=by kernel_rfl
theorem gI:prog.globalNamed "pappus/sha.first" =some 0:=by kernel_rfl
theorem tI:(prog.globals[0]?).map (·.type)=some 134:=by kernel_rfl
theorem zfa (os:Os) (args:Array Value):laidMetH prog zbA ((World.doorLaid prog 400 os).forCall (λ_ _=>0) ⟨#[],args,[]⟩).memory:=
 laidMetH_of_parts3 (fuel:=8) (laidMet_of_run' 8 (by kernel_rfl) (by kernel_rfl)) (by kernel_rfl) (by kernel_rfl)
theorem zfY {g n:Nat} {a:List Value} {t:Nat} {c:List Int} {u:Nat→Bool} {E:List MemPlace} {h:Bool} {enc:TypeId×Value→Unit} (v:prog.underlying T=some (.array n 59)) (C:∀j,W.cell? ⟨g,j,none⟩=a[j]?) (w:DataW.trod enc prog W p u h t T a=some (.agg (c.map λx=>DataW.lit (.int .u32 x)),E)) (A:c.length=n):
  ∀(j:Nat) (x:Int),c[j]? =some x→W.cell? ⟨g,j,none⟩=some (.int .u32 x):=by
 obtain⟨xs,F,D,i,o,B,b⟩:=DataW.trod_array v w
 have q:prog.cellsOf 59=1:=by kernel_rfl
 rw[q] at b
 have d:(c.map λx=>DataW.lit (H:=Unit) (.int .u32 x))=xs.map (·.1):=by
  have e:=congrArg Prod.fst i
  exact DataW.agg.inj e
 intro j x m
 have f:j<n:=by rw[←A];exact(List.getElem?_eq_some_iff.1 m).1
 have e:=congrArg (·[j]?) d
 simp only[List.getElem?_map,m,Option.map_some] at e
 cases hy:xs[j]? with
 |none=>rw[hy] at e;cases e
 |some y=>
  rw[hy] at e
  have l:=b j f
  rw[hy] at l
  obtain⟨k,r,s,_⟩:=DataW.trod_int Tryz.underlying59 l
  simp only[Option.map_some,Option.some.injEq] at e
  rw[s] at e
  have z:x=k:=by simpa using e
  subst z
  have:=congrArg (·[0]?) r
  simp at this
  rw[C j]
  simpa using this
theorem zhE:Rows.laid_pappus_sha_constants (H:=Unit)=.agg (JD.map λx=>DataW.lit (.int .u32 x)):=by kernel_rfl
theorem zhD:Rows.laid_pappus_sha_first (H:=Unit)=.agg (ZT.map λx=>DataW.lit (.int .u32 x)):=by kernel_rfl
theorem zgF (h:laidMetH prog zbA W):jM W:=by
 rw[MakeChecks.laidMetH_plain _ _ _ (by kernel_rfl)] at h
 obtain⟨ps,⟨p,v,l,n,r,t,c,e,i,a,⟨q,w,m,o,s,u,d,f,k,b,_,_⟩,_⟩,_,_⟩:=h
 obtain rfl:=Option.some.inj (gK.symm.trans c)
 obtain rfl:=Option.some.inj (tK.symm.trans e)
 obtain rfl:=Option.some.inj (gI.symm.trans d)
 obtain rfl:=Option.some.inj (tI.symm.trans f)
 rw[zhE] at a
 rw[zhD] at b
 have K:=zfY (g:=2) Tryz.underlying159 (λj=>by rw[Array.getElem?_toList];exact World.var?_cell c i j) a rfl
 have I:=zfY (g:=0) Tryz.underlying134 (λj=>by rw[Array.getElem?_toList];exact World.var?_cell d k j) b rfl
 exact⟨⟨K,I⟩,(Xu (K 0 _ rfl)).2⟩
end
section
open Go.ChangeShapes Go.WideShapes Go.Deep
section
variable {H:Type} {enc:TypeId×Value→H} {w:World} {base:Nat} {spare:Nat→Bool} {held:Bool}
theorem zg5 {n:Int} (h:(Lit.int .u32 n).wf=true):0≤n∧n≤4294967295:=by
 simp[Lit.wf,IntKind.min,IntKind.max,IntKind.signed,IntKind.bits] at h
 omega
theorem zg6 {n:Int} (h:(Lit.int .u64 n).wf=true):0≤n∧n≤18446744073709551615:=by
 simp[Lit.wf,IntKind.min,IntKind.max,IntKind.signed,IntKind.bits] at h
 omega
theorem VC {x:DataW H×List MemPlace} (h:DataW.trod enc prog w base spare held fuel 40 cs=some x):∃l:List Int,xU l∧cs=l.map zu:=by
 have d:prog.cellsOf 40=32:=by kernel_rfl
 have c:prog.cellsOf 5=1:=by kernel_rfl
 obtain⟨l,b,a,e⟩:=zde Tryz.underlying40 d c Tryz.underlying5 h
 exact⟨l,⟨b,a⟩,e⟩
theorem zcd {x:DataW H×List MemPlace} (h:DataW.trod enc prog w base spare held fuel 72 cs=some x):∃p:zE,p.ok∧cs=zi p:=by
 have i:prog.cellsOf 40=32:=by kernel_rfl
 have j:prog.cellsOf 72=33:=by kernel_rfl
 have k:prog.cellsOf 59=1:=by kernel_rfl
 obtain⟨e,n,_,_,q,d,g⟩:=DataW.trod_struct Tryz.underlying72 h
 have a:DataW.trod enc prog w base spare held n 40 ((cs.drop 0).take (prog.cellsOf 40))=e[0]? :=g 0 _ rfl
 have b:DataW.trod enc prog w base spare held n 59 ((cs.drop 32).take (prog.cellsOf 59))=e[1]? :=g 1 _ rfl
 rw[i] at a
 rw[k] at b
 rw[j] at q
 have r:e.length=2:=d
 rw[getElem?_eq_getElem (by omega)] at a b
 obtain⟨l,c,f⟩:=VC a
 obtain⟨s,m,_,t⟩:=DataW.trod_int Tryz.underlying59 b
 refine⟨⟨l,s⟩,⟨c,zg5 t⟩,?_⟩
 rw[drop_zero] at f
 have o:cs.drop 32=[.int .u32 s]:=by rw[←m,List.take_of_length_le (by rw[length_drop];omega)]
 show cs=l.map zu++[.int .u32 s]
 rw[←f,←o,List.take_append_drop]
theorem zeD {x:DataW H×List MemPlace} (h:DataW.trod enc prog w base spare held fuel 68 cs=some x):∃o:yk,o.ok∧cs=zx o:=by
 have i:prog.cellsOf 40=32:=by kernel_rfl
 have j:prog.cellsOf 68=33:=by kernel_rfl
 have k:prog.cellsOf 33=1:=by kernel_rfl
 obtain⟨e,n,_,_,q,d,g⟩:=DataW.trod_struct Tryz.underlying68 h
 have a:DataW.trod enc prog w base spare held n 33 ((cs.drop 0).take (prog.cellsOf 33))=e[0]? :=g 0 _ rfl
 have b:DataW.trod enc prog w base spare held n 40 ((cs.drop 1).take (prog.cellsOf 40))=e[1]? :=g 1 _ rfl
 rw[k] at a
 rw[i] at b
 rw[j] at q
 have r:e.length=2:=d
 rw[getElem?_eq_getElem (by omega)] at a b
 obtain⟨s,f,_,w0⟩:=DataW.trod_int Tryz.underlying33 a
 obtain⟨l,c,m⟩:=VC b
 refine⟨⟨s,l⟩,⟨zg6 w0,c⟩,?_⟩
 rw[drop_zero] at f
 have p:cs.drop 1=l.map zu:=by rw[←m,List.take_of_length_le (by rw[length_drop];omega)]
 show cs=[.int .u64 s]++l.map zu
 rw[←f,←p,List.take_append_drop]
end
end
section
open Go.ChangeShapes Go.WideShapes Go.Deep
section
variable {H:Type} {enc:TypeId×Value→H} {w:World} {base:Nat} {spare:Nat→Bool} {held:Bool}
theorem XE {x:DataW H×List MemPlace} (h:DataW.trod enc prog w base spare held fuel 22 [v]=some x):∃L,xA w v L:=
 zak Tryz.underlying22 (k:=33) (by kernel_rfl) (by decide) (λa=>z6) (λ_ _ _ h=>zeD h) h
theorem zfx {x:DataW H×List MemPlace} (h:DataW.trod enc prog w base spare held fuel 84 [v]=some x):∃k,VT w v k:=by
 obtain⟨L,ok,d⟩:=zak (f:=λb:Int=>[zu b]) (ok:=λb:Int=>0≤b∧b≤255) Tryz.underlying84 (k:=1) (by kernel_rfl) (by decide) (λa _=>rfl) (λfuel cs x h=>by
  obtain⟨k,e,_,c⟩:=DataW.trod_int Tryz.underlying5 h
  have g:IntKind.u8.min=0:=rfl
  have i:IntKind.u8.max=255:=rfl
  simp[Lit.wf,g,i] at c
  exact⟨k,⟨c.1,c.2⟩,e⟩) h
 refine⟨L,ok,?_⟩
 have:L.flatMap (λb:Int=>[zu b])=L.map zu:=by
  clear d ok
  induction L with
  |nil=>rfl
  |cons a l ih=>simp[ih]
 rwa [this] at d
theorem zhK (b:cs.length=n) (a:k+1=n):∃u,cs.drop k=[u]:=by
 have:(cs.drop k).length=1:=by rw[length_drop];omega
 exact List.length_eq_one_iff.1 this
theorem zg0 {x:DataW H×List MemPlace} (h:DataW.trod enc prog w base spare held fuel 106 cs=some x):∃d,InQ w d cs:=by
 have c1:prog.cellsOf 72=33:=by kernel_rfl
 have c2:prog.cellsOf 84=1:=by kernel_rfl
 have q:prog.cellsOf 106=34:=by kernel_rfl
 obtain⟨f,n,_,_,l,c,i⟩:=DataW.trod_struct Tryz.underlying106 h
 have b:DataW.trod enc prog w base spare held n 72 ((cs.drop 0).take (prog.cellsOf 72))=f[0]? :=i 0 _ rfl
 have a:DataW.trod enc prog w base spare held n 84 ((cs.drop 33).take (prog.cellsOf 84))=f[1]? :=i 1 _ rfl
 rw[c1] at b
 rw[c2] at a
 rw[q] at l
 have s:f.length=2:=c
 rw[getElem?_eq_getElem (by omega)] at b a
 obtain⟨p,e,r⟩:=zcd b
 obtain⟨u,g⟩:=zhK l (k:=33) rfl
 rw[g,List.take_of_length_le (by simp)] at a
 obtain⟨k,j⟩:=zfx a
 obtain⟨m,o,rfl⟩:=j.2.form
 refine⟨⟨p,k⟩,m,o,?_,e,j⟩
 show cs=zi p++[.slice m k.length o]
 rw[←r,←g,drop_zero,List.take_append_drop]
theorem zfw {x:DataW H×List MemPlace} (h:DataW.trod enc prog w base spare held fuel 60 [v]=some x):∃L,za1 w v L:=by
 obtain⟨L,d,f,e,b,c⟩:=XF (q:=InQ w) Tryz.underlying60 (k:=34) (by kernel_rfl) (by decide) (λa cs ⟨_,_,e,ok,_⟩=>by rw[e];exact vl ok _) (λ_ _ _ h=>zg0 h) h
 exact⟨L,d,f,e,b,c⟩
theorem zg1 {x:DataW H×List MemPlace} (h:DataW.trod enc prog w base spare held fuel 62 cs=some x):∃d,TxQ w d cs:=by
 have c1:prog.cellsOf 59=1:=by kernel_rfl
 have c2:prog.cellsOf 60=1:=by kernel_rfl
 have s:prog.cellsOf 22=1:=by kernel_rfl
 have t:prog.cellsOf 62=3:=by kernel_rfl
 obtain⟨i,n,_,_,r,m,j⟩:=DataW.trod_struct Tryz.underlying62 h
 have e:DataW.trod enc prog w base spare held n 59 ((cs.drop 0).take (prog.cellsOf 59))=i[0]? :=j 0 _ rfl
 have f:DataW.trod enc prog w base spare held n 60 ((cs.drop 1).take (prog.cellsOf 60))=i[1]? :=j 1 _ rfl
 have g:DataW.trod enc prog w base spare held n 22 ((cs.drop 2).take (prog.cellsOf 22))=i[2]? :=j 2 _ rfl
 rw[c1] at e
 rw[c2] at f
 rw[s] at g
 rw[t] at r
 have y:i.length=3:=m
 rw[getElem?_eq_getElem (by omega)] at e f g
 match cs,r with
 |[a,b,c],_=>
  simp only[drop_zero,List.drop_succ_cons,List.take_succ_cons,take_zero] at e f g
  obtain⟨k,o,_,l⟩:=DataW.trod_int Tryz.underlying59 e
  simp only[List.cons.injEq,and_true] at o
  subst o
  obtain⟨I,p⟩:=zfw f
  obtain⟨O,q⟩:=XE g
  obtain⟨z,A,rfl⟩:=p.form
  obtain⟨B,C,rfl⟩:=q.2.form
  have u:IntKind.u32.min=0:=rfl
  have v:IntKind.u32.max=4294967295:=rfl
  simp[Lit.wf,u,v] at l
  exact⟨⟨k,I,O⟩,z,A,B,C,rfl,⟨l.1,l.2⟩,p,q⟩
theorem TxQ.len3 {w:World} {t:TxD} (h:TxQ w t cs):cs.length=3:=by
 obtain⟨_,_,_,_,rfl,_⟩:=h
 rfl
theorem zfy {x:DataW H×List MemPlace} (h:DataW.trod enc prog w base spare held fuel 34 [v]=some x):∃L,YD w v L:=by
 obtain⟨L,d,f,e,b,c⟩:=XF (q:=TxQ w) Tryz.underlying34 (k:=3) (by kernel_rfl) (by decide) (λa cs h=>h.len3) (λ_ _ _ h=>zg1 h) h
 exact⟨L,d,f,e,b,c⟩
theorem zf1 {x:DataW H×List MemPlace} (h:DataW.trod enc prog w base spare held fuel 36 cs=some x):∃d,xT w d cs:=by
 have c1:prog.cellsOf 33=1:=by kernel_rfl
 have c2:prog.cellsOf 22=1:=by kernel_rfl
 have s:prog.cellsOf 34=1:=by kernel_rfl
 have t:prog.cellsOf 36=3:=by kernel_rfl
 obtain⟨i,n,_,_,r,m,j⟩:=DataW.trod_struct Tryz.underlying36 h
 have e:DataW.trod enc prog w base spare held n 33 ((cs.drop 0).take (prog.cellsOf 33))=i[0]? :=j 0 _ rfl
 have f:DataW.trod enc prog w base spare held n 22 ((cs.drop 1).take (prog.cellsOf 22))=i[1]? :=j 1 _ rfl
 have g:DataW.trod enc prog w base spare held n 34 ((cs.drop 2).take (prog.cellsOf 34))=i[2]? :=j 2 _ rfl
 rw[c1] at e
 rw[c2] at f
 rw[s] at g
 rw[t] at r
 have y:i.length=3:=m
 rw[getElem?_eq_getElem (by omega)] at e f g
 match cs,r with
 |[a,b,c],_=>
  simp only[drop_zero,List.drop_succ_cons,List.take_succ_cons,take_zero] at e f g
  obtain⟨k,o,_,l⟩:=DataW.trod_int Tryz.underlying33 e
  simp only[List.cons.injEq,and_true] at o
  subst o
  obtain⟨O,q⟩:=XE f
  obtain⟨I,p⟩:=zfy g
  obtain⟨B,C,rfl⟩:=q.2.form
  obtain⟨z,A,rfl⟩:=p.form
  have u:IntKind.u64.min=0:=rfl
  have v:IntKind.u64.max=18446744073709551615:=rfl
  simp[Lit.wf,u,v] at l
  exact⟨⟨k,O,I⟩,B,C,z,A,rfl,⟨l.1,l.2⟩,q,p⟩
end
end
section
open Go.ChangeShapes Go.WideShapes Go.Deep
structure YC where
 kind:Int
 blk:y7
def zhr (k:Int) (bcs:List Value):List Value:=.int .i64 k::bcs
def ZU (w:World) (a:YC) (cs:List Value):Prop:=∃bcs,cs=zhr a.kind bcs∧xT w a.blk bcs
theorem ZU.keep {w w':World} {x:YC} (h:ZU w x cs) (f:Fr No w w'):ZU w' x cs:=by
 obtain⟨b,e,a⟩:=h
 exact⟨b,e,a.keep f⟩
theorem ZU.len {w:World} {a:YC} (h:ZU w a cs):cs.length=4:=by
 obtain⟨bcs,rfl,_,_,_,_,rfl,_⟩:=h
 rfl
abbrev JT (w:World) (v:Value) (L:List YC):Prop:=xB 4 ZU w v L
theorem JT.keep0 {w w':World} {L:List YC} (h:JT w v L) (f:Fr No w w'):JT w' v L:=xB.keep (λ_ _ h=>h.keep f) h f
section
variable {H:Type} {enc:TypeId×Value→H} {w:World} {base:Nat} {spare:Nat→Bool} {held:Bool}
theorem zdd {x:DataW H×List MemPlace} (h:DataW.trod enc prog w base spare held fuel 38 cs=some x):∃d,ZU w d cs:=by
 have c1:prog.cellsOf 3=1:=by kernel_rfl
 have c2:prog.cellsOf 36=3:=by kernel_rfl
 have o:prog.cellsOf 38=4:=by kernel_rfl
 obtain⟨i,n,_,_,m,g,l⟩:=DataW.trod_struct Tryz.underlying38 h
 have e:DataW.trod enc prog w base spare held n 3 ((cs.drop 0).take (prog.cellsOf 3))=i[0]? :=l 0 _ rfl
 have f:DataW.trod enc prog w base spare held n 36 ((cs.drop 1).take (prog.cellsOf 36))=i[1]? :=l 1 _ rfl
 rw[c1] at e
 rw[c2] at f
 rw[o] at m
 have q:i.length=2:=g
 rw[getElem?_eq_getElem (by omega)] at e f
 match cs,m with
 |[a,b,c,d],_=>
  simp only[drop_zero,List.drop_succ_cons,List.take_succ_cons,take_zero] at e f
  obtain⟨k,j,_⟩:=DataW.trod_int Tryz.underlying3 e
  simp only[List.cons.injEq,and_true] at j
  subst j
  obtain⟨B,p⟩:=zf1 f
  exact⟨⟨k,B⟩,[b,c,d],rfl,p⟩
theorem zbK {x:DataW H×List MemPlace} (h:DataW.trod enc prog w base spare held fuel 23 [v]=some x):∃L,JT w v L:=by
 obtain⟨L,d,f,e,b,c⟩:=XF (q:=ZU w) Tryz.underlying23 (k:=4) (by kernel_rfl) (by decide) (λa cs h=>h.len) (λ_ _ _ h=>zdd h) h
 exact⟨L,d,f,e,b,c⟩
end
end
def vj (F:List yk) (L:List YC):Bool:=decide (300<F.length)||(decide (40<L.length)||L.any λa=>vM a.blk)
theorem zbu {F:List yk} {L:List YC} (h:vj F L=false):F.length≤300∧L.length≤40∧∀a∈L,vM a.blk=false:=by
 unfold vj at h
 simp only[Bool.or_eq_false_iff,decide_eq_false_iff_not,List.any_eq_false] at h
 exact⟨by omega,by omega,λa b=>by simpa using h.2.2 a b⟩
def Xs (w:World) (F:List yk) (L:List YC) (e:Ending) (w':World):Prop:=e=.returned (.int .i64 (if vj F L=true then 1 else 0))∧Fr No w w'
theorem V9:∃d,prog.underlying 38=some d∧d.isRow=true:=vq (by kernel_rfl)
theorem Jk:(prog.info? 38).map (·.size)=some 4:=by kernel_rfl
theorem zax (w:World):(zeroValue 38).run prog w=.ok (.agg [.int .i64 0,.int .u64 0,.slice none 0 0,.slice none 0 0].toArray) w:=by kernel_rfl
theorem zbt (w:World) {fv U:Value} {F:List yk} {L:List YC} (Q:xA w fv F) (C:JT w U L):
  Calls prog 5 #[fv,U] w (Xs w F L):=by
 have Y:=J C
 obtain⟨fa,fc,rfl⟩:=Q.2.form
 obtain⟨va,vc,rfl⟩:=C.form
 obtain⟨dA,W,V⟩:=V9
 have zA:=zax
 have T1:=@J (vj F L=true→∀w',Fr No w w'→Xs w F L (.returned (.int .i64 1)) w') (λh w' f=>⟨by rw[h];rfl,f⟩)
 have T0:=@J (vj F L=false→∀w',Fr No w w'→Xs w F L (.returned (.int .i64 0)) w') (λh w' f=>⟨by rw[h];rfl,f⟩)
 clear Q C
 by_cases h1:300<F.length
 ·have S:decide ((300:Int)<(F.length:Int))=true:=by simp;omega
  have i:=J (T1.o (by simp[vj,h1]))
  clear h1
  go_enter Tryz.func5,Tryz.ntmps5
  go_wp2
  go_ret
  exact i.o _ (Fr.refl _ _)
 have S:decide ((300:Int)<(F.length:Int))=false:=by simp;omega
 by_cases h2:40<L.length
 ·have T:decide ((40:Int)<(L.length:Int))=true:=by simp;omega
  have i:=J (T1.o (by simp[vj,h2]))
  clear h1 h2
  go_enter Tryz.func5,Tryz.ntmps5
  go_wp2
  go_ret
  exact i.o _ (Fr.refl _ _)
 have T:decide ((40:Int)<(L.length:Int))=false:=by simp;omega
 have ab:L.length≤40:=by omega
 have HZ:=@J ((∀a∈L,vM a.blk=false)→vj F L=false) (λh=>by
  have:(L.any λa=>vM a.blk)=false:=List.any_eq_false.2 (λa ha=>by rw[h a ha];decide)
  simp only[vj,this]
  simp
  omega)
 have Z:=@J ((∃a∈L,vM a.blk=true)→vj F L=true) (λh=>by
  have:(L.any λa=>vM a.blk)=true:=List.any_eq_true.2 h
  simp[vj,this])
 clear h1 h2
 go_enter Tryz.func5,Tryz.ntmps5
 go_wp2
 clear S T
 go_loopw [17] (λH wr=>∃n:Nat,H=.int .i64 n∧n≤L.length∧(∀a∈L.take n,vM a.blk=false)∧Fr No w wr) (λH _=>L.length-(intOf H).toNat)
 case atStart=>exact⟨0,rfl,zero_le _,by simp,Fr.refl _ _⟩
 case round=>
  obtain⟨n,rfl,hn,p,fr⟩:=hrel
  have t:=J fr
  have M:=J p
  clear fr p
  by_cases D:n<L.length
  ·have i1:(n:Int)<(L.length:Int):=by omega
   obtain⟨a,G⟩:∃x,L[n]? =some x:=⟨_,getElem?_eq_getElem D⟩
   obtain⟨bb,off,aa,cs,hv,R,bcs,rfl,E⟩:=(Y.o.keep0 t.o).at_ G
   cases hv
   have O:=J R
   obtain⟨b,c,d,g,rfl⟩:=E.form
   have I:=J ((frN wr).alloc (.cells [.int .i64 a.kind,.int .u64 a.blk.tag,.slice b a.blk.pay.length c,.slice d a.blk.txs.length g].toArray 38))
   have P:=@J ((wr.alloc (.cells [.int .i64 a.kind,.int .u64 a.blk.tag,.slice b a.blk.pay.length c,.slice d a.blk.txs.length g].toArray 38)).rangeAt wr.heap.size 1 [.int .u64 a.blk.tag,.slice b a.blk.pay.length c,.slice d a.blk.txs.length g]) (λj v hj=>by
    have:=zK wr [.int .i64 a.kind,.int .u64 a.blk.tag,.slice b a.blk.pay.length c,.slice d a.blk.txs.length g] 38 (j+1) v (by simpa using hj)
    rwa [show 0+(j+1)=1+j by omega] at this)
   have l:=J (zd7 _ (E.keep I.o))
   have K:=J (t.o.trans0 I.o)
   have N:=J G
   clear R E G
   cases m:vM a.blk with
   |true=>
    have i:=J (T1.o (Z.o ⟨a,List.mem_of_getElem? N.o,m⟩))
    unfold JF at l
    rw[m] at l
    clear m
    have⟨y,z,A,B⟩:=tZ4
    go_wp2_with ((first|((with_reducible refine zt ?_);first|(clear y;refine zg rfl (ye (ty:=38) rfl rfl O.o W V Jk) ?_)|(clear A;refine ziS rfl rfl rfl P.o rfl ?_))|((with_reducible refine zr ?_);clear z;refine ze rfl (zj (w:=wr) (ty:=38) (cs:=[.int .i64 a.kind,.int .u64 a.blk.tag,.slice b a.blk.pay.length c,.slice d a.blk.txs.length g]) rfl rfl rfl rfl Jk (λu q=>by simp only[mem_cons,not_mem_nil,or_false] at q;rcases q with rfl|rfl|rfl|rfl<;>rfl)) ?_;generalize wr.alloc (.cells [.int .i64 a.kind,.int .u64 a.blk.tag,.slice b a.blk.pay.length c,.slice d a.blk.txs.length g].toArray 38)=wA at*)|(clear B;go_at_call 22;refine l.o.mono ?_;rintro e w5 ⟨rfl,o⟩;have r:=J o;clear o));go_frame)
    go_ret
    exact i.o _ (K.o.trans0 r.o)
   |false=>
    have X:=@J (∀s∈L.take (n+1),vM s.blk=false) (λs k=>by
     rw[List.take_add_one,N.o] at k
     rcases List.mem_append.1 k with k|k
     ·exact M.o s k
     ·simp at k;subst k;exact m)
    unfold JF at l
    rw[m] at l
    clear m
    have⟨y,z,A,B⟩:=tZ4
    go_wp2_with ((first|((with_reducible refine zt ?_);first|(clear y;refine zg rfl (ye (ty:=38) rfl rfl O.o W V Jk) ?_)|(clear A;refine ziS rfl rfl rfl P.o rfl ?_))|((with_reducible refine zr ?_);clear z;refine ze rfl (zj (w:=wr) (ty:=38) (cs:=[.int .i64 a.kind,.int .u64 a.blk.tag,.slice b a.blk.pay.length c,.slice d a.blk.txs.length g]) rfl rfl rfl rfl Jk (λu q=>by simp only[mem_cons,not_mem_nil,or_false] at q;rcases q with rfl|rfl|rfl|rfl<;>rfl)) ?_;generalize wr.alloc (.cells [.int .i64 a.kind,.int .u64 a.blk.tag,.slice b a.blk.pay.length c,.slice d a.blk.txs.length g].toArray 38)=wA at*)|(clear B;go_at_call 22;refine l.o.mono ?_;rintro e w5 ⟨rfl,o⟩;have r:=J o;clear o));go_frame)
    go_roundw
    case rel=>exact⟨n+1,by go_num,by omega,X.o,K.o.trans0 r.o⟩
    case measure=>simp[intOf];omega
  ·have i1:¬(n:Int)<(L.length:Int):=by omega
   have i:=J (T0.o (HZ.o (by
    have:=M.o
    rw[show n=L.length by omega,List.take_length] at this
    exact this)))
   go_wp2
   go_ret
   exact i.o _ t.o
theorem zd0 {S:List zh} {bs:List zU} {a:List zY} (h:Cn w0 w p V S bs a) {x:zY} (j:xU x):
  Calls prog 19 #[.pointer (some ⟨p,0,none⟩),.agg (zl x).toArray] w λe w'=>e=.returned (.bool (decide (x∈a)))∧Fr No w w':=by
 obtain⟨M,⟨s,U,k,z,css,h,-⟩,c,b⟩:=h
 have q:=J (yr j)
 have f:Fr No w (w.alloc (.cells (zl x).toArray 40)).drew:=((frN w).alloc _).drew
 have n:=J f
 have d:=h.fr0 f
 have m:=J d.cells.2.2
 have y:=J (zb (zK w (zl x) 40) (frN _).drew id)
 obtain⟨v,hv⟩:∃v:Int,(Instr.lookup 78 (.map (some k)) (YG x) false).run prog (w.alloc (.cells (zl x).toArray 40)).drew=.ok (.int .i64 v) (w.alloc (.cells (zl x).toArray 40)).drew∧decide (0<v)=decide (x∈a):=by
  by_cases hin:x∈a
  ·obtain⟨v,i⟩:=(c x).1 hin
   have:=d.map.look jN.keyed Jm (λ_ _=>Jj) Zo (xn j) false (r:=some v) (λl=>⟨λe=>by rw[←Option.some.inj e];exact i,λg=>by rw[d.map.uniq i g]⟩)
   exact⟨v,by simpa using this,by simp[hin,b x v i]⟩
  ·have:=d.map.look jN.keyed Jm (λ_ _=>Jj) Zo (xn j) false (r:=none) (λl=>⟨λe=>(by cases e),λg=>absurd ((c x).2 ⟨l,g⟩) hin⟩)
   exact⟨0,by simpa using this,by simp[hin]⟩
 have u:=J hv.1
 have o:=J hv.2
 clear h d hv c b f
 go_enter Tryz.func19,Tryz.ntmps19
 go_wp2_with fail
 refine wrLx [ff,ff,ff,ff,ff,ff,ff,ff,ff,ff,ff,ff] (λw'=>w'.cell? ⟨p,2,none⟩=some (.map (some k))∧w'.rangeAt w.heap.size 0 (zl x)∧(Instr.lookup 78 (.map (some k)) (YG x) false).run prog w'=.ok (.int .i64 v) w') ?_ (λK hK=>?_)
 ·exact⟨m.o,y.o,u.o⟩
 repeat((first|(refine zn rfl ?_;constructor;constructor;(focus(first|exact zi0 rfl (λw h=>h.2.1) q.o|exact λw' h=>qY (t:=78) rfl rfl rfl h.2.2|(rintro w' ⟨A,B,C⟩;exact goS))))|(refine zq rfl ?_));try simp only[Act.put,pA,pB,pC])
 refine zZ (hK.out _ _ ?_)
 go_wp2_with fail
 go_ret
 exact⟨by rw[←o.o];rfl,n.o⟩
end Go.Proofs.YtmpamcnlineceaaGreatDoor
