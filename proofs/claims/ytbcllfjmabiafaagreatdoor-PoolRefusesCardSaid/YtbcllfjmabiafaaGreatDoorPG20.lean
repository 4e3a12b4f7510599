/- pool: Accept. (Written by gen_accept.py.) -/
import Derived.Test.YtbcllfjmabiafaaGreatDoorPG19
import Derived.Test.YtbcllfjmabiafaaGreatDoorPG15
import Derived.Test.YtbcllfjmabiafaaGreatDoorPG14
import Derived.Test.YtbcllfjmabiafaaGreatDoorPG13
import Derived.Test.YtbcllfjmabiafaaGreatDoorPG12
set_option linter.unusedVariables false
set_option linter.unusedSimpArgs false
set_option linter.unnecessarySimpa false
set_option linter.all false
set_option maxRecDepth 20000
set_option maxHeartbeats 16000000
namespace Go.Proofs.YtbcllfjmabiafaaGreatDoor
open Go Go.RowKit Go.Maps Go.MapKept
open Go.Proofs.Tryz(prog)
open List(mem_map getElem?_eq_getElem mem_append mem_of_getElem? take_add_one mem_singleton take_length length_take any_eq_true drop_drop)
open Nat(le_trans)
variable {m n:Nat}
theorem zkf {L:List zL} {x:Int×Int} {ps:List zf} (h:Jz L x ps≠0):vn L x ps=[]:=by
 unfold Jz at h
 unfold vn
 by_cases h1:L.length<32
 ·rw[if_pos h1] at h;exact absurd rfl h
 ·rw[if_neg h1] at h⊢
  cases hw:Xi L ps with
  |none=>rfl
  |some e=>
   rw[hw] at h
   simp only at h⊢
   by_cases h2:Yq (wgt e) x<0
   ·rw[if_pos h2] at h;exact absurd rfl h
   ·rw[if_neg h2]
theorem xy.wok {S:List zn} {I:List zf} {L:List zL} (n:xy S I L) (hS:∀c∈S,c.ok) (f:∀e∈L,∀x∈e.tx.outs,x.ok):∀e∈L,WOk (wgt e):=by
 induction n with
 |nil=>simp
 |@snoc A e hA hc hl he ih=>
  intro x d
  have b:∀e∈A,∀x∈e.tx.outs,x.ok:=λa l=>f a (by simp[l])
  rcases mem_append.1 d with d|d
  ·exact ih b x d
  ·obtain rfl:=mem_singleton.1 d
   obtain⟨-,-,h,i⟩:=Y8 he
   have m:∀y∈xj S A x.tx,y.ok:=λy o=>by
    obtain⟨q,r,rfl⟩:=mem_map.1 o
    unfold xF
    split
    ·exact qB hS q
    ·exact VQ b q
   have j:=zd1 (t:=x.tx) m (f x (by simp))
   have k:=YE (jd hc).1
   unfold WOk wgt
   rw[h,i]
   exact⟨j,k.1,by omega⟩
theorem xy.ins8 {S:List zn} {I:List zf} {L:List zL} (b:xy S I L):∀e∈L,e.tx.ins.length≤8:=λe a=>(xe.1 (jd (b.ent e a).1).1).2.1
theorem zle {L:List zL} (h:∀e∈L,e.tx.ins.length≤8):(L.flatMap λe=>z6 e.tx).length≤8*L.length:=by
 induction L with
 |nil=>simp
 |cons e l ih=>
  have b:=ih (λx a=>h x (.tail _ a))
  have c:=h e (.head _)
  rw[List.flatMap_cons,List.length_append,jP,List.length_cons]
  omega
theorem zlu {w:World} {q:Nat} {T:TypeId} {a b c d e f x y z:Value} (h:w.heap[q]? =some (.cells #[a,b,c,d,e,f] T (0,0))):(w.setCells q 0 [x,y,z]).heap[q]? =some (.cells #[x,y,z,d,e,f] T (0,0)):=by
 have i:=heap_setCell_same w q 0 _ _ x h
 have j:=heap_setCell_same _ q 1 _ _ y i
 have k:=heap_setCell_same _ q 2 _ _ z j
 simpa[World.setCells] using k
def zey (w0 w:World) (p ma ms g:Nat) (VG X:Nat→Prop) (S:List zn) (I:List zf) (L:List zL) (t:TxD) (now:Int) (N:Nat) (e:Ending) (w':World):Prop:=
 ∃gv,e=.returned (.tuple #[gv,.int .i64 (jj S I L t)])∧(∃VG' C',yn w0 w' p ma ms g VG' (λj=>X j∨VG' j) C' (qM S I L t now) (N+1)∧Fr (poV p ma ms VG) w w'∧∀j,VG' j→VG j∨w.heap.size≤j)∧
  w'.ownsRow w.heap.size 45 32 gv (jo S I L t).length ((jo S I L t).flatMap zd)
section
variable {w0 w:World} {p ma ms g N:Nat} {VG X:Nat→Prop} {C:zf→List Value} {L:List zL} {S:List zn} {I:List zf}
theorem zey.bad {w':World} {t:TxD} {now:Int} {c:Int} (h:yn w0 w p ma ms g VG X C L N) (d:jj S I L t=c) (l:c≠0) (f:Fr No w w'):zey w0 w p ma ms g VG X S I L t now N (.returned (.tuple #[.slice none 0 0,.int .i64 c])) w':=by
 have b:jj S I L t≠0:=by rw[d];exact l
 have k:qM S I L t now=L:=by unfold qM;rw[if_neg b]
 have i:jo S I L t=[]:=by unfold jo;rw[if_neg b]
 refine⟨_,by rw[d],⟨VG,C,?_,f.of0,λj a=>.inl a⟩,by rw[i];exact World.ownsRow_nil _ _ _ _⟩
 rw[k]
 exact((h.mono (Nat.le_succ N)).frV f (λ_ _=>id) (λ_ h=>h.elim) (λ_ h=>h.elim) (λj _ a=>a.elim id (λe=>h.sub j (.inr (.inr (.inr e))))) (λj a=>.inl (h.sub j a)))
theorem zeE (hg:vp w) (h:yn w0 w p ma ms g VG X C L N) (dc:N≤800) (hX:∀j,X j→j<w.heap.size) (hv:xy S I L) (cW:L.length≤32) {w1:World} {pc:Nat} {VC:Nat→Prop} {bs:List yx} (hc:Cn w1 w pc VC S bs I) (hS:∀c∈S,c.ok) {t:TxD} {cs:List Value} (ht:Kept X w (λw=>TxQ w t cs)) {now:Nat} (c9:now<18446744073709551616):
  Calls prog 17 #[.pointer (some ⟨p,0,none⟩),.pointer (some ⟨pc,0,none⟩),.agg cs.toArray,.int .u64 now] w (zey w0 w p ma ms g VG X S I L t now N):=by
 obtain⟨dE,uE,rE⟩:=zg7
 obtain⟨dW,uW,rW⟩:=Qn
 have ze:=show ∀w,(zeroValue 120).run prog w=.ok (.agg qJ.toArray) w from QS
 have zh:=yJ
 have zp:=vr
 obtain⟨ia,ic,oa,oc,rfl⟩:=ht.now.form
 have f1:Fr No w (w.alloc (.cells #[.int .u32 t.ver,.slice ia t.ins.length ic,.slice oa t.outs.length oc] 27)):=(frN w).alloc _
 have F1:=Hd f1
 have R1:=Hd (qI w t.ver (.slice ia t.ins.length ic) (.slice oa t.outs.length oc)).2.2.2
 have HT:=Hd ht
 have HG:=Hd hg
 have H:=Hd h
 have H1:=@Hd (yn w0 w p ma ms g VG (λj=>X j∨w.heap.size≤j) C L N) (h.frV (frN w) (λ_ _=>id) (λ_ h=>h.elim) (λ_ h=>h.elim) (λj a e=>e.resolve_right (by omega)) (λj a=>.inl (h.sub j a)))
 have HC:=Hd hc
 have HS:=Hd hS
 have ba:=Hd hv
 have cT:=Hd hX
 have an:=Hd (Ql _ ((HT.o.same F1.o.of0).now))
 have aL:=Hd (λw' (f:Fr No w w')=>YX (HG.o.keep0 f) (HT.o w' f.of0))
 clear f1 ht hg h hc hS hv hX
 show Calls prog 17 #[.pointer (some ⟨p,0,none⟩),.pointer (some ⟨pc,0,none⟩),.agg #[.int .u32 t.ver,.slice ia t.ins.length ic,.slice oa t.outs.length oc],.int .u64 now] w _
 by_cases c1:yR t=0
 rotate_left
 ·have LE:=@Hd (jj S I L t=yR t) (by unfold jj;rw[if_pos c1])
  have je:(yR t==0)=false:=by simpa using c1
  have NE:=Hd c1
  clear c1
  go_enter Tryz.func17,Tryz.ntmps17
  have⟨K0,K1⟩:=tZ2
  go_wp2_with ((first|((with_reducible refine zt ?_);clear K0;refine znT rfl rfl rfl R1.o rfl ?_;generalize aj:w.heap.size=B at*;generalize P:w.alloc (.cells #[.int .u32 t.ver,.slice ia t.ins.length ic,.slice oa t.outs.length oc] 27)=wa at*;have Z1:=@Hd (B<wa.heap.size) (by rw[←P,←aj];simp);clear P)|(clear K1;go_at_call 29;refine an.o.mono ?_;rintro e w3 ⟨rfl,f3⟩;have F3:=Hd (F1.o.trans0 f3);have R3:=Hd (za R1.o f3 id);have Z3:=@Hd (B<w3.heap.size) (by have:=Z1.o;have:=f3.size;omega);clear f3;have ao:=Hd (aL.o _ F3.o)));go_frame)
  go_ret2
  exact zey.bad H.o LE.o NE.o F3.o
 unfold Jk at an
 rw[c1] at an
 have FM:=Hd (jd c1).1
 have a6:=Hd c1
 have bb:=@Hd (idE t=0) (by unfold idE;rw[if_pos FM.o])
 have bp:=Hd (jJ t)
 have XL:=Hd (zu bp.o)
 by_cases c2:xX S I L t=0
 rotate_left
 ·have LE:=@Hd (jj S I L t=xX S I L t) (by unfold jj;rw[if_neg (by simp[c1]),if_pos c2])
  have je:(xX S I L t==0)=false:=by simpa using c2
  have NE:=Hd c2
  clear c1 c2
  go_enter Tryz.func17,Tryz.ntmps17
  have⟨K0,K1,K2,K3,K4,K5,K6,K7,K8⟩:=tZ9
  go_wp2_with ((first|((with_reducible refine zt ?_);first|(clear K0;refine znT rfl rfl rfl R1.o rfl ?_;generalize aj:w.heap.size=B at*;generalize P:w.alloc (.cells #[.int .u32 t.ver,.slice ia t.ins.length ic,.slice oa t.outs.length oc] 27)=wa at*;have Z1:=@Hd (B<wa.heap.size) (by rw[←P,←aj];simp);clear P)|(clear K2;refine znT rfl rfl rfl R3.o rfl ?_)|(clear K5;refine znV rfl rfl rfl RH.o XL.o ?_)|(clear K6;refine znT rfl rfl rfl R5.o rfl ?_))|(clear K1;go_at_call 29;refine an.o.mono ?_;rintro e w3 ⟨rfl,f3⟩;have F3:=Hd (F1.o.trans0 f3);have R3:=Hd (za R1.o f3 id);have Z3:=@Hd (B<w3.heap.size) (by have:=Z1.o;have:=f3.size;omega);clear f3;have ao:=Hd (aL.o _ F3.o))|(clear K3;go_at_call 19;refine ao.o.mono ?_;rintro e w4 ⟨rfl,f4⟩;rw[bb.o];have F4:=Hd (F3.o.trans0 f4);have R4:=Hd (za R3.o f4 id);have Z4:=@Hd (B<w4.heap.size) (by have:=Z3.o;have:=f4.size;omega);clear f4;have RH:=Hd (zq w4 (zd (idH t)) 45);have ad:=Hd ((frN w4).alloc (.cells (zd (idH t)).toArray 45)))|(clear K7;go_at_call 48;refine ay.o.mono ?_;rintro e Q ⟨l,pv,rfl,f6,O,aH⟩;have EO:=Hd O.2;have EL:=Hd O.1;clear aH;have F6:=Hd (F5.o.trans0 f6);have R6:=Hd (za R5.o f6 id);have aA:=Hd (za RH.o f6 id);have Z6:=@Hd (qh<Q.heap.size) (by have:=Z5.o;have:=f6.size;omega);clear f6 O;have RE:=Hd (zq Q l 120);have A:=Hd ((frN Q).alloc (.cells l.toArray 120));have BE:=Hd (ye Q (.cells l.toArray 120)))|((with_reducible refine zr ?_);first|(clear K4;refine zn3 (w:=w4) (cs:=zd (idH t)) rfl rfl rfl rfl XL.o zE ?_;generalize aC:w4.heap.size=qh at*;generalize af:w4.alloc (.cells (zd (idH t)).toArray 45)=w5 at*;have Z5:=@Hd (qh<w5.heap.size) (by rw[←af,←aC];simp);clear af;have F5:=Hd (F4.o.trans0 ad.o);have R5:=Hd (za R4.o ad.o id);have ay:=Hd (zce (HG.o.keep0 F5.o) (H1.o.fr0 F5.o) (by omega) (HC.o.fr0 F5.o) HS.o (HT.o w5 F5.o.of0) a6.o))|(clear K8;refine zi rfl (zj (w:=Q) (ty:=120) (cs:=l) rfl rfl rfl (by rw[EL.o];rfl) (by rw[EL.o];exact qm) EO.o) ?_;generalize ak:Q.heap.size=E at*;generalize ag:Q.alloc (.cells l.toArray 120)=w7 at*;have Z7:=@Hd (E<w7.heap.size) (by rw[←ag,←ak];simp);clear ag;have F7:=Hd (F6.o.trans0 A.o);have R7:=Hd (za R6.o A.o id);have bl:=Hd (za aA.o A.o id))));go_frame)
  go_ret2
  exact zey.bad H.o LE.o NE.o F7.o
 have aM:=Hd c2
 obtain⟨l1,l2,l3,l4,l5,l6⟩:=XK c2
 have cw:=Hd l1
 have cP:=Hd (zbd.1 l3).1
 have ct:=Hd l6
 have bj:=@Hd ((xz L t).length≤8) (le_trans (zfl L t) (xe.1 FM.o).2.1)
 have bk:=@Hd (∀y∈xz L t,zV y) (λy hy=>H.o.ids y (Jg hy))
 have bE:=@Hd (WOk (Jp t (xj S L t),vF t)) (by
  have hp:∀y∈xj S L t,y.ok:=λy hy=>by
   obtain⟨q,hq,rfl⟩:=mem_map.1 hy
   unfold xF
   split
   ·exact qB HS.o q
   ·exact VQ H.o.outs_ok q
  have s:=zd1 (t:=t) hp HT.o.now.oks.2
  have h2:=YE FM.o
  exact⟨s,h2.1,by show vF t≤_;omega⟩)
 have AP:=Hd ba.o.apart
 have bc:=Hd ba.o.ins8
 have WO:=Hd (ba.o.wok HS.o H.o.outs_ok)
 have E0:=@Hd (jj S I L t=Jz L (Jp t (xj S L t),vF t) (xz L t)) (by unfold jj;rw[if_neg (by simp[c1]),if_neg (by simp[c2])])
 clear l1 l2 l3 l4 l5 l6
 generalize aB:((Jp t (xj S L t),vF t):Int×Int)=v at*
 by_cases c3:Jz L v (xz L t)=0
 rotate_left
 ·have LE:=@Hd (jj S I L t=Jz L v (xz L t)) (E0.o)
  have RG:=Hd (zkf c3)
  have je:(Jz L v (xz L t)==0)=false:=by simpa using c3
  have NE:=Hd c3
  clear c1 c2 c3
  go_enter Tryz.func17,Tryz.ntmps17
  have⟨K0,K1,K2,K3,K4,K5,K6,K7,K8,K9,bd⟩:=tZ11
  go_wp2_with ((first|((with_reducible refine zt ?_);first|(clear K0;refine znT rfl rfl rfl R1.o rfl ?_;generalize aj:w.heap.size=B at*;generalize P:w.alloc (.cells #[.int .u32 t.ver,.slice ia t.ins.length ic,.slice oa t.outs.length oc] 27)=wa at*;have Z1:=@Hd (B<wa.heap.size) (by rw[←P,←aj];simp);clear P)|(clear K2;refine znT rfl rfl rfl R3.o rfl ?_)|(clear K5;refine znV rfl rfl rfl RH.o XL.o ?_)|(clear K6;refine znT rfl rfl rfl R5.o rfl ?_)|(clear K9;refine zg rfl (zX (ty:=118) rfl rfl bm.o uW rW (show _=some (y6 v).length from xU)) ?_))|(clear K1;go_at_call 29;refine an.o.mono ?_;rintro e w3 ⟨rfl,f3⟩;have F3:=Hd (F1.o.trans0 f3);have R3:=Hd (za R1.o f3 id);have Z3:=@Hd (B<w3.heap.size) (by have:=Z1.o;have:=f3.size;omega);clear f3;have ao:=Hd (aL.o _ F3.o))|(clear K3;go_at_call 19;refine ao.o.mono ?_;rintro e w4 ⟨rfl,f4⟩;rw[bb.o];have F4:=Hd (F3.o.trans0 f4);have R4:=Hd (za R3.o f4 id);have Z4:=@Hd (B<w4.heap.size) (by have:=Z3.o;have:=f4.size;omega);clear f4;have RH:=Hd (zq w4 (zd (idH t)) 45);have ad:=Hd ((frN w4).alloc (.cells (zd (idH t)).toArray 45)))|(clear K7;go_at_call 48;refine ay.o.mono ?_;rintro e Q ⟨l,pv,rfl,f6,O,aH⟩;have EO:=Hd O.2;have EL:=Hd O.1;obtain⟨aF,aG⟩:=aH aM.o;have PV:=Hd aG;have EC:=Hd aF;clear aF aG;rw[aM.o];obtain⟨b7,b8,bx⟩:=PV.o.slice.arg.form;subst bx;have F6:=Hd (F5.o.trans0 f6);have R6:=Hd (za R5.o f6 id);have aA:=Hd (za RH.o f6 id);have Z6:=@Hd (qh<Q.heap.size) (by have:=Z5.o;have:=f6.size;omega);clear f6 O;have RE:=Hd (zq Q l 120);have A:=Hd ((frN Q).alloc (.cells l.toArray 120));have BE:=Hd (ye Q (.cells l.toArray 120)))|(clear bd;go_at_call 49;refine a8.o.mono ?_;rintro e w8 ⟨gv,rfl,ae,h8,f8,aE,ai⟩;obtain⟨ga,gc,br⟩:=ai.slice.arg.form;subst br;have H8:=Hd h8;have F8:=Hd f8;have V8:=Hd aE;have O8:=Hd ai;clear h8 f8 aE ai)|((with_reducible refine zr ?_);first|(clear K4;refine zn3 (w:=w4) (cs:=zd (idH t)) rfl rfl rfl rfl XL.o zE ?_;generalize aC:w4.heap.size=qh at*;generalize af:w4.alloc (.cells (zd (idH t)).toArray 45)=w5 at*;have Z5:=@Hd (qh<w5.heap.size) (by rw[←af,←aC];simp);clear af;have F5:=Hd (F4.o.trans0 ad.o);have R5:=Hd (za R4.o ad.o id);have ay:=Hd (zce (HG.o.keep0 F5.o) (H1.o.fr0 F5.o) (by omega) (HC.o.fr0 F5.o) HS.o (HT.o w5 F5.o.of0) a6.o))|(clear K8;refine zi rfl (zj (w:=Q) (ty:=120) (cs:=l) rfl rfl rfl (by rw[EL.o];rfl) (by rw[EL.o];exact qm) EO.o) ?_;generalize ak:Q.heap.size=E at*;generalize ag:Q.alloc (.cells l.toArray 120)=w7 at*;have Z7:=@Hd (E<w7.heap.size) (by rw[←ag,←ak];simp);clear ag;have F7:=Hd (F6.o.trans0 A.o);have R7:=Hd (za R6.o A.o id);have bl:=Hd (za aA.o A.o id);have aq:=Hd (zb PV.o A.o (λ_ _=>id));have bh:=Hd (y4.own aq.o bk.o);have bm:=@Hd (w7.rangeAt E 3 (y6 v)) (by intro j u a;have bt:j<2:=(List.getElem?_eq_some_iff.1 a).1;have hr:=RE.o (3+j) u (by rw[EC.o,←aB] at*;match j,bt with|0,_=>exact a|1,_=>exact a);simpa using hr);have a8:=Hd (zke (H1.o.fr0 F7.o) (by omega) AP.o (λe d=>by have:=bc.o e d;omega) WO.o bE.o bh.o (by have:=bj.o;omega)))));go_frame)
  have T:=@Hd (∀j,poV p ma ms VG j→j<B) (λj a=>by have:=H.o.hi j a;omega)
  go_ret2
  have D:jj S I L t≠0:=by rw[LE.o];exact NE.o
  refine⟨_,by rw[LE.o];rfl,⟨ae,C,?_,F7.o.of0.trans F8.o (λ_ _ h=>h),λj a=>.inl (V8.o j a)⟩,?_⟩
  ·have h9:=H8.o
   rw[RG.o,Zs] at h9
   rw[show qM S I L t now=L by unfold qM;rw[if_neg D]]
   exact(h9.mono (Nat.le_succ N)).frV (frN _) (λ_ _=>id) (λ_ h=>h.elim) (λ_ h=>h.elim) (λj a e=>e.elim .inl (λe=>.inl (H.o.sub j (.inr (.inr (.inr (V8.o j e))))))) (λj a=>.inl (H.o.sub j (a.imp_right (λh=>h.imp_right (λh=>h.imp_right (V8.o j))))))
  ·rw[show jo S I L t=[] by unfold jo;rw[if_neg D]]
   exact World.ownsRow_nil _ _ _ _
 have LE:=@Hd (jj S I L t=0) (by rw[E0.o];exact c3)
 have LG:=@Hd (jo S I L t=vn L v (xz L t)) (by unfold jo;rw[if_pos LE.o,aB])
 have LL:=@Hd (qM S I L t now=xb L (vn L v (xz L t))++[mkE S L t now]) (by unfold qM;rw[if_pos LE.o,LG.o])
 have RZ:=Hd c3
 obtain⟨s1,s2⟩:=zdA H.o.gr.gok v (xz L t)
 have SH:=Hd s1
 have cA:=Hd s2
 have aT:=@Hd ((xb L (vn L v (xz L t))).length≤32) (le_trans (zda _ _) cW)
 clear c1 c2 c3 s1 s2
 go_enter Tryz.func17,Tryz.ntmps17
 have⟨K0,K1,K2,K3,K4,K5,K6,K7,K8,K9,bd,cp,cq,cr⟩:=tZ14
 go_wp2_with ((first|((with_reducible refine zt ?_);first|(clear K0;refine znT rfl rfl rfl R1.o rfl ?_;generalize aj:w.heap.size=B at*;generalize P:w.alloc (.cells #[.int .u32 t.ver,.slice ia t.ins.length ic,.slice oa t.outs.length oc] 27)=wa at*;have Z1:=@Hd (B<wa.heap.size) (by rw[←P,←aj];simp);clear P)|(clear K2;refine znT rfl rfl rfl R3.o rfl ?_)|(clear K5;refine znV rfl rfl rfl RH.o XL.o ?_)|(clear K6;refine znT rfl rfl rfl R5.o rfl ?_)|(clear K9;refine zg rfl (zX (ty:=118) rfl rfl bm.o uW rW (show _=some (y6 v).length from xU)) ?_)|(clear cp;refine znT rfl rfl rfl R8.o rfl ?_))|(clear K1;go_at_call 29;refine an.o.mono ?_;rintro e w3 ⟨rfl,f3⟩;have F3:=Hd (F1.o.trans0 f3);have R3:=Hd (za R1.o f3 id);have Z3:=@Hd (B<w3.heap.size) (by have:=Z1.o;have:=f3.size;omega);clear f3;have ao:=Hd (aL.o _ F3.o))|(clear K3;go_at_call 19;refine ao.o.mono ?_;rintro e w4 ⟨rfl,f4⟩;rw[bb.o];have F4:=Hd (F3.o.trans0 f4);have R4:=Hd (za R3.o f4 id);have Z4:=@Hd (B<w4.heap.size) (by have:=Z3.o;have:=f4.size;omega);clear f4;have RH:=Hd (zq w4 (zd (idH t)) 45);have ad:=Hd ((frN w4).alloc (.cells (zd (idH t)).toArray 45)))|(clear K7;go_at_call 48;refine ay.o.mono ?_;rintro e Q ⟨l,pv,rfl,f6,O,aH⟩;have EO:=Hd O.2;have EL:=Hd O.1;obtain⟨aF,aG⟩:=aH aM.o;have PV:=Hd aG;have EC:=Hd aF;clear aF aG;rw[aM.o];obtain⟨b7,b8,bx⟩:=PV.o.slice.arg.form;subst bx;have F6:=Hd (F5.o.trans0 f6);have R6:=Hd (za R5.o f6 id);have aA:=Hd (za RH.o f6 id);have Z6:=@Hd (qh<Q.heap.size) (by have:=Z5.o;have:=f6.size;omega);clear f6 O;have RE:=Hd (zq Q l 120);have A:=Hd ((frN Q).alloc (.cells l.toArray 120));have BE:=Hd (ye Q (.cells l.toArray 120)))|(clear bd;go_at_call 49;refine a8.o.mono ?_;rintro e w8 ⟨gv,rfl,ae,h8,f8,aE,ai⟩;obtain⟨ga,gc,br⟩:=ai.slice.arg.form;subst br;rw[RZ.o];have H8:=Hd h8;have F8:=Hd f8;have V8:=Hd aE;have O8:=Hd ai;clear h8 f8 aE ai;have T:=@Hd (∀j,poV p ma ms VG j→j<B) (λj a=>by have:=H.o.hi j a;omega);have R8:=Hd (za R7.o F8.o (λe=>by have:=T.o _ e;omega));have cI:=Hd (za bl.o F8.o (λe=>by have:=T.o _ e;have:=Z4.o;omega));have bA:=@Hd (w8.heap[E]? =some (.cells #[.int .u32 t.ver,.slice ia t.ins.length ic,.slice oa t.outs.length oc,.int .u64 v.1,.int .i64 v.2,.int .u64 0] 120 (0,0))) (by have h9:=F8.o.obj BE.o (λe=>by have:=T.o _ e;have:=Z4.o;have:=Z6.o;omega);rw[EC.o] at h9;rw[←aB];exact h9);have cS:=Hd (HT.o w8 (F7.o.of0.trans F8.o (λj _ e=>H.o.sub j e)));have ch:=Hd (zaT w8 cS.o ⟨by have:=(xe.1 FM.o).2.1;omega,by have:=(xe.1 FM.o).2.2;omega,λy hy=>by have:=(xe.1 FM.o).1 y hy;omega⟩))|(clear cq;go_at_call 50;refine ch.o.mono ?_;rintro e w9 ⟨df,rfl,f9,bu⟩;obtain⟨U,W,Y,Z,rfl⟩:=(bu (λ_=>False) (λ_ h=>h.elim)).now.form;have F9:=Hd f9;have K9:=Hd bu;clear f9 bu;have bB:=Hd (F9.o.obj bA.o id);have S3:=Hd (zlu (x:=.int .u32 t.ver) (y:=.slice U t.ins.length W) (z:=.slice Y t.outs.length Z) bB.o);have cc:=Hd (zy E [.int .u32 t.ver,.slice U t.ins.length W,.slice Y t.outs.length Z] 0 w9))|((with_reducible refine zr ?_);first|(clear K4;refine zn3 (w:=w4) (cs:=zd (idH t)) rfl rfl rfl rfl XL.o zE ?_;generalize aC:w4.heap.size=qh at*;generalize af:w4.alloc (.cells (zd (idH t)).toArray 45)=w5 at*;have Z5:=@Hd (qh<w5.heap.size) (by rw[←af,←aC];simp);clear af;have F5:=Hd (F4.o.trans0 ad.o);have R5:=Hd (za R4.o ad.o id);have ay:=Hd (zce (HG.o.keep0 F5.o) (H1.o.fr0 F5.o) (by omega) (HC.o.fr0 F5.o) HS.o (HT.o w5 F5.o.of0) a6.o))|(clear K8;refine zi rfl (zj (w:=Q) (ty:=120) (cs:=l) rfl rfl rfl (by rw[EL.o];rfl) (by rw[EL.o];exact qm) EO.o) ?_;generalize ak:Q.heap.size=E at*;generalize ag:Q.alloc (.cells l.toArray 120)=w7 at*;have Z7:=@Hd (E<w7.heap.size) (by rw[←ag,←ak];simp);clear ag;have F7:=Hd (F6.o.trans0 A.o);have R7:=Hd (za R6.o A.o id);have bl:=Hd (za aA.o A.o id);have aq:=Hd (zb PV.o A.o (λ_ _=>id));have bh:=Hd (y4.own aq.o bk.o);have bm:=@Hd (w7.rangeAt E 3 (y6 v)) (by intro j u a;have bt:j<2:=(List.getElem?_eq_some_iff.1 a).1;have hr:=RE.o (3+j) u (by rw[EC.o,←aB] at*;match j,bt with|0,_=>exact a|1,_=>exact a);simpa using hr);have a8:=Hd (zke (H1.o.fr0 F7.o) (by omega) AP.o (λe d=>by have:=bc.o e d;omega) WO.o bE.o bh.o (by have:=bj.o;omega)))|(clear cr;refine zi rfl (zU (ty:=27) (b:=E) (off:=0) (cs:=[.int .u32 t.ver,.slice U t.ins.length W,.slice Y t.outs.length Z]) rfl rfl rfl (yb bB.o (Nat.le_of_ble_eq_true rfl)) xt (jC rfl rfl rfl)) ?_;generalize da:w9.setCells E 0 [.int .u32 t.ver,.slice U t.ins.length W,.slice Y t.outs.length Z]=au at*;have c5:au.cell? ⟨E,5,none⟩=some (.int .u64 0):=(by have:=zv S3.o 5 _ rfl;simpa using this);have cV:=yp (i:=5) S3.o)));go_frame)
 have cM:=S3
 clear S3
 have S5:=@Hd ((au.setCell ⟨E,5,none⟩ (.int .u64 now)).heap[E]? =some (.cells #[.int .u32 t.ver,.slice U t.ins.length W,.slice Y t.outs.length Z,.int .u64 v.1,.int .i64 v.2,.int .u64 now] 120 (0,0))) (by
  have:=heap_setCell_same au E 5 _ _ (.int .u64 now) cM.out
  simpa using this)
 have R:=@Hd (B<E∧qh<E∧B<qh) (⟨by have:=Z6.o;have:=Z4.o;omega,Z6.o,Z4.o⟩)
 have a7:=@Hd (Fr (λj=>j=E) w9 (au.setCell ⟨E,5,none⟩ (.int .u64 now))) (cc.o.trans ((Fr.refl (λj=>j=E) au).setCell _ (.inr rfl) _) (λ_ _ h=>h))
 clear c5 cV
 generalize au.setCell ⟨E,5,none⟩ (.int .u64 now)=aI at*
 have al:=Hd ((frN aI).drew)
 have ab:=@Hd (Fr (λj=>j=E) w8 aI.drew) ((F9.o.of0.trans a7.o (λ_ _ h=>h)).trans0 al.o)
 have bz:=Hd (al.o.obj S5.o id)
 have aU:=@Hd (aI.drew.rangeAt E 0 [.int .u32 t.ver,.slice U t.ins.length W,.slice Y t.outs.length Z,.int .u64 v.1,.int .i64 v.2,.int .u64 now]) (zv bz.o)
 have G:=@Hd (yn w0 aI.drew p ma ms g ae (λj=>X j∨B≤j) C (xb L (vn L v (xz L t))) N) (H8.o.frV ab.o (λj a e=>by
  have s:=T.o j (a.imp_right (λh=>h.imp_right (λh=>h.imp_right (V8.o j))))
  have h2:=R.o
  omega) (λj e=>by rw[e];have:=H.o.fr.size;have:=R.o;omega) (λj e=>.inr (by rw[e];have:=R.o;omega)) (λ_ _ h=>h) H8.o.sub)
 have aV:=Hd (za cI.o ab.o (λe=>by have:=R.o;omega))
 have cF:=Hd (za R8.o ab.o (λe=>by have:=R.o;omega))
 have bf:=@Hd (idH t∉zR (xb L (vn L v (xz L t)))) (λe=>by
  rw[Zr] at e
  exact cw.o (List.mem_filter.1 e).1)
 generalize bq:xb L (vn L v (xz L t))=LD at*
 obtain⟨M,hM,hm⟩:=G.o.am
 have b0:=G.o.mapLen hM hm
 obtain⟨av,M2,aD,bR,bV,bT,-⟩:=hM.upd xT.keyed YG (λ_ _=>xf) (ym bp.o) (by rw[b0];have:=aT.o;unfold maxLen;omega) [.int .u32 t.ver,.slice U t.ins.length W,.slice Y t.outs.length Z,.int .u64 v.1,.int .i64 v.2,.int .u64 now]
 have cn:=Hd aD
 have k:=Hd bT.fr
 have cg:=Hd bR
 have cm:=@Hd (∀y cs,(y,cs)∈M2↔∃e∈LD++[mkE S L t now],e.id=y∧cs=(if y=idH t then[.int .u32 t.ver,.slice U t.ins.length W,.slice Y t.outs.length Z,.int .u64 v.1,.int .i64 v.2,.int .u64 now] else C y)) (λy cs=>by
  rw[bV y cs,hm]
  constructor
  ·rintro(⟨rfl,rfl⟩|⟨D,e,d,rfl,rfl⟩)
   ·exact⟨mkE S L t now,by simp,rfl,by rw[if_pos rfl]⟩
   ·exact⟨e,List.mem_append_left _ d,rfl,by rw[if_neg D]⟩
  ·rintro⟨e,d,rfl,rfl⟩
   rcases mem_append.1 d with d|d
   ·have D:e.id≠idH t:=λh=>bf.o (by rw[←h];exact mem_map.2 ⟨e,d,rfl⟩)
    exact .inr ⟨D,e,d,rfl,by rw[if_neg D]⟩
   ·obtain rfl:=mem_singleton.1 d
    exact .inl ⟨rfl,by rw[if_pos (show(mkE S L t now).id=idH t from rfl)]⟩)
 have o:=Hd G.o.apart
 have ML:=@Hd (ma<B∧ms<B∧p<B) (⟨T.o ma (.inr (.inl rfl)),T.o ms (.inr (.inr (.inl rfl))),T.o p (.inl rfl)⟩)
 have ah:=@Hd (∀j,ae j→j<B∧j≠p∧j≠ma∧j≠ms) (λj a=>⟨T.o j (.inr (.inr (.inr (V8.o j a)))),λe=>o.o.2.2.2.1 (e▸a),λe=>o.o.2.2.2.2.1 (e▸a),λe=>o.o.2.2.2.2.2 (e▸a)⟩)
 clear aD hM hm b0 bR bV bT
 have cd:=Hd (G.o.gr.frV k.o (λj a e=>(ah.o j a).2.2.1 e) (λj e=>by rw[e];exact G.o.lo3.2.1))
 have bg:=Hd (k.o.obj G.o.obj o.o.1)
 have aW:=Hd (za aV.o k.o (λe=>by have:=R.o;have:=ML.o;omega))
 have bM:=Hd (za aU.o k.o (λe=>by have:=R.o;have:=ML.o;omega))
 have cG:=Hd (za cF.o k.o (λe=>by have:=ML.o;omega))
 refine wrLx [ff,ff,ff,ff,ff,ff,tt] (λw'=>w'.cell? ⟨p,0,none⟩=some (.map (some ma))∧w'.rangeAt qh 0 (zd (idH t))∧w'.rangeAt E 0 [.int .u32 t.ver,.slice U t.ins.length W,.slice Y t.outs.length Z,.int .u64 v.1,.int .i64 v.2,.int .u64 now]) ?_ (λK hK=>?_)
 ·exact⟨G.o.cells.1,aV.o,aU.o⟩
 generalize aI.drew=wd at*
 repeat((first|(refine zk rfl ?_;constructor;constructor;(focus(first|exact zn0 rfl (λw h=>h.2.1) XL.o|exact y5 (ty:=120) rfl (λw h=>h.2.2) uE rE qm|(rintro w' ⟨s1,s2,s3⟩;exact goS))))|(refine zl rfl ?_));try simp only[Act.put,pA,pB,pC])
 (refine zM rfl (λK' hK'=>?_))
 refine xp (xK rfl rfl rfl rfl cn.o) ?_
 refine nXt hK' ?_ λhS=>?_
 ·exact⟨(zv bg.o 0 _ rfl),aW.o,bM.o⟩
 try simp only[Act.put]
 refine zN (hK.out _ _ ?_)
 have bJ:=@Hd (av.ownsRow w5.heap.size 45 32 (.slice b7 (xz L t).length b8) (xz L t).length ((xz L t).flatMap zd)) (zb (zb (zb aq.o F8.o (λj a e=>by have:=T.o j e;have:=(aq.o.lt j a).1;have:=Z5.o;have:=R.o;omega)) ab.o (λj a e=>by have:=(PV.o.lt j a).2;omega)) k.o (λj a e=>by have:=(aq.o.lt j a).1;have:=Z5.o;have:=ML.o;have:=R.o;omega))
 go_wp2_with fail
 have aa:=Hd ((frN av).drew)
 have az:=Hd (za aW.o aa.o id)
 have bC:=@Hd (av.drew.cell? ⟨p,2,none⟩=some (.pointer (some ⟨g,0,none⟩))) (aa.o.cell (zv bg.o 2 _ rfl) id)
 have cB:=@Hd (∀y∈xz L t,y∈ids (gOf LD)) (λy hy=>by
  rw[yO,←bq,Zr]
  exact List.mem_filter.2 ⟨Jg hy,by simpa using cA.o y hy⟩)
 have cU:=@Hd (idH t∉ids (gOf LD)) (by rw[yO];exact bf.o)
 have cu:=@Hd ((upS (gOf LD) (xz L t)).length<6) (by
  have:=zdI H.o.gr.gok SH.o (xz L t)
  rw[bq] at this
  have:=ct.o
  omega)
 have b9:=Hd (zgV cU.o cB.o cu.o)
 have cf:=Hd (zm9 (cd.o.fr0 aa.o) (by omega) bp.o (y4.own (zb bJ.o aa.o (λ_ _=>id)) bk.o) (by have:=bj.o;omega))
 refine wrLx [ff,ff,ff,ff,ff,ff,tt] (λw'=>w'.cell? ⟨p,2,none⟩=some (.pointer (some ⟨g,0,none⟩))∧w'.rangeAt qh 0 (zd (idH t))) ?_ (λK hK=>?_)
 ·exact⟨bC.o,az.o⟩
 generalize av.drew=wf at*
 repeat((first|(refine zk rfl ?_;constructor;constructor;(focus(first|exact zn0 rfl (λw h=>h.2) XL.o|(rintro w' ⟨s1,s2⟩;exact goS))))|(refine zl rfl ?_));try simp only[Act.put,pA,pB,pC])
 (refine zM rfl (λK' hK'=>?_))
 go_simp
 refine cf.o.mono ?_
 rintro e aw ⟨rfl,aP,ar,bX,b6⟩
 rw[if_pos b9.o] at ar
 have GN:=Hd ar
 have FN:=Hd bX
 have VN:=Hd b6
 clear ar bX b6
 have ca:=Hd (FN.o.cell bC.o o.o.2.2.2.1)
 have aX:=Hd (za az.o FN.o (λe=>by have:=(ah.o _ e).1;have:=R.o;omega))
 refine nXt hK' ?_ λhS=>?_
 ·exact⟨ca.o,aX.o⟩
 try simp only[Act.put,pA,pB,pC]
 repeat((first|(refine zk rfl ?_;constructor;constructor;(focus(first|(rintro w' ⟨s1,s2⟩;exact goS))))|(refine zl rfl ?_));try simp only[Act.put,pA,pB,pC])
 refine zN (hK.out _ _ ?_)
 have r:=@Hd (Fr ae av aw) (aa.o.of0.trans FN.o (λ_ _ h=>h))
 have ax:=@Hd (Fr (λj=>j=E∨j=ma∨ae j) w8 aw) (((ab.o.mono (λj e=>.inl e)).trans k.o (λj _ e=>.inr (.inl e))).trans r.o (λj _ e=>.inr (.inr e)))
 have bF:=@Hd (Fr X w aw) ((F7.o.of0.trans F8.o (λj _ e=>H.o.sub j e)).trans ax.o (λj a e=>by
  rcases e with e|e|e
  ·have:=R.o;omega
  ·rw[e];exact H.o.sub ma (.inr (.inl rfl))
  ·exact H.o.sub j (.inr (.inr (.inr (V8.o j e))))))
 have aZ:=Hd (HT.o aw bF.o)
 have bL:=Hd (za cG.o r.o (λe=>by have:=(ah.o _ e).1;omega))
 have bH:=Hd (r.o.obj bg.o o.o.2.2.2.1)
 have cv:=Hd (cg.o.keep r.o o.o.2.2.2.2.1)
 obtain⟨MS,b3,a1⟩:=G.o.sm
 have cK:=Hd ((b3.keep k.o (λe=>o.o.2.2.1 e.symm)).keep r.o o.o.2.2.2.2.2)
 have SM:=Hd a1
 have cj:=Hd (jO aw aZ.o (by have:=(xe.1 FM.o).2.1;omega))
 have de:t.ins.length≤8:=(xe.1 FM.o).2.1
 clear b3 a1
 have⟨K0,K1⟩:=tZ2
 go_wp2_with ((first|((with_reducible refine zt ?_);clear K0;refine znT rfl rfl rfl bL.o rfl ?_)|(clear K1;go_at_call 30;refine cj.o.mono ?_;rintro e aS ⟨dg,rfl,bw,bQ⟩;obtain⟨c4,c6,cY⟩:=bw.slice.arg.form;subst cY;have aJ:=Hd bQ;have PO:=Hd bw;clear bQ bw));go_frame)
 have aO:=Hd (jP t)
 have bI:=@Hd (∀q∈z6 t,q.ok) (λq hq=>by obtain⟨y,hy,rfl⟩:=mem_map.1 hq;exact aZ.o.oks.1 y hy)
 have cL:=Hd (cK.o.keep aJ.o id)
 have cy:=Hd (aJ.o.obj bH.o id)
 have aY:=Hd (za aX.o aJ.o id)
 have bG:=@Hd (∀e∈LD,e∈L) (λe d=>by rw[←bq] at d;exact(jA.1 d).1)
 have cD:=Hd (zle (L:=LD) (λe d=>bc.o e (bG.o e d)))
 have cE:=@Hd (B<aS.heap.size∧qh<aS.heap.size) (by have s:=qz aY.o (by intro h0;have:=XL.o;rw[h0] at this;cases this);have:=R.o;exact⟨by omega,s⟩)
 go_loopw [79] (λiv wr=>∃n:Nat,iv=.int .i64 n∧n≤t.ins.length∧(∃M,za3 wr ms M∧∀q y,(q,y)∈M↔(∃e∈LD,q∈z6 e.tx∧e.id=y)∨(q∈(z6 t).take n∧y=idH t))∧Fr (λj=>j=ms) aS wr) (λiv _=>t.ins.length-(intOf iv).toNat)
 case atStart=>exact⟨0,rfl,Nat.zero_le _,⟨MS,cL.o,λq y=>by rw[SM.o];simp⟩,Fr.refl _ _⟩
 case round=>
  obtain⟨n,rfl,hn,⟨Mn,bS,b1⟩,bY⟩:=hrel
  have FR:=Hd bY
  have bo:=Hd bS
  have bn:=Hd b1
  clear bY bS b1
  by_cases hlt:n<t.ins.length
  ·have i1:(n:Int)<(t.ins.length:Int):=by omega
   obtain⟨q,hq⟩:∃q,(z6 t)[n]? =some q:=⟨_,getElem?_eq_getElem (by rw[aO.o];exact hlt)⟩
   have bK:=Hd (bI.o q (mem_of_getElem? hq))
   have cC:=Hd (zb PO.o FR.o (λj a e=>by have:=(PO.o.lt j a).1;have:=ML.o;have s:=qz bL.o (by simp);omega))
   have b4:vw wr (.slice c4 t.ins.length c6) (z6 t):=⟨bI.o,by rw[aO.o];exact cC.o.slice.arg⟩
   obtain⟨b2,db,c8,e2,b5,-⟩:=b4.at_ hq
   injection e2 with e3 e4 e5
   subst e3
   have R2:=Hd b5
   have PL:=Hd (zW bK.o)
   have RQ:=Hd (zq wr (zm q) 56)
   have FQ:=Hd ((frN wr).alloc (.cells (zm q).toArray 56))
   have HQ:=Hd hq
   have cx:=@Hd (∀e∈LD,q∉z6 e.tx) (λe d ak=>by
    have:=cP.o q (mem_of_getElem? hq)
    rw[vk.2 ⟨e,bG.o e d,ak⟩] at this
    cases this)
   clear b5 hq e4 e5 b4
   have⟨K0,K1⟩:=tZ2
   go_wp2_with ((first|((with_reducible refine zt ?_);clear K0;refine znW rfl rfl rfl R2.o PL.o ?_)|((with_reducible refine zr ?_);clear K1;refine zn5 (w:=wr) (cs:=zm q) rfl rfl rfl rfl PL.o yF ?_));go_frame)
   generalize dd:wr.heap.size=qq at*
   generalize c0:wr.alloc (.cells (zm q).toArray 56)=wb at*
   have aK:=Hd FQ.o.drew
   have bP:=Hd (za RQ.o (frN wb).drew id)
   have OD:=Hd (aK.o.obj (FR.o.obj cy.o o.o.2.1) id)
   have bN:=Hd (za (za aY.o FR.o (λe=>by have:=ML.o;have:=R.o;omega)) aK.o id)
   have cO:=Hd (bo.o.keep aK.o id)
   clear c0
   have bO:=@Hd (Mn.length<maxLen) (by
    have s:=xB bo.o.nodup (m:=(LD.flatMap λe=>z6 e.tx)++z6 t) (λy hy=>by
     obtain⟨z,hz,rfl⟩:=mem_map.1 hy
     rcases(bn.o z.1 z.2).1 hz with⟨e,d,s,-⟩|⟨s,-⟩
     ·exact List.mem_append_left _ (List.mem_flatMap.2 ⟨e,d,s⟩)
     ·exact List.mem_append_right _ (List.mem_of_mem_take s))
    rw[List.length_map,List.length_append,aO.o] at s
    have:=cD.o
    have:=aT.o
    unfold maxLen
    omega)
   obtain⟨c7,M5,aD,bZ,bW,bU,-⟩:=cO.o.upd jF.keyed zas (λ_ _=>vD) (xu bK.o) bO.o (idH t)
   have ck:=Hd aD
   have FM:=Hd bU.fr
   have cN:=Hd bZ
   have cQ:=@Hd (∀y z,(y,z)∈M5↔(∃e∈LD,y∈z6 e.tx∧e.id=z)∨(y∈(z6 t).take (n+1)∧z=idH t)) (λy z=>by
    rw[bW y z,bn.o]
    have cZ:∀y,y∈(z6 t).take (n+1)↔y∈(z6 t).take n∨y=q:=λy=>by
     rw[take_add_one,HQ.o]
     simp
    rw[cZ]
    constructor
    ·rintro(⟨rfl,rfl⟩|⟨s,h2|⟨h2,h3⟩⟩)
     ·exact .inr ⟨.inr rfl,rfl⟩
     ·exact .inl h2
     ·exact .inr ⟨.inl h2,h3⟩
    ·rintro(⟨e,d,s,h2⟩|⟨s|rfl,h2⟩)
     ·exact .inr ⟨λe'=>cx.o e d (e'▸s),.inl ⟨e,d,s,h2⟩⟩
     ·by_cases hyq:y=q
      ·exact .inl ⟨hyq,h2⟩
      ·exact .inr ⟨hyq,.inr ⟨s,h2⟩⟩
     ·exact .inl ⟨rfl,h2⟩)
   have cb:=@Hd (Fr (λj=>j=ms) aS c7) ((FR.o.trans0 aK.o).trans FM.o (λj _ e=>e))
   have cz:=Hd (FM.o.obj OD.o o.o.2.1)
   have cJ:=Hd (za bP.o FM.o (λe=>by have:=FR.o.size;have:=cE.o;have:=ML.o;omega))
   have cH:=Hd (za bN.o FM.o (λe=>by have:=ML.o;have:=R.o;omega))
   clear aD bZ bW bU
   refine wrLx [ff,ff,ff,ff,ff,ff,tt] (λw'=>w'.cell? ⟨p,1,none⟩=some (.map (some ms))∧w'.rangeAt qq 0 (zm q)∧w'.rangeAt qh 0 (zd (idH t))) ?_ (λK hK=>?_)
   ·exact⟨zv OD.o 1 _ rfl,bP.o,bN.o⟩
   generalize wb.drew=z1 at*
   repeat((first|(refine zk rfl ?_;constructor;constructor;(focus(first|exact znZ rfl (λw h=>h.2.1) PL.o|exact zn0 rfl (λw h=>h.2.2) XL.o|(rintro w' ⟨s1,s2,s3⟩;exact goS))))|(refine zl rfl ?_));try simp only[Act.put,pA,pB,pC])
   (refine zM rfl (λK' hK'=>?_))
   refine xp (xK rfl rfl rfl rfl ck.o) ?_
   refine nXt hK' ?_ λhS=>?_
   ·exact⟨zv cz.o 1 _ rfl,cJ.o,cH.o⟩
   try simp only[Act.put]
   refine zN (hK.out _ _ ?_)
   go_wp2_with fail
   go_roundw
   case rel=>exact⟨n+1,by go_num,by omega,⟨M5,cN.o,cQ.o⟩,cb.o⟩
   case measure=>simp[intOf];omega
  ·have D:n=t.ins.length:=by omega
   have i1:¬(n:Int)<(t.ins.length:Int):=by omega
   have cR:=@Hd ((z6 t).take n=z6 t) (by rw[D,←aO.o,take_length])
   have F:=@Hd (Fr (λj=>j=ms) aw wr) (aJ.o.of0.trans FR.o (λ_ _ h=>h))
   have bD:=@Hd (Fr (poV p ma ms VG) w wr) (((F7.o.of0.trans F8.o (λ_ _ h=>h)).trans ax.o (λj a e=>by
    rcases e with e|e|e
    ·have:=R.o;omega
    ·exact .inr (.inl e)
    ·exact .inr (.inr (.inr (V8.o j e))))).trans F.o (λj _ e=>.inr (.inr (.inl e))))
   have aR:=@Hd (B<wf.heap.size∧w9.heap.size≤wf.heap.size) (by
    have s:=a7.o.size
    have h2:=al.o.size
    have h3:=k.o.size
    have h4:=aa.o.size
    have h5:=F9.o.size
    have h6:=F8.o.size
    have h7:=qz R8.o (by simp)
    exact⟨by omega,by omega⟩)
   have aQ:=@Hd (∀j,aP j→ae j∨wf.heap.size≤j) (VN.o)
   have aN:=@Hd (∀j,(j=p∨j=ma∨j=ms)→¬aP j) (λj a hv=>by
    rcases aQ.o j hv with h|h
    ·have:=ah.o j h
     rcases a with a|a|a
     ·exact this.2.1 a
     ·exact this.2.2.1 a
     ·exact this.2.2.2 a
    ·have s:=ML.o
     have h2:=aR.o
     rcases a with a|a|a<;>omega)
   clear D
   go_wp2_with fail
   go_ret2
   refine⟨_,by rw[LE.o];rfl,⟨aP,λy=>if y=idH t then[.int .u32 t.ver,.slice U t.ins.length W,.slice Y t.outs.length Z,.int .u64 v.1,.int .i64 v.2,.int .u64 now] else C y,?_,bD.o,λj a=>?_⟩,?_⟩
   ·rw[LL.o]
    refine⟨F.o.obj bH.o o.o.2.1,?_,⟨M2,cv.o.keep F.o o.o.2.2.1,cm.o⟩,⟨Mn,bo.o,λq y=>?_⟩,λe d=>?_,⟨o.o.1,o.o.2.1,o.o.2.2.1,aN.o p (.inl rfl),aN.o ma (.inr (.inl rfl)),aN.o ms (.inr (.inr rfl))⟩,G.o.lo3,λj a=>?_⟩
    ·have cX:ZV (gOf LD) (idH t) (xz L t)=gOf (LD++[mkE S L t now]):=by rw[VT];rfl
     have ar:=GN.o
     rw[cX] at ar
     exact ar.frV F.o (λj a e=>aN.o j (.inr (.inr e)) a) (λj e=>by rw[e];exact G.o.lo3.2.2)
    ·rw[bn.o,cR.o]
     constructor
     ·rintro(⟨e,d,s,h2⟩|⟨s,rfl⟩)
      ·exact⟨e,List.mem_append_left _ d,s,h2⟩
      ·exact⟨mkE S L t now,by simp,s,rfl⟩
     ·rintro⟨e,d,s,rfl⟩
      rcases mem_append.1 d with d|d
      ·exact .inl ⟨e,d,s,rfl⟩
      ·obtain rfl:=mem_singleton.1 d
       exact .inr ⟨s,rfl⟩
    ·rcases mem_append.1 d with d|d
     ·have D:e.id≠idH t:=λh=>bf.o (by rw[←h];exact mem_map.2 ⟨e,d,rfl⟩)
      rw[if_neg D]
      have f1:Fr (λj=>X j∨B≤j) wd wr:=(k.o.mono (λj e=>.inl (by rw[e];exact H.o.sub ma (.inr (.inl rfl))))).trans (show Fr (λj=>ae j∨j=ms) av wr from(r.o.mono (λj e=>Or.inl e)).trans F.o (λj _ e=>Or.inr e)) (λj _ e=>.inl (by
       rcases e with e|e
       ·exact H.o.sub j (.inr (.inr (.inr (V8.o j e))))
       ·rw[e];exact H.o.sub ms (.inr (.inr (.inl rfl)))))
      exact(G.o.data e d).step f1 (λj a e=>e.elim .inl (λe=>(aQ.o j e).elim (λe=>.inl (H.o.sub j (.inr (.inr (.inr (V8.o j e)))))) (λe=>.inr (by have:=aR.o;omega))))
     ·obtain rfl:=mem_singleton.1 d
      rw[if_pos (show(mkE S L t now).id=idH t from rfl)]
      have k1:=K9.o (λj=>j<w8.heap.size) (λ_ h=>h)
      have h8:=qz (zv bA.o) (by simp)
      have f1:Fr (λj=>j<w8.heap.size) w9 wr:=((a7.o.trans0 al.o).mono (λj e=>by rw[e];exact h8)).trans ((k.o.mono (V:=λj=>j<w8.heap.size) (λj e=>by rw[e];have:=ML.o;have:=R.o;omega)).trans ((r.o.mono (V:=λj=>j<w8.heap.size) (λj e=>by have:=(ah.o j e).1;have:=R.o;omega)).trans (F.o.mono (V:=λj=>j<w8.heap.size) (λj e=>by rw[e];have:=ML.o;have:=R.o;omega)) (λ_ _ h=>h)) (λ_ _ h=>h)) (λ_ _ h=>h)
      refine(k1.step f1 (V':=λj=>X j∨aP j) (λj a e=>?_)).imp (λw' _ hq=>⟨_,?_,hq⟩)
      ·rcases e with e|e
       ·have:=cT.o j e;have:=R.o;omega
       ·rcases aQ.o j e with e|e
        ·have:=(ah.o j e).1;have:=R.o;omega
        ·have:=aR.o;omega
      ·rw[←aB]
       rfl
    ·rcases a with e|e|e|e
     ·exact .inl (H.o.sub j (.inl e))
     ·exact .inl (H.o.sub j (.inr (.inl e)))
     ·exact .inl (H.o.sub j (.inr (.inr (.inl e))))
     ·exact .inr e
   ·rcases aQ.o j a with e|e
    ·exact .inl (V8.o j e)
    ·exact .inr (by have:=aR.o;omega)
   ·rw[LG.o]
    exact yu (zb (zb O8.o ax.o (λj a e=>by
     have s:=(O8.o.lt j a).1
     have h2:=Z7.o
     have h3:=R.o
     rcases e with e|e|e
     ·omega
     ·have:=ML.o;omega
     ·have:=(ah.o j e).1;omega)) F.o (λj a e=>by
     have s:=(O8.o.lt j a).1
     have h2:=Z7.o
     have h3:=R.o
     have:=ML.o
     omega)) F7.o.size
end
theorem ziI (w:World):(Instr.makeMap 113 none).run prog w=.ok (.map (some w.heap.size)) (w.alloc (.map #[] 0)):=by kernel_rfl
theorem ziK (w:World):(Instr.makeMap 114 none).run prog w=.ok (.map (some w.heap.size)) (w.alloc (.map #[] 0)):=by kernel_rfl
def zl7 (w0 w:World) (p:Nat) (e:Ending) (w':World):Prop:=
 e=.returned (.tuple #[])∧Fr (λj=>j=p) w w'∧∃ma ms g VG,(∀j,(j=ma∨j=ms∨VG j)→w.heap.size≤j)∧∀X:Nat→Prop,(∀j,poV p ma ms VG j→X j)→∀C,yn w0 w' p ma ms g VG X C [] 0
theorem zg2 (m w:World) (f:Fr No m w) {p:Nat} (Z:m.heap.size≤p) {a b c:Value} (H:w.heap[p]? =some (.cells #[a,b,c] 117 (0,0))):
  Calls prog 61 #[.pointer (some ⟨p,0,none⟩)] w (zl7 m w p):=by
 have m1:=ziI
 have m2:=ziK
 have r:=Hd (yr H)
 have A1:=Hd ((frN w).alloc (.map #[] 0))
 have B1:=Hd (A1.o.obj H id)
 have z:=@Hd (xR (w.alloc (.map #[] 0)) w.heap.size []) (yI.made w)
 have G:=Hd (heap_setCell_same (w.alloc (.map #[] 0)) p 0 _ _ (.map (some w.heap.size)) B1.o)
 have D:=@Hd (Fr (λj=>j=p) w ((w.alloc (.map #[] 0)).setCell ⟨p,0,none⟩ (.map (some w.heap.size)))) ((show Fr (λj=>j=p) w (w.alloc (.map #[] 0)) from A1.o.of0).setCell ⟨p,0,none⟩ (.inr rfl) _)
 have k:=@Hd (xR ((w.alloc (.map #[] 0)).setCell ⟨p,0,none⟩ (.map (some w.heap.size))) w.heap.size []) (z.o.keep ((Fr.refl (λj=>j=p) _).setCell ⟨p,0,none⟩ (.inr rfl) _) (λe=>by have:=r.o;omega))
 have S:=@Hd (((w.alloc (.map #[] 0)).setCell ⟨p,0,none⟩ (.map (some w.heap.size))).heap.size=w.heap.size+1) (by simp[World.setCell])
 have c0:(w.alloc (.map #[] 0)).cell? ⟨p,0,none⟩=some a:=by have:=zv B1.o 0 _ rfl;simpa using this
 have T:=yp (i:=0) B1.o
 have A2:=Hd ((frN ((w.alloc (.map #[] 0)).setCell ⟨p,0,none⟩ (.map (some w.heap.size)))).alloc (.map #[] 0))
 have B2:=Hd (A2.o.obj G.o id)
 have A:=Hd (k.o.keep A2.o id)
 have E:=@Hd (za3 (((w.alloc (.map #[] 0)).setCell ⟨p,0,none⟩ (.map (some w.heap.size))).alloc (.map #[] 0)) (w.heap.size+1) []) (by have:=yI.made (P:=prog) (kt:=56) (kV:=Jd) (vV:=xL) ((w.alloc (.map #[] 0)).setCell ⟨p,0,none⟩ (.map (some w.heap.size)));rw[S.o] at this;exact this)
 have O:=Hd (heap_setCell_same (((w.alloc (.map #[] 0)).setCell ⟨p,0,none⟩ (.map (some w.heap.size))).alloc (.map #[] 0)) p 1 _ _ (.map (some (w.heap.size+1))) B2.o)
 have u:=@Hd (Fr (λj=>j=p) w ((((w.alloc (.map #[] 0)).setCell ⟨p,0,none⟩ (.map (some w.heap.size))).alloc (.map #[] 0)).setCell ⟨p,1,none⟩ (.map (some (w.heap.size+1))))) ((D.o.trans0 A2.o).setCell ⟨p,1,none⟩ (.inr rfl) _)
 have g:=@Hd (Fr (λj=>j=p) (((w.alloc (.map #[] 0)).setCell ⟨p,0,none⟩ (.map (some w.heap.size))).alloc (.map #[] 0)) ((((w.alloc (.map #[] 0)).setCell ⟨p,0,none⟩ (.map (some w.heap.size))).alloc (.map #[] 0)).setCell ⟨p,1,none⟩ (.map (some (w.heap.size+1))))) ((Fr.refl (λj=>j=p) _).setCell ⟨p,1,none⟩ (.inr rfl) _)
 have B:=Hd (A.o.keep g.o (λe=>by have:=r.o;omega))
 have F:=Hd (E.o.keep g.o (λe=>by have:=r.o;omega))
 have c1:(((w.alloc (.map #[] 0)).setCell ⟨p,0,none⟩ (.map (some w.heap.size))).alloc (.map #[] 0)).cell? ⟨p,1,none⟩=some b:=by have:=zv B2.o 1 _ rfl;simpa using this
 have U:=yp (i:=1) B2.o
 have t:=@Hd (Fr No m ((((w.alloc (.map #[] 0)).setCell ⟨p,0,none⟩ (.map (some w.heap.size))).alloc (.map #[] 0)).setCell ⟨p,1,none⟩ (.map (some (w.heap.size+1))))) (f.trans u.o (λi hi e=>by omega))
 clear A1 B1 z G D k A2 B2 A E g
 go_enter Tryz.func61,Tryz.ntmps61
 have N:=tru
 go_wp2_with (clear N;go_at_call 101;generalize aa:((((w.alloc (.map #[] 0)).setCell ⟨p,0,none⟩ (.map (some w.heap.size))).alloc (.map #[] 0)).setCell ⟨p,1,none⟩ (.map (some (w.heap.size+1))))=wc at*;refine(znx m wc t.o).mono ?_;rintro e n ⟨v,rfl,R,K,I,L⟩;have M:=Hd K;have o:=Hd I;have l:=Hd L;clear K I L;have s:=Hd (o.o.obj O.o id);have c2:n.cell? ⟨p,2,none⟩=some c:=(by have:=zv s.o 2 _ rfl;simpa using this);have V:=yp (i:=2) s.o;go_frame)
 refine bodyPost_end (results_none rfl _ _ _) rfl ?_
 have Q:=heap_setCell_same n p 2 _ _ (.pointer (some ⟨v,0,none⟩)) s.o
 have d:Fr (λj=>j=p) n (n.setCell ⟨p,2,none⟩ (.pointer (some ⟨v,0,none⟩))):=(Fr.refl (λj=>j=p) n).setCell ⟨p,2,none⟩ (.inr rfl) _
 have ZC:=u.o.size
 have PZ:=r.o
 have MZ:w.heap.size<wc.heap.size∧w.heap.size+1<wc.heap.size:=⟨B.o.lt,F.o.lt⟩
 have W0:=f.size
 refine⟨rfl,(u.o.trans0 o.o).trans d (λ_ _ h=>h),w.heap.size,w.heap.size+1,v,R,λj y=>?_,λX W C=>?_⟩
 ·rcases y with e|e|e
  ·omega
  ·omega
  ·have:=l.o j e;omega
 ·refine⟨?_,?_,⟨[],(B.o.keep o.o id).keep d (λe=>by omega),λx cs=>by simp⟩,⟨[],(F.o.keep o.o id).keep d (λe=>by omega),λq x=>by simp⟩,λe Y=>(by cases Y),⟨by omega,by omega,by omega,λe=>by have:=l.o _ e;omega,λe=>by have:=l.o _ e;omega,λe=>by have:=l.o _ e;omega⟩,⟨Z,by omega,by omega⟩,W⟩
  ·simpa using Q
  ·exact M.o.frV d (λj y e=>by have:=l.o j y;omega) (λj e=>by omega)
theorem zkC (w:World):(Instr.build 117 #[]).run prog w=.ok (.agg #[.map none,.map none,.pointer none]) w:=by kernel_rfl
theorem zlW (h w:World) (f:Fr No h w):
  Calls prog 46 #[] w λe w'=>e=.returned (.pointer (some ⟨w.heap.size,0,none⟩))∧Fr No w w'∧∃b c g a,(∀j,poV w.heap.size b c a j→w.heap.size≤j)∧∀X:Nat→Prop,(∀j,poV w.heap.size b c a j→X j)→∀C,yn h w' w.heap.size b c g a X C [] 0:=by
 have d:=Hd ((frN w).alloc (.cells #[.map none,.map none,.pointer none] 117))
 have B1:=Hd (ye w (.cells #[.map none,.map none,.pointer none] 117))
 have o:=Hd (zg2 h _ (f.trans0 d.o) f.size B1.o)
 go_enter Tryz.func46,Tryz.ntmps46
 have⟨p,q⟩:=tZ2
 go_wp2_with ((first|((with_reducible refine zt ?_);clear p;with_reducible refine yg 2 ?_;refine zg rfl (yv (t:=117) rfl rfl (zkC _)) ?_)|(clear q;go_at_call 61;refine o.o.mono ?_;rintro e v ⟨rfl,k,b,c,g,a,m,l⟩;have n:=Hd k;have s:=Hd m;have r:=Hd l;clear k m l));go_frame)
 go_ret
 exact⟨rfl,d.o.trans n.o (λi hi e=>by omega),b,c,g,a,λj u=>by
  have:=d.o.size
  rcases u with e|e
  ·omega
  ·have:=s.o j e;omega,r.o⟩
def Zl (L:List zL) (x:zf):Bool:=decide (x∈zR L)
def zeX (b:zf→Bool):List zf→Int
 |[]=> -1
 |y::r=>if b y=true then 0 else if r.any b=true then 1+zeX b r else -1
theorem zdl {b:zf→Bool}:∀ {l:List zf},(∀y∈l,b y=false)→zeX b l= -1
 |[],_=>rfl
 |y::r,h=>by
  have a:=h y (.head _)
  have c:r.any b=false:=by rw[List.any_eq_false];intro z d;simp[h z (.tail _ d)]
  simp[zeX,a,c]
theorem zd5 {b:zf→Bool} {x:zf}:∀ {l:List zf} {n:Nat},l[n]? =some x→b x=true→(∀y∈l.take n,b y=false)→zeX b l=n
 |[],n,h,_,_=>by simp at h
 |y::r,0,h,a,_=>by
  simp at h
  subst h
  simp[zeX,a]
 |y::r,n+1,h,a,hn=>by
  have d:b y=false:=hn y (by simp)
  have c:r[n]? =some x:=by simpa using h
  have e:r.any b=true:=any_eq_true.2 ⟨x,mem_of_getElem? c,a⟩
  have:=zd5 c a (λz f=>hn z (by simp[f]))
  simp only[zeX,d,Bool.false_eq_true,if_false,e,if_true,this]
  omega
def zeT (p:Nat):Value:=.func (.func 63) #[.pointer (some ⟨p,0,none⟩)] #[]
structure vu (b:zf→Bool) (l R:List zf) (n m:Nat):Prop where
 len:R.length=l.length
 pre:R.take n=(l.take m).filter λx=> !b x
 suf:R.drop m=l.drop m
 lt:n<m
 le:m≤l.length
theorem vu.start {b:zf→Bool} {l:List zf} {k:zf} (h:l[n]? =some k) (c:b k=true) (d:∀y∈l.take n,b y=false):vu b l l n (n+1):=by
 have a:=(List.getElem?_eq_some_iff.1 h).1
 refine⟨rfl,?_,rfl,by omega,a⟩
 rw[take_add_one,h,List.filter_append]
 simp only[Option.toList_some]
 rw[List.filter_eq_self.2 (λx e=>by simp[d x e])]
 simp[c]
theorem vu.skip {b:zf→Bool} {k:zf} {l R:List zf} (h:vu b l R n m) (c:l[m]? =some k) (d:b k=true):vu b l R n (m+1):=by
 have a:=(List.getElem?_eq_some_iff.1 c).1
 refine⟨h.len,?_,?_,by have:=h.lt;omega,a⟩
 ·rw[take_add_one,c,List.filter_append,h.pre]
  simp[d]
 ·rw[←drop_drop,h.suf,drop_drop]
theorem vu.keep {b:zf→Bool} {x:zf} {l R:List zf} (h:vu b l R n m) (c:l[m]? =some x) (f:b x=false):vu b l (R.set n x) (n+1) (m+1):=by
 have a:=(List.getElem?_eq_some_iff.1 c).1
 have j:=h.lt
 have d:=h.len
 refine⟨by rw[List.length_set,d],?_,?_,by omega,a⟩
 ·rw[take_add_one (l:=l),c,List.filter_append,←h.pre,take_add_one,List.getElem?_set_self (by omega)]
  have e:(R.set n x).take n=R.take n:=by
   apply List.ext_getElem?
   intro i
   rw[List.getElem?_take,List.getElem?_take]
   split
   ·rw[List.getElem?_set_ne (by omega)]
   ·rfl
  rw[e]
  simp[f]
 ·rw[List.drop_set_of_lt (by omega),←drop_drop,h.suf,drop_drop]
theorem vu.at_ {b:zf→Bool} {x:zf} {l R:List zf} (h:vu b l R n m) (c:l[m]? =some x):R[m]? =some x:=by
 have a:(R.drop m)[0]? =(l.drop m)[0]? :=by rw[h.suf]
 simpa[c] using a
theorem vu.done {b:zf→Bool} {l R:List zf} (h:vu b l R n l.length):R.take n=l.filter λx=> !b x:=by rw[h.pre,take_length]
def zl5 (B:Nat) (w:World) (v:Value) (b:zf→Bool) (l:List zf) (v':Value) (w':World):Prop:=
 w'.ownsRow B 45 32 v' (l.filter λx=> !b x).length ((l.filter λx=> !b x).flatMap zd)∧Fr (λj=>v.ownBlock=some j) w w'∧(∀j,v'.ownBlock=some j→v.ownBlock=some j)
section
variable {w0 w:World} {p ma ms g N:Nat} {VG X:Nat→Prop} {C:zf→List Value} {L:List zL}
theorem zb4 (h:yn w0 w p ma ms g VG X C L N) {v:Value} {l:List zf} (u:y4 w v l) (Q:l.length≤100000):
  Calls prog 102 #[v,zeT p] w λe w'=>e=.returned (.int .i64 (zeX (Zl L) l))∧Fr No w w':=by
 obtain⟨S,T,rfl⟩:=u.2.form
 unfold zeT
 have A:=Hd u
 have B:=Hd (λw' (f:Fr No w w')=>h.fr0 f)
 clear u h
 go_enter Tryz.func102,Tryz.ntmps102
 go_wp2
 go_loopw [8] (λz wr=>∃n:Nat,z=.int .i64 n∧n≤l.length∧(∀y∈l.take n,Zl L y=false)∧Fr No w wr) (λz _=>l.length-(intOf z).toNat)
 case atStart=>exact⟨0,rfl,Nat.zero_le _,by simp,Fr.refl _ _⟩
 case round=>
  obtain⟨n,rfl,R,m,fr⟩:=hrel
  have d:=Hd fr
  have r:=Hd m
  clear fr m
  by_cases h:n<l.length
  ·have O:(n:Int)<(l.length:Int):=by omega
   obtain⟨x,i⟩:∃x,l[n]? =some x:=⟨_,getElem?_eq_getElem h⟩
   obtain⟨b,off,c,M,F,K⟩:=(A.o.keep d.o).at_ i
   cases M
   have t:=Hd (A.o.1 x (mem_of_getElem? i))
   have D:=Hd (zu t.o)
   have E:=Hd F
   clear F K
   by_cases hxk:Zl L x=true
   ·have H:=Hd (zd5 i hxk r.o)
    have o:=@Hd (decide (x∈zR L)=true) (hxk)
    clear i hxk
    go_wp2_with (first|(refine znV rfl rfl rfl E.o D.o ?_)|(go_at_call 63;refine(zdj (B.o _ d.o) t.o).mono ?_;rintro e P ⟨rfl,k⟩;rw[o.o];have q:=Hd (d.o.trans0 k);clear k))
    go_ret
    exact⟨by rw[H.o];rfl,q.o⟩
   ·have o:=@Hd (decide (x∈zR L)=false) (by simpa[Zl] using hxk)
    have s:=@Hd (∀y∈l.take (n+1),Zl L y=false) (λy a=>by
     rw[take_add_one,i] at a
     rcases mem_append.1 a with a|a
     ·exact r.o y a
     ·simp at a;subst a;simpa using hxk)
    clear i hxk
    go_wp2_with (first|(refine znV rfl rfl rfl E.o D.o ?_)|(go_at_call 63;refine(zdj (B.o _ d.o) t.o).mono ?_;rintro e P ⟨rfl,k⟩;rw[o.o];have q:=Hd (d.o.trans0 k);clear k))
    go_roundw
    case rel=>exact⟨n+1,by simp,by omega,s.o,q.o⟩
    case measure=>show l.length-(n+1)<l.length-n;omega
  ·have O:¬(n:Int)<(l.length:Int):=by omega
   have G:n=l.length:=by omega
   have j:∀y∈l,Zl L y=false:=by have:=r.o;rw[G,take_length] at this;exact this
   have I:=Hd (zdl j)
   clear j G
   go_wp2
   go_ret
   exact⟨by rw[I.o];rfl,d.o⟩
theorem zbh (h:yn w0 w p ma ms g VG X C L N) {B:Nat} {v:Value} {l:List zf} (q:w.ownsRow B 45 32 v l.length (l.flatMap zd)) (ok:∀x∈l,zV x) (hN:l.length≤100000) (hq:∀gb,v.ownBlock=some gb→∀w',Fr (· =gb) w w'→yn w0 w' p ma ms g VG X C L N):
  Calls prog 62 #[v,zeT p] w λe w'=>∃v',e=.returned v'∧zl5 B w v (Zl L) l v' w':=by
 have zh:=yJ
 have M:=Hd (zb4 h (y4.own q ok) hN)
 by_cases hin:l.any (Zl L)=true
 ·obtain⟨va,s,e⟩:=q.slice.arg.form
  subst e
  obtain⟨i,k,hi⟩:∃i k,l[i]? =some k∧Zl L k=true∧∀y∈l.take i,Zl L y=false:=by
   clear q ok hN M h hq
   induction l with
   |nil=>cases hin
   |cons y r ih=>
    by_cases e:Zl L y=true
    ·exact⟨0,y,by simp,e,by simp⟩
    ·have U:r.any (Zl L)=true:=by
      rw[List.any_cons] at hin
      rw[show Zl L y=false by simpa using e,Bool.false_or] at hin
      exact hin
     obtain⟨i,k,h1,h2,h3⟩:=ih U
     refine⟨i+1,k,by simpa using h1,h2,λz hz=>?_⟩
     rw[List.take_succ_cons] at hz
     rcases List.mem_cons.1 hz with rfl|hz
     ·simpa using e
     ·exact h3 z hz
  have EI:=Hd (zd5 hi.1 hi.2.1 hi.2.2)
  have ST:=Hd (vu.start hi.1 hi.2.1 hi.2.2)
  have al:=(List.getElem?_eq_some_iff.1 hi.1).1
  obtain⟨g,rfl⟩:∃g,va=some ⟨g,0,none⟩:=by
   rcases q.2 with⟨e,_⟩|⟨g,c,ak,e,_⟩
   ·injection e with e1 e2;omega
   ·injection e with e1;exact⟨g,e1⟩
  have j1:¬(i:Int)= -1:=by omega
  have HL:=Hd q
  have OK:=Hd ok
  have NQ:=Hd (hq g rfl)
  clear q ok h hq hi hin
  unfold zeT
  unfold zeT at M
  go_enter Tryz.func62,Tryz.ntmps62
  go_wp2_with (go_at_call 102;refine M.o.mono ?_;rintro e w1 ⟨rfl,T⟩;rw[EI.o];have I:=Hd T;clear T)
  rw[show((i:Int)== -1)=false from by simp]
  clear j1
  go_loopw [5,6] (λnv mv wr=>∃(n m:Nat) (R:List zf),nv=.int .i64 n∧mv=.int .i64 m∧vu (Zl L) l R n m∧wr.ownsRow B 45 32 (.slice (some ⟨g,0,none⟩) l.length s) l.length (R.flatMap zd)∧(∀x∈R,zV x)∧Fr (· =g) w wr) (λ_ mv _=>l.length-(intOf mv).toNat)
  case atStart=>exact⟨i,i+1,l,rfl,by simp,ST.o,zb HL.o I.o (λ_ _=>id),OK.o,I.o.of0⟩
  case round=>
   obtain⟨n,m,R,rfl,rfl,o,ho,hok,fr⟩:=hrel
   have Y:=Hd o
   have A:=Hd ho
   have b:=Hd hok
   have Z:=Hd fr
   have an:=o.le
   have ao:=o.lt
   have D:=Hd o.len
   clear o ho hok fr
   by_cases h:m<l.length
   ·have i1:(m:Int)<(l.length:Int):=by omega
    have i2:(n:Int)<(l.length:Int):=by omega
    obtain⟨x,H⟩:∃x,l[m]? =some x:=⟨_,getElem?_eq_getElem h⟩
    have W:=Y.o.at_ H
    have O:=@Hd (wr.ownsRow B 45 32 (.slice (some ⟨g,0,none⟩) R.length s) R.length (R.flatMap zd)) (by rw[D.o];exact A.o)
    obtain⟨b2,aj,ah,hv,V,hb⟩:=(y4.own O.o b.o).at_ W
    cases hv
    have OX:=Hd (OK.o x (mem_of_getElem? H))
    have d:=Hd (zu OX.o)
    have R1:=@Hd (wr.rangeAt g (m*32) (zd x)) (by simpa using V)
    have FA:=Hd ((frN wr).alloc (.cells (zd x).toArray 45))
    have RN:=Hd (zq wr (zd x) 45)
    have S:=Hd (NQ.o _ (Z.o.trans0 FA.o))
    clear V hb W
    by_cases hxk:Zl L x=true
    ·have D1:=@Hd (decide (x∈zR L)=true) (hxk)
     have u:=Hd (Y.o.skip H hxk)
     clear H hxk
     go_wp2_with (first|(refine znV rfl rfl rfl R1.o d.o ?_)|(refine zi rfl (zj (w:=wr) (cs:=zd x) (ty:=45) rfl rfl rfl (by rw[d.o];rfl) (by rw[d.o];exact yj) zE) ?_)|(refine znV rfl rfl rfl RN.o d.o ?_)|(go_at_call 63;refine(zdj S.o OX.o).mono ?_;rintro e w2 ⟨rfl,G⟩;rw[D1.o];have K:=Hd (FA.o.trans0 G);clear G))
     go_roundw
     case rel=>exact⟨n,m+1,R,rfl,by simp,u.o,zb A.o K.o (λ_ _=>id),b.o,Z.o.trans0 K.o⟩
     case measure=>show l.length-(m+1)<l.length-m;omega
    ·have D1:=@Hd (decide (x∈zR L)=false) (by simpa[Zl] using hxk)
     have u:=Hd (Y.o.keep H (by simpa using hxk))
     clear H hxk
     go_wp2_with (first|(refine znV rfl rfl rfl af.o d.o ?_)|(refine zi rfl (zU (ty:=45) rfl rfl rfl (by rw[d.o];exact TH.o) (by rw[d.o];exact yj) zE) ?_)|(refine znV rfl rfl rfl R1.o d.o ?_)|(refine zi rfl (zj (w:=wr) (cs:=zd x) (ty:=45) rfl rfl rfl (by rw[d.o];rfl) (by rw[d.o];exact yj) zE) ?_)|(refine znV rfl rfl rfl RN.o d.o ?_)|(go_at_call 63;refine(zdj S.o OX.o).mono ?_;rintro e w2 ⟨rfl,G⟩;rw[D1.o];have K:=Hd (FA.o.trans0 G);have af:=Hd (za RN.o G id);have Q:=Hd (zb O.o K.o (λ_ _=>id));have TH:=Hd (Jx Q.o (show n<R.length by rw[D.o];omega));clear G))
     have ad:=Hd (zhp (f:=zd) (λy F=>zu (b.o y F)) Q.o (show n<R.length by rw[D.o];omega) x d.o)
     have ae:=@Hd ((w2.setCells g (n*32) (zd x)).ownsRow B 45 32 (.slice (some ⟨g,0,none⟩) l.length s) l.length ((R.set n x).flatMap zd)) (by have:=ad.o;rw[D.o] at this;exact this)
     go_roundw
     case rel=>exact⟨n+1,m+1,R.set n x,by simp,by simp,u.o,ae.o,λy F=>(List.mem_or_eq_of_mem_set F).elim (b.o y) (λe=>e▸OX.o),(Z.o.trans0 K.o).trans (zy g (zd x) (n*32) w2) (λ_ _ h=>h)⟩
     case measure=>show l.length-(m+1)<l.length-m;omega
   ·have i1:¬(m:Int)<(l.length:Int):=by omega
    have ag:m=l.length:=by omega
    subst ag
    have DN:=Hd Y.o.done
    have ab:=@Hd ((R.flatMap zd).length=l.length*32) (A.o.1)
    have LN:=@Hd ((l.filter λx=> !Zl L x).length=n) (by rw[←DN.o,length_take,D.o];omega)
    obtain⟨cs,E,t⟩:=XZ (P:=prog) wr 37 45 0 (zd yT) y7 yJ zE (by rw[zu qY];decide) g (n*32) (l.length-n) (s-n) (by omega) (λj hj=>by
     rw[zu qY] at hj
     refine⟨?_,A.o.frozenAt _⟩
     rw[A.o.cellAt (n*32+j) (by omega),getElem?_eq_getElem (by rw[ab.o];omega)]
     rfl)
    rw[zu qY] at E
    have HS:=Hd (vP A.o (n*32) (cs:=cs) (by rw[E];omega))
    have HT:=Hd (YA HS.o (m:=n) (by omega))
    have HF:=@Hd ((setM (R.flatMap zd) (n*32) cs).take (n*32)=(l.filter λx=> !Zl L x).flatMap zd) (by
     rw[Vs _ _ _ _ (Nat.le_refl _),←DN.o]
     conv=>lhs;rw[←List.take_append_drop n R]
     rw[List.flatMap_append,List.take_append_of_le_length,List.take_of_length_le]
     ·rw[xY zd 32 _ (λa ha=>zu (b.o a (List.mem_of_mem_take ha))),length_take,D.o];omega
     ·rw[xY zd 32 _ (λa ha=>zu (b.o a (List.mem_of_mem_take ha))),length_take,D.o];omega)
    have FZ:=Hd (Z.o.trans (zy g cs (n*32) wr) (λ_ _ h=>h))
    have aa:=Hd t
    have ai:l.length≤s:=xQ.cap A.o.slice.arg
    have jc:¬s=n:=by omega
    have aq:¬n=s:=by omega
    clear t E
    go_wp2_with (refine YJ rfl rfl rfl aa.o ?_)
    go_ret
    refine⟨.slice (some ⟨g,0,none⟩) n s,by rfl,?_,FZ.o.mono (λj hj=>by rw[hj];rfl),λ_ h=>h⟩
    rw[LN.o,←HF.o]
    exact HT.o
 ·have EI:=@Hd (zeX (Zl L) l= -1) (zdl (λy F=>by cases o:Zl L y with|false=>rfl|true=>exact absurd (any_eq_true.2 ⟨y,F,o⟩) hin))
  have FN:=Hd ((List.filter_eq_self.2 (λy F=>by cases o:Zl L y with|false=>rfl|true=>exact absurd (any_eq_true.2 ⟨y,F,o⟩) hin):l.filter (λx=> !Zl L x)=l))
  obtain⟨va,s,e⟩:=q.slice.arg.form
  subst e
  have HL:=Hd q
  clear q ok h hq hin
  unfold zeT
  unfold zeT at M
  go_enter Tryz.func62,Tryz.ntmps62
  go_wp2_with (go_at_call 102;refine M.o.mono ?_;rintro e w1 ⟨rfl,T⟩;rw[EI.o];have I:=Hd T;clear T)
  go_ret
  exact⟨_,by rfl,by rw[FN.o];exact zb HL.o I.o (λ_ _=>id),I.o.of0,λ_ h=>h⟩
end
theorem zft {w:World} {b off:Nat} {l k:List Value} (f:l.length=k.length) (d:w.rangeAt b off l) (e:w.rangeAt b off k):l=k:=by
 refine List.ext_getElem f (λi x y=>?_)
 have a:=d i _ (getElem?_eq_getElem x)
 have c:=e i _ (getElem?_eq_getElem y)
 exact Option.some.inj (a.symm.trans c)
section
variable {w0 w:World} {p ma ms g N:Nat} {VG X:Nat→Prop} {C:zf→List Value} {L:List zL} {S:List zn} {I:List zf}
theorem zna (h:yn w0 w p ma ms g VG X C L N) (i:N≤1000):
  Calls prog 16 #[.pointer (some ⟨p,0,none⟩)] w λe w'=>∃a,e=.returned a∧RowK w w' a (zR L):=by
 have c2:=h.cells.2.2
 have c:=Hd (zgW h.gr i)
 clear h
 go_enter Tryz.func16,Tryz.ntmps16
 have d:=tru
 go_wp2_with (clear d;go_at_call 47;refine c.o.mono ?_;rintro e j ⟨a,rfl,b⟩;have f:=Hd b;clear b;go_frame)
 go_ret
 exact⟨a,rfl,by have:=f.o;rw[yO] at this;exact this⟩
def zbF (w0 w1:World) (p:Nat) (X:Nat→Prop) (S:List zn) (I:List zf) (n:Nat) (A:List zL) (wr:World):Prop:=
 ∃ma ms g VG Xn C N,yn w0 wr p ma ms g VG Xn C A N∧N≤n∧(∀j,Xn j→X j∨w1.heap.size≤j)∧(∀j,X j→Xn j)∧(∀j,Xn j→j<wr.heap.size)∧(∀j,poV p ma ms VG j→j=p∨w1.heap.size≤j)∧xy S I A∧A.length≤32∧Fr (λj=>j=p) w1 wr
theorem zfx {r wr:World} {A:List zL} (B:vp w0) (D:X p) (h:zbF w0 r p X S I n A wr) (G:n≤800) {wc:World} {s:Nat} {u:Nat→Prop} {y:List yx} (z:Cn wc wr s u S y I) (hS:∀c∈S,c.ok) {t:TxD} {cs:List Value} (E:Kept X r (λw=>TxQ w t cs)) {now:Nat} (k:now<18446744073709551616):
  Calls prog 17 #[.pointer (some ⟨p,0,none⟩),.pointer (some ⟨s,0,none⟩),.agg cs.toArray,.int .u64 now] wr λe w'=>∃v,e=.returned v∧zbF w0 r p X S I (n+1) (qM S I A t now) w':=by
 obtain⟨ma,ms,g,VG,x,C,N,d,F,b,l,i,a,q,f,fr⟩:=h
 have o:Kept x wr (λw=>TxQ w t cs):=E.step (fr.mono (λj e=>by rw[e];exact D)) (λj m e=>(b j e).resolve_right (by omega))
 refine(zeE (B.keep0 d.fr) d (by omega) i q f z hS o k).mono λe w' ⟨gv,he,⟨VG',C',hpo',f',hV'⟩,_⟩=>⟨_,he,ma,ms,g,VG',_,C',N+1,hpo',by omega,?_,λj m=>.inl (l j m),?_,?_,q.acc t now,zbm q f t now,fr.trans f' (λj m e=>(a j e).resolve_right (by omega))⟩
 ·intro j e
  rcases e with e|e
  ·exact b j e
  ·rcases hV' j e with e|e
   ·exact b j (d.sub j (.inr (.inr (.inr e))))
   ·exact .inr (le_trans fr.size e)
 ·intro j e
  rcases e with e|e
  ·exact Nat.lt_of_lt_of_le (i j e) f'.size
  ·exact hpo'.hi j (.inr (.inr (.inr e)))
 ·intro j e
  rcases e with e|e|e|e
  ·exact .inl e
  ·exact a j (.inr (.inl e))
  ·exact a j (.inr (.inr (.inl e)))
  ·rcases hV' j e with e|e
   ·exact a j (.inr (.inr (.inr e)))
   ·exact .inr (le_trans fr.size e)
theorem zbF.fr0 {k wr w':World} {A:List zL} (h:zbF w0 k p X S I n A wr) (f:Fr No wr w'):zbF w0 k p X S I n A w':=by
 obtain⟨ma,ms,g,VG,l,C,N,i,m,d,b,c,e,q,a,fr⟩:=h
 exact⟨ma,ms,g,VG,l,C,N,i.fr0 f,m,d,b,λj o=>Nat.lt_of_lt_of_le (c j o) f.size,e,q,a,fr.trans0 f⟩
theorem zbF.fr {a wr:World} {A:List zL} (h:zbF w0 a p X S I n A wr):Fr (λj=>j=p) a wr:=by
 obtain⟨ma,ms,g,VG,k,C,N,i,l,e,c,d,f,m,b,fr⟩:=h
 exact fr
theorem zgl {S:List zn} {I:List zf} {A:List zL} {l:List TxD} {t:TxD} (h:l[n]? =some t) (now:Int):JW S I A (l.take (n+1)) now=qM S I (JW S I A (l.take n) now) t now:=by
 unfold JW
 rw[take_add_one,h,List.foldl_append]
 rfl
theorem zfW {S:List zn} {I:List zf} {A:List zL} {l:List zL} {t:zL} (h:l[n]? =some t):JE S I A (l.take (n+1))=qM S I (JE S I A (l.take n)) t.tx t.added:=by
 unfold JE
 rw[take_add_one,h,List.foldl_append]
 rfl
end
end Go.Proofs.YtbcllfjmabiafaaGreatDoor
