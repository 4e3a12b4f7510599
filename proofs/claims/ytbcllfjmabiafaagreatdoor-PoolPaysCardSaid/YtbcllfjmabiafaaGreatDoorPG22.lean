/- pool: Expire. -/
import Derived.Test.YtbcllfjmabiafaaGreatDoorProg
import Derived.BigRegion
import Derived.Lib.Hide
import Derived.Test.YtbcllfjmabiafaaGreatDoorPG19
import Derived.Test.YtbcllfjmabiafaaGreatDoorPG21
import Derived.Test.YtbcllfjmabiafaaGreatDoorPG14
import Derived.Test.YtbcllfjmabiafaaGreatDoorPG15
import Derived.Test.YtbcllfjmabiafaaGreatDoorPG5
import Derived.Test.YtbcllfjmabiafaaGreatDoorPG2
import Derived.Test.YtbcllfjmabiafaaGreatDoorPG3
set_option linter.unusedVariables false
set_option linter.unusedSimpArgs false
set_option linter.unnecessarySimpa false
set_option linter.all false
set_option maxRecDepth 20000
set_option maxHeartbeats 16000000
namespace Go.Proofs.YtbcllfjmabiafaaGreatDoor
open Go Go.RowKit Go.Maps Go.MapKept
open Go.Proofs.Tryz(prog)
open List(mem_map mem_append mem_of_getElem? length_append mem_filter length_take length_nil filter_congr)
open Nat(le_refl zero_le le_trans sub_self)
variable {a b i n x:Nat}
section
variable {G:List yL}
theorem zf9 {l a:List zf} (ok:GOk G) (h:∀y∈ids G,y∈l↔y∈a):jB G l=jB G a:=by
 unfold jB
 have d:(G.filter λn=>decide (n.id∉l))=G.filter λn=>decide (n.id∉a):=filter_congr λn b=>by
  have:=h n.id (jh.2 ⟨n,b,rfl⟩)
  simp[this]
 rw[d]
 refine List.map_congr_left λn b=>?_
 have c:=(mem_filter.1 b).1
 have:(n.ps.filter λp=>decide (p∉l))=n.ps.filter λp=>decide (p∉a):=filter_congr λp e=>by
  have:=h p (Xc ok (x:=n.id) (by rw[vC ok c];exact e))
  simp[this]
 rw[this]
theorem zhT (l k:List zf):jB (jB G l) k=jB G (l++k):=by
 induction G with
 |nil=>rfl
 |cons n r ih=>
  unfold jB at*
  by_cases h1:n.id∈l
  ·simp only[List.filter_cons,h1,not_true_eq_false,decide_false,Bool.false_eq_true,if_false,mem_append,true_or]
   simpa using ih
  ·by_cases h2:n.id∈k
   ·simp only[List.filter_cons,h1,not_false_eq_true,decide_true,if_true,List.map_cons,h2,not_true_eq_false,decide_false,Bool.false_eq_true,if_false,mem_append,or_true]
    simpa using ih
   ·simp only[List.filter_cons,h1,h2,not_false_eq_true,decide_true,if_true,List.map_cons,mem_append,or_self,List.filter_filter]
    refine List.cons_eq_cons.2 ⟨?_,by simpa using ih⟩
    congr 1
    refine filter_congr λp _=>?_
    by_cases c1:p∈l<;>by_cases c2:p∈k<;>simp[c1,c2]
theorem zkG (ok:GOk G) (l:List zf) {y x:zf} (e:Anc G y x):y∉y9 G l→Anc (jB G (y9 G l)) y x:=by
 induction e with
 |@refl y hi=>exact λh=>.refl (jL.2 ⟨hi,h⟩)
 |@step y z x hi hz e ih=>
  intro h
  have b:z∉y9 G l:=λc=>by
   obtain⟨a,f,d⟩:=qA.1 c
   exact h (qA.2 ⟨a,f,.step hi hz d⟩)
  refine .step (jL.2 ⟨hi,h⟩) ?_ (ih b)
  rw[zhq ok,if_neg h]
  exact mem_filter.2 ⟨hz,by simpa using b⟩
theorem zh3 (ok:GOk G) (l:List zf) (x:zf):jB (jB G (y9 G l)) (y9 (jB G (y9 G l)) [x])=jB G (y9 G (l++[x])):=by
 rw[zhT]
 refine zf9 ok λy _=>?_
 rw[mem_append]
 constructor
 ·rintro(h|h)
  ·obtain⟨a,b,c⟩:=qA.1 h
   exact qA.2 ⟨a,by simp[b],c⟩
  ·obtain⟨a,b,c⟩:=qA.1 h
   exact qA.2 ⟨a,by simp[List.mem_singleton.1 b],zgX ok c⟩
 ·intro h
  by_cases hd:y∈y9 G l
  ·exact .inl hd
  ·obtain⟨a,b,c⟩:=qA.1 h
   rcases mem_append.1 b with b|b
   ·exact .inl (qA.2 ⟨a,b,c⟩)
   ·exact .inr (qA.2 ⟨a,b,zkG ok l c hd⟩)
theorem zh1 {l m:List zf} (h:∀x,x∈l↔x∈m):y9 G l=y9 G m:=by
 unfold y9
 refine filter_congr λx _=>?_
 rw[decide_eq_decide]
 exact⟨λ⟨a,b,c⟩=>⟨a,(h a).1 b,c⟩,λ⟨a,b,c⟩=>⟨a,(h a).2 b,c⟩⟩
theorem zcg {L:List zL} (d:(zR L).Nodup) {a b:zL} (f:a∈L) (h:b∈L) (e:a.id=b.id):a=b:=by
 have c:=ZJ d f
 rw[e,ZJ d h] at c
 exact(Option.some.inj c).symm
theorem zh2:y9 G []=[]:=by unfold y9;rw[List.filter_eq_nil_iff];simp
end
def zcj (now:Nat) (a:Int):Bool:=decide (Ze a 7200≤now)
theorem zdn:(prog.info? 42).map (λi=>(i.zero,i.size))=some (some (.int .u64 0),1):=by kernel_rfl
theorem zgs (a:Nat):∃k:Nat,Ze a 7200=k:=by
 unfold Ze
 split
 ·exact⟨a+7200,by omega⟩
 ·exact⟨18446744073709551615,by omega⟩
def zm3 (w0 w:World) (p ma ms g:Nat) (VG X:Nat→Prop) (C:zf→List Value) (L:List zL) (N now:Nat) (e:Ending) (w':World):Prop:=
 ∃gv,e=.returned gv∧(∃VG',yn w0 w' p ma ms g VG' X C (J4 L now) N∧∀j,VG' j→VG j)∧Fr (poV p ma ms VG) w w'∧w'.ownsRow w.heap.size 45 32 gv (Zc L now).length ((Zc L now).flatMap zd)
section
variable {w0 w:World} {p ma ms g N:Nat} {VG X:Nat→Prop} {C:zf→List Value} {L:List zL}
theorem zjC (h:yn w0 w p ma ms g VG X C L N) (hN:N≤800) (aM:L.Pairwise λa b=>∀q∈z6 a.tx,q∉z6 b.tx) (aQ:∀e∈L,e.tx.ins.length≤1000) (al:∀e∈L,0≤e.added∧e.added<18446744073709551616) {now:Nat} (bm:now<18446744073709551616):
  Calls prog 33 #[.pointer (some ⟨p,0,none⟩),.int .u64 now] w (zm3 w0 w p ma ms g VG X C L N now):=by
 obtain⟨M,hM,hm⟩:=h.am
 have aS:=h.len
 have aL:M.length≤1000:=by
  have:=xB (m:=zR L) hM.nodup (λx I=>by
   obtain⟨⟨k,cs⟩,hk,rfl⟩:=mem_map.1 I
   obtain⟨e,he,hi,-⟩:=(hm k cs).1 hk
   exact mem_map.2 ⟨e,he,hi⟩)
  simp only[zR,List.length_map] at this
  omega
 obtain⟨ai,an,hit⟩:=hM.rangeI YG
 have F0:=Hd ((frN w).alloc (.mapIter (some ma) ai #[] ai))
 have ao:=Hd hit
 have HM:=Hd hm
 have aD:=Hd aL
 have O:=Hd h
 have AP:=Hd aM
 have a7:=Hd aQ
 have ay:=Hd al
 have c0:=h.cells.1
 have zh:=yJ
 have ze:=show ∀w,(zeroValue 120).run prog w=.ok (.agg qJ.toArray) w from QS
 have W:=Hd h.hi
 clear h hM hm hit aM aQ al aL aS
 go_enter Tryz.func33,Tryz.ntmps33
 go_wp2_with (refine vS rfl rfl rfl an ?_)
 generalize hq:w.heap.size=q at*
 generalize w.alloc (.mapIter (some ma) ai #[] ai)=W0 at*
 clear an c0
 try simp only[Act.put,pA,pB,pC]
 go_loopg [5] M.length (λn sv wr=>∃(D R:List (zf×List Value)) (c:List zf),(D++R).Perm M∧R.length=n∧vZ prog 45 xL zbR wr q ma M R∧wr.ownsRow (q+1) 45 32 sv c.length (c.flatMap zd)∧c.length≤D.length∧(∀x,x∈c↔∃e∈L,e.id=x∧zcj now e.added=true∧x∈D.map (·.1))∧Fr No w wr)
 case atStart=>exact⟨[],M,[],List.Perm.refl _,rfl,ao.o,World.ownsRow_nil _ _ _ _,le_refl _,by simp,F0.o⟩
 case round=>
  obtain⟨D,R,c,d,af,hI,H,aw,z,u⟩:=hrel
  have a8:=@Hd (L.length≤800) (le_trans O.o.len hN)
  cases R with
  |nil=>
   have T:=hI.stop
   rw[List.append_nil] at d
   have FR:=Hd u
   have aE:=Hd H
   have OS:=@Hd (∀x,x∈c↔x∈zd8 L now) (λx=>by
    rw[z]
    unfold zd8
    simp only[mem_map,mem_filter]
    constructor
    ·rintro⟨e,he,hi,ho,-⟩
     exact⟨e,⟨he,ho⟩,hi⟩
    ·rintro⟨e,⟨he,ho⟩,hi⟩
     refine⟨e,he,hi,ho,(x,C x),?_,rfl⟩
     exact d.symm.subset ((HM.o x (C x)).2 ⟨e,he,hi,rfl⟩))
   have OL:=@Hd (c.length≤1000) (by have:=d.length_eq;have:=aD.o;omega)
   have HX:=Hd (O.o.fr0 u)
   have aq:=@Hd (∀x∈c,zV x) (λx I=>by
    obtain⟨e,he,hi,-⟩:=(z x).1 I
    rw[←hi]
    exact O.o.ids _ (mem_map.2 ⟨e,he,rfl⟩))
   obtain⟨sa,sc,bl⟩:=H.slice.arg.form
   subst bl
   have ba:=@Hd (y4 wr (.slice sa c.length sc) c) (⟨aq.o,H.slice.arg⟩)
   have DK:=Hd (zjw HX.o.gr (by omega) ba.o OL.o)
   have c2:=HX.o.cells.2.2
   have ar:=@Hd (∀j,VG j→j<q) (λj r=>W.o j (.inr (.inr (.inr r))))
   have NG:=@Hd (p<q∧ma<q∧ms<q) (⟨W.o p (.inl rfl),W.o ma (.inr (.inl rfl)),W.o ms (.inr (.inr (.inl rfl)))⟩)
   have QW:=@Hd (q+1≤wr.heap.size) (by have:=hI.lt;omega)
   clear hI d af H aw z u F0 ao
   go_wp2_with (first|(refine xm rfl rfl rfl (T _) ?_)|(go_at_call 66;refine DK.o.mono ?_;rintro e w3 ⟨gv,rfl,av,f3⟩;have O3:=Hd av;have F3:=Hd f3;obtain⟨ga,gc,bh⟩:=av.slice.arg.form;subst bh;clear av f3))
   clear T c2
   have E:=Hd (HX.o.fr0 F3.o)
   have G0:=@Hd (GC w0 w3 g VG (jB (gOf L) (y9 (gOf L) (c.take 0))) N) (by rw[List.take_zero,zh2,VI];exact E.o.gr)
   have bb:=Hd (zb aE.o F3.o (λ_ _=>id))
   have bc:=Hd F3.o.size
   go_loopw [41] (λiv V=>∃(n:Nat) (aa:Nat→Prop),iv=.int .i64 n∧n≤c.length∧GC w0 V g aa (jB (gOf L) (y9 (gOf L) (c.take n))) N∧(∀j,aa j→VG j)∧Fr VG w3 V) (λiv _=>c.length-(intOf iv).toNat)
   case atStart=>exact⟨0,VG,rfl,zero_le _,G0.o,λ_ h=>h,Fr.refl _ _⟩
   case round=>
    clear G0
    obtain⟨n,aa,rfl,hn,hg,aV,u⟩:=hrel
    rename World=>V
    have HG:=Hd hg
    have Y:=Hd aV
    have FL:=Hd u
    clear hg aV u
    by_cases bj:n<c.length
    ·have i1:(n:Int)<(c.length:Int):=by omega
     obtain⟨x,I⟩:∃x,c[n]? =some x:=⟨_,List.getElem?_eq_getElem bj⟩
     have ab:=Hd (aq.o x (mem_of_getElem? I))
     have XL:=Hd (zu ab.o)
     have aI:=zb bb.o FL.o (λj r e=>by have:=(aE.o.lt j r).1;have:=ar.o j e;omega)
     obtain⟨b,cap,hv,hr,-⟩:=yZ (f:=zd) (by decide) (λy hy=>zu (aq.o y hy)) aI I
     cases hv
     have R1:=Hd hr
     have FA:=Hd ((frN V).alloc (.cells (zd x).toArray 45))
     have RN:=Hd (zq V (zd x) 45)
     have TK:=@Hd (c.take (n+1)=c.take n++[x]) (by rw[List.take_add_one,I];rfl)
     have ol:=OL.o
     have QN:=@Hd (q<V.heap.size) (by have:=QW.o;have:=bc.o;have:=FL.o.size;omega)
     have cp:=@Hd (V.cell? ⟨p,2,none⟩=some (.pointer (some ⟨g,0,none⟩))) (FL.o.cell E.o.cells.2.2 E.o.apart.2.2.2.1)
     clear I aI hr
     have⟨K0,K1⟩:=tZ2
     go_wp2_with ((first|((with_reducible refine zt ?_);clear K0;refine znV rfl rfl rfl R1.o XL.o ?_)|((with_reducible refine zr ?_);clear K1;refine zn3 (w:=V) (cs:=zd x) rfl rfl rfl rfl XL.o zE ?_));go_frame)
     generalize V.heap.size=qn at*
     generalize V.alloc (.cells (zd x).toArray 45)=w5 at*
     have FD:=Hd FA.o.drew
     have CD:=Hd (FD.o.cell cp.o id)
     have RD:=Hd (za RN.o (frN w5).drew id)
     have KD:=Hd (zjz (HG.o.fr0 FD.o) (by omega) ab.o)
     refine wrLx [ff,ff,ff,ff,ff,tt] (λw'=>w'.cell? ⟨p,2,none⟩=some (.pointer (some ⟨g,0,none⟩))∧w'.rangeAt qn 0 (zd x)) ?_ (λK hK=>?_)
     ·exact⟨CD.o,RD.o⟩
     generalize w5.drew=w6 at*
     repeat((first|(refine zk rfl ?_;constructor;constructor;(focus(first|exact zn0 rfl (λw h=>h.2) XL.o|(rintro w' ⟨s1,s2⟩;exact goS))))|(refine zl rfl ?_));try simp only[Act.put,pA,pB,pC])
     (refine zM rfl (λK' hK'=>?_))
     go_simp
     refine KD.o.mono ?_
     rintro e w7 ⟨v7,rfl,V7,au,aO,aU,-⟩
     rw[zh3 O.o.gr.gok,←TK.o] at au
     have G7:=Hd au
     have Q:=Hd aO
     have bg:=Hd aU
     clear au aO aU
     refine nXt hK' ?_ λhS=>?_
     ·exact⟨Q.o.cell CD.o (λe=>E.o.apart.2.2.2.1 (Y.o _ e)),za RD.o Q.o (λe=>by have:=ar.o _ (Y.o _ e);have:=QN.o;omega)⟩
     try simp only[Act.put,pA,pB,pC]
     repeat((first|(refine zk rfl ?_;constructor;constructor;(focus(first|(rintro w' ⟨s1,s2⟩;exact goS))))|(refine zl rfl ?_));try simp only[Act.put,pA,pB,pC])
     refine zN (hK.out _ _ ?_)
     go_wp2_with fail
     go_roundw
     case rel=>exact⟨n+1,V7,by go_num,by omega,G7.o,λj r=>Y.o j (bg.o j r),(FL.o.trans0 FD.o).trans Q.o (λj _ e=>Y.o j e)⟩
     case measure=>simp[intOf];omega
    ·have i1:¬(n:Int)<(c.length:Int):=by omega
     obtain rfl:n=c.length:=by omega
     have aJ:=Hd (Yt O.o.gr.gok c)
     have GE:=@Hd (GC w0 V g aa (gOf (xb L (y9 (gOf L) c))) N) (by rw[←zbT aJ.o];have:=HG.o;rw[List.take_length] at this;exact this)
     have M8:=@Hd (JR w0 V p ma ms g X C L) (E.o.m.frV FL.o ⟨E.o.apart.2.2.2.1,E.o.apart.2.2.2.2.1,E.o.apart.2.2.2.2.2⟩ E.o.gr.lo (λj r=>E.o.sub j (.inr (.inr (.inr r)))) (λ_ _ h=>h) E.o.m.subX)
     have O8:=Hd (zb O3.o FL.o (λj r e=>by have:=(O3.o.lt j r).1;have:=ar.o j e;have:=QW.o;omega))
     have aW:=@Hd (∀y∈y9 (gOf L) c,zV y) (λy hy=>O.o.gr.okId y ((xh c).subset hy))
     have DL:=@Hd ((y9 (gOf L) c).length≤100000) (by have aS:=a8.o;have:=xB (O.o.gr.gok.nd.sublist (xh c)) (λx I=>(xh c).subset I);rw[yO] at this;unfold zR at this;rw[List.length_map] at this;omega)
     have HD:=Hd (zjA M8.o AP.o O.o.nd a7.o (v:=.slice ga (y9 (gOf L) c).length gc) (l:=y9 (gOf L) c) (λw' f=>y4.own (zb O8.o f (λj r e=>by have:=(O8.o.lt j r).1;have:=QW.o;have:=NG.o;rcases e with e|e<;>omega)) aW.o) (λy hy=>by rw[←yO];exact(xh c).subset hy) (O.o.gr.gok.nd.sublist (xh c)) DL.o)
     have EG:=@Hd (Zc L now=y9 (gOf L) c) ((zh1 OS.o).symm)
     have aZ:=@Hd (Fr VG w V) ((FR.o.trans0 F3.o).of0.trans FL.o (λ_ _ h=>h))
     have QE:=Hd hq
     generalize bn:y9 (gOf L) c=DD at*
     have K0:=tru
     go_wp2_with (clear K0;go_at_call 68;refine HD.o.mono ?_;rintro e' w9 ⟨rfl,aT,aP⟩;have M9:=Hd aT;have F9:=Hd aP;clear aT aP;go_frame)
     go_ret
     refine⟨_,by rfl,⟨aa,?_,Y.o⟩,?_,?_⟩
     ·unfold J4
      rw[EG.o]
      exact M9.o.at_ (GE.o.frV F9.o (λj r e=>by rcases e with e|e;(rw[e] at r;exact E.o.apart.2.2.2.2.1 (Y.o _ r));(rw[e] at r;exact E.o.apart.2.2.2.2.2 (Y.o _ r))) (λj e=>by have:=O.o.lo3;rcases e with e|e<;>omega)) ⟨λe=>E.o.apart.2.2.2.1 (Y.o _ e),λe=>E.o.apart.2.2.2.2.1 (Y.o _ e),λe=>E.o.apart.2.2.2.2.2 (Y.o _ e)⟩ (λj r=>O.o.sub j (r.imp_right (λh=>h.imp_right (λh=>h.imp_right (Y.o j)))))
     ·exact(aZ.o.mono (λj e=>.inr (.inr (.inr e)))).trans F9.o (λj _ e=>by rcases e with e|e;exact .inr (.inl e);exact .inr (.inr (.inl e)))
     ·rw[EG.o]
      exact yu (zb O8.o F9.o (λj r e=>by have:=(O8.o.lt j r).1;have:=QW.o;have:=NG.o;rcases e with e|e<;>omega)) (by have:=QE.o;have:=QW.o;omega)
  |cons x0 R0=>
   obtain⟨A,x,B,U,aj,T,aK,f2,ae⟩:=hI.step (by simp) 0
   have I:x∈M:=d.subset (by rw[aj];simp)
   obtain⟨o,S,ak,aN⟩:=(HM.o x.1 x.2).1 I
   have aA:=Hd S
   have ab:=@Hd (zV x.1) (by rw[←ak];exact O.o.ids _ (mem_map.2 ⟨o,S,rfl⟩))
   have XL:=Hd (zu ab.o)
   obtain⟨ia,ic,oa,oc,s⟩:=(O.o.data o S).now.form
   rw[ak,←aN] at s
   have ax:((D++[x])++(A++B)).Perm M:=by
    refine List.Perm.trans ?_ d
    rw[aj,List.append_assoc]
    exact List.Perm.append_left _ (show(x::(A++B)).Perm (A++x::B) from List.perm_middle.symm)
   obtain⟨xk,xv⟩:=x
   simp only at s ab XL ak
   subst ak
   obtain⟨t1,t2,t3,t4,t5⟩:=zcF U (T1:=45) (T2:=120) (z1:=(zd yT).toArray) (z2:=qJ.toArray) (c1:=zd o.id) (c2:=xv) (by rw[XL.o];rfl) (by rw[s];rfl)
   obtain⟨ad,had⟩:∃ad:Nat,o.added=ad:=Int.eq_ofNat_of_zero_le (ay.o o S).1
   have AD:=@Hd (ad<18446744073709551616) (by have:=(ay.o o S).2;omega)
   have a1:=Hd had
   rw[had] at s
   have E6:=@Hd (xv.length=6) (by rw[s];rfl)
   have E1:=@Hd (∀v∈xv,v.oneCell'=true) (by
    rw[s]
    intro v hv
    simp only[List.mem_cons,List.not_mem_nil,or_false] at hv
    rcases hv with rfl|rfl|rfl|rfl|rfl|rfl<;>rfl)
   have C5:=@Hd (((((U.alloc (.cells (zd yT).toArray 45)).alloc (.cells qJ.toArray 120)).setCells U.heap.size 0 (zd o.id)).setCells (U.heap.size+1) 0 xv).cell? ⟨U.heap.size+1,5,none⟩=some (.int .u64 (ad:Int))) (by
    have:=t4 5 (.int .u64 (ad:Int)) (by rw[s];rfl)
    simpa using this)
   have T1:=Hd t1
   have T2:=Hd t2
   have T3:=Hd t3
   have aX:=@Hd (Fr No w U) (u.trans f2 (λi hi e=>by omega))
   have F5:=Hd (aX.o.trans0 t5)
   have aC:=Hd (aK.keep t5 id id)
   have MQ:=@Hd (ma<q) (by exact W.o ma (.inr (.inl rfl)))
   have aH:=Hd (zb (zb H f2 (λj r e=>by have:=(H.lt j r).1;omega)) t5 (λ_ _=>id))
   have HP:=Hd ax
   have HR:=@Hd ((A++B).length<gk) (by rw[←af,aj];simp)
   have ag:=Hd aw
   have az:=@Hd (D.length≤1000) (by have h1:=ax.length_eq;have h2:=aD.o;simp only[length_append,List.length_singleton] at h1;omega)
   have aG:=Hd z
   have bd:=@Hd (q+1≤((((U.alloc (.cells (zd yT).toArray 45)).alloc (.cells qJ.toArray 120)).setCells U.heap.size 0 (zd o.id)).setCells (U.heap.size+1) 0 xv).heap.size) (by have h1:=hI.lt;have h2:=f2.size;have h3:=t5.size;omega)
   obtain⟨kl,aR⟩:=zgs ad
   have KL:=Hd aR
   clear hI aK u I ax t1 t2 t3 t4 t5 aj d af f2 H z aw S aN s had aR F0 ao
   unfold xL zbR at T ae
   have aB:=@Hd (zcj now o.added=decide (kl≤now)) (by
    unfold zcj
    rw[a1.o,KL.o,decide_eq_decide]
    omega)
   go_upto_region 7 with(first|refine xm rfl rfl rfl T ?_|refine qU rfl rfl rfl ae ?_|(refine zi rfl (zU (ty:=45) (b:=U.heap.size) rfl rfl rfl T1.o (by rw[XL.o];exact yj) zE) ?_)|(refine zi rfl (zU (ty:=120) (b:=U.heap.size+1) rfl (by show Value.pointer (some ⟨_,0,none⟩)=_;simp) rfl T2.o (by rw[E6.o];exact qm) E1.o) ?_))
   generalize bk:U.heap.size=q2 at*
   generalize (((U.alloc (.cells (zd yT).toArray 45)).alloc (.cells qJ.toArray 120)).setCells q2 0 (zd o.id)).setCells (q2+1) 0 xv=w5 at*
   clear T ae bk
   have F6:=Hd ((frN w5).alloc (.cells #[.int .u64 7200] 42))
   have LT:=Hd (zij ad 7200 AD.o (by decide) (w5.alloc (.cells #[.int .u64 7200] 42)) (b:=w5.heap.size) (by simp))
   have aF:Ze (ad:Int) ((7200:Nat):Int)=(kl:Int):=KL.o
   rw[aF] at LT
   clear aF
   have c5:=C5.o
   by_cases hold:kl≤now
   ·have i2:(kl:Int)≤(now:Int):=by omega
    have OT:=@Hd (zcj now o.added=true) (by rw[aB.o];exact decide_eq_true hold)
    clear hold
    go_upto_if 28 with(first|(refine zg rfl (JU (t:=170) (v:=.int .u64 7200) rfl rfl zes zdn rfl (by decide) (by decide) rfl) ?_)|(go_at_call 65;refine LT.o.mono ?_;rintro e w7 ⟨rfl,f7⟩;have Q:=Hd (F6.o.trans0 f7);clear f7))
    have aY:=Hd (F5.o.trans0 Q.o)
    have bf:=@Hd (q+1≤w7.heap.size) (le_trans bd.o Q.o.size)
    have ah:=Hd (zb aH.o Q.o (λ_ _=>id))
    obtain⟨v8,w8,b1,b2,b3,-,b5⟩:=yA (P:=prog) w7 (q+1) 37 37 45 32 32 _ y7 xA rfl (by decide) ah.o (zd o.id) XL.o zE (by have:=ag.o;have:=az.o;omega) (by have:=ag.o;have:=az.o;unfold maxLen;omega) bf.o
    have B1:=Hd b1
    have O8:=@Hd (w8.ownsRow (q+1) 45 32 v8 (c++[o.id]).length ((c++[o.id]).flatMap zd)) (by rw[length_append,List.flatMap_append];simpa using b2)
    have F8:=@Hd (Fr No w w8) (aY.o.trans b3 (λj r e=>by have:=(ah.o.lt j e).1;have:=hq;omega))
    have R7:=Hd (za T3.o Q.o id)
    have a6:=Hd ((aC.o.keep Q.o id id).keep b3 (λe=>by have:=(ah.o.lt _ e).1;have:=MQ.o;omega) (λe=>by have:=(ah.o.lt _ e).1;omega))
    have Z:=@Hd (∀x,x∈c++[o.id]↔∃e∈L,e.id=x∧zcj now e.added=true∧x∈(D++[(o.id,xv)]).map (·.1)) (λx=>by
     rw[mem_append,aG.o,List.map_append,List.mem_singleton]
     constructor
     ·rintro(⟨e,h1,h2,h3,F⟩|h)
      ·exact⟨e,h1,h2,h3,List.mem_append_left _ F⟩
      ·exact⟨o,aA.o,h.symm,OT.o,List.mem_append_right _ (by rw[h];simp)⟩
     ·rintro⟨e,h1,h2,h3,F⟩
      rcases mem_append.1 F with F|F
      ·exact .inl ⟨e,h1,h2,h3,F⟩
      ·exact .inr (by simpa using F))
    clear b1 b2 b3 b5
    have⟨K0,K1,K2⟩:=tZ3
    go_wp2_with (((with_reducible refine zt ?_);first|(clear K0;refine znV rfl rfl rfl R7.o XL.o ?_)|(clear K1;refine zg rfl (zK (t:=37) (cs:=zd o.id) rfl rfl y7 xD rfl (by decide) (by decide) XL.o) ?_)|(clear K2;at_builtin;refine zJ rfl rfl rfl rfl B1.o ?_));go_frame)
    go_roundg (A++B).length
    case measure=>exact HR.o
    case rel=>exact⟨D++[(o.id,xv)],A++B,c++[o.id],HP.o,rfl,a6.o,O8.o,by have:=ag.o;simp;omega,Z.o,F8.o⟩
   ·have i2:¬(kl:Int)≤(now:Int):=by omega
    have OT:=@Hd (zcj now o.added=false) (by rw[aB.o];exact decide_eq_false hold)
    have Z:=@Hd (∀x,x∈c↔∃e∈L,e.id=x∧zcj now e.added=true∧x∈(D++[(o.id,xv)]).map (·.1)) (λx=>by
     rw[aG.o,List.map_append]
     constructor
     ·rintro⟨e,h1,h2,h3,F⟩
      exact⟨e,h1,h2,h3,List.mem_append_left _ F⟩
     ·rintro⟨e,h1,h2,h3,F⟩
      rcases mem_append.1 F with F|F
      ·exact⟨e,h1,h2,h3,F⟩
      ·exfalso
       have I:x=o.id:=by simpa using F
       have:e=o:=zcg O.o.nd h1 aA.o (by rw[h2,I])
       rw[this,OT.o] at h3
       cases h3)
    clear hold
    have⟨K0,K1⟩:=tZ2
    go_wp2_with ((first|((with_reducible refine zt ?_);clear K0;refine zg rfl (JU (t:=170) (v:=.int .u64 7200) rfl rfl zes zdn rfl (by decide) (by decide) rfl) ?_)|(clear K1;go_at_call 65;refine LT.o.mono ?_;rintro e w7 ⟨rfl,f7⟩;have Q:=Hd (F6.o.trans0 f7);clear f7));go_frame)
    go_roundg (A++B).length
    case measure=>exact HR.o
    case rel=>exact⟨D++[(o.id,xv)],A++B,c,HP.o,rfl,aC.o.keep Q.o id id,zb aH.o Q.o (λ_ _=>id),by have:=ag.o;simp;omega,Z.o,F5.o.trans0 Q.o⟩
end
noncomputable def ZY (L:List zL) (T:List zf) (n:Nat):List zL:=(L.take n).filter λe=>decide (e.id∉T∧zd9 L T e.id=1)
theorem ziE (L:List zL) (T:List zf):ZY L T 0=[]:=by simp[ZY]
theorem zkb (L:List zL) (T:List zf):ZY L T L.length=YB L T:=by simp[ZY,YB]
theorem ziD {L:List zL} {T:List zf} {e:zL} (h:L[n]? =some e):ZY L T (n+1)=if e.id∉T∧zd9 L T e.id=1 then ZY L T n++[e] else ZY L T n:=by
 unfold ZY
 rw[List.take_add_one,h,List.filter_append]
 by_cases c:e.id∉T∧zd9 L T e.id=1
 ·rw[if_pos c];simp[c]
 ·rw[if_neg c]
  have:List.filter (λe=>decide (e.id∉T∧zd9 L T e.id=1)) (some e).toList=[]:=by
   show List.filter _ [e]=[]
   rw[List.filter_cons_of_neg (by simpa using c)]
   rfl
  rw[this,List.append_nil]
theorem zkc (L:List zL) (T:List zf) (n:Nat):(ZY L T n).length≤n:=by
 unfold ZY
 exact le_trans (List.length_filter_le _ _) (by rw[length_take];omega)
def Vn (U T:List zf) (n:Nat):Nat:=((U.take n).filter λu=>decide (u∉T)).length
theorem zis {U T:List zf} {u:zf} (h:U[n]? =some u):Vn U T (n+1)=Vn U T n+if u∈T then 0 else 1:=by
 unfold Vn
 rw[List.take_add_one,h,List.filter_append,length_append]
 congr 1
 by_cases c:u∈T
 ·rw[if_pos c];simp[c]
 ·rw[if_neg c];simp[c]
theorem zk8 (U T:List zf) (n:Nat):Vn U T n≤n:=by
 unfold Vn
 exact le_trans (List.length_filter_le _ _) (by rw[length_take];omega)
def Za (w:World) (b:Nat) (T:List zf):Prop:=∃M,Vv w b M∧∀k c,(k,c)∈M↔c=1∧k∈T
section
variable {w0 w:World} {p ma ms g N:Nat} {VG X:Nat→Prop} {C:zf→List Value} {L:List zL}
theorem zlj (h:yn w0 w p ma ms g VG X C L N) (hN:N≤800) {tb:Nat} {T:List zf} (ht:Za w tb T):
  Calls prog 54 #[.pointer (some ⟨p,0,none⟩),.map (some tb)] w λe w'=>∃v,e=.returned v∧RowK w w' v (zR (YB L T)):=by
 have zh:=yJ
 have HH:=Hd h
 obtain⟨M,hM,hm⟩:=ht
 have HM:=Hd hM
 have HS:=Hd hm
 have ai:=@Hd (L.length≤800) (le_trans h.len hN)
 have AK:=Hd (zgW h.gr (by omega))
 have c2:=h.cells.2.2
 have Z:=Hd h.ids
 clear h hM hm
 go_enter Tryz.func54,Tryz.ntmps54
 go_wp2_with (go_at_call 47;refine AK.o.mono ?_;rintro e w1 ⟨v1,rfl,x,f1⟩;rw[yO] at x;have O1:=Hd x;have F1:=Hd f1;obtain⟨ia,ic,aq⟩:=x.slice.arg.form;subst aq;rw[xd] at O1⊢;clear x f1)
 clear c2
 have an:=Hd F1.o.size
 go_loopw [17,5] (λiv lv wr=>∃n:Nat,iv=.int .i64 n∧n≤L.length∧wr.ownsRow w1.heap.size 45 32 lv (ZY L T n).length ((ZY L T n).flatMap λe=>zd e.id)∧Fr No w1 wr) (λiv _ _=>L.length-(intOf iv).toNat)
 case atStart=>exact⟨0,rfl,zero_le _,by rw[ziE];exact World.ownsRow_nil _ _ _ _,Fr.refl _ _⟩
 case round=>
  obtain⟨n,rfl,hn,H,m⟩:=hrel
  have B:=Hd H
  have W:=Hd m
  obtain⟨la,lc,aw⟩:=H.slice.arg.form
  subst aw
  clear H m
  have au:=ai.o
  by_cases av:n<L.length
  ·have i1:(n:Int)<(L.length:Int):=by omega
   obtain⟨e,he⟩:∃e,L[n]? =some e:=⟨_,List.getElem?_eq_getElem av⟩
   have F:(zR L)[n]? =some e.id:=by unfold zR;rw[List.getElem?_map,he];rfl
   have z:=Hd (Z.o e.id (mem_of_getElem? F))
   have i:=Hd (zu z.o)
   have ho:=zb O1.o W.o (λ_ _=>id)
   obtain⟨b,cap,hv,hr,-⟩:=yZ (f:=zd) (by decide) (λy hy=>zu (Z.o y hy)) ho F
   cases hv
   have R1:=Hd hr
   have S:=Hd ((frN wr).alloc (.cells (zd e.id).toArray 45))
   have RN:=Hd (zq wr (zd e.id) 45)
   have RS:=Hd (ziD (T:=T) he)
   have FW:=Hd (F1.o.trans0 W.o)
   have Q:=Hd (zbv (HM.o.keep (FW.o.trans0 S.o) id) HS.o z.o)
   clear F ho hr he
   by_cases hin:e.id∈T
   ·have l:=@Hd (ZY L T (n+1)=ZY L T n) (by rw[RS.o,if_neg (λc=>c.1 hin)])
    rw[if_pos hin] at Q
    unfold xL at Q
    clear RS hin
    have⟨q,r,s,D⟩:=tZ4
    go_wp2_with ((first|((with_reducible refine zt ?_);first|(clear q;refine znV rfl rfl rfl R1.o i.o ?_)|(clear s;refine znV rfl rfl rfl RN.o i.o ?_)|(clear D;refine zg rfl (zY (t:=129) rfl rfl rfl Q.o) ?_))|((with_reducible refine zr ?_);clear r;refine zn3 (w:=wr) (cs:=zd e.id) rfl rfl rfl rfl i.o zE ?_));go_frame)
    go_roundw
    case rel=>exact⟨n+1,by go_num,by omega,by rw[l.o];exact zb B.o S.o (λ_ _=>id),W.o.trans0 S.o⟩
    case measure=>simp[intOf];omega
   ·rw[if_neg hin] at Q
    unfold xL at Q
    have aj:=Hd hin
    clear hin
    have⟨q,r,s,D⟩:=tZ4
    go_wp2_with ((first|((with_reducible refine zt ?_);first|(clear q;refine znV rfl rfl rfl R1.o i.o ?_)|(clear s;refine znV rfl rfl rfl RN.o i.o ?_)|(clear D;refine zg rfl (zY (t:=129) rfl rfl rfl Q.o) ?_))|((with_reducible refine zr ?_);clear r;refine zn3 (w:=wr) (cs:=zd e.id) rfl rfl rfl rfl i.o zE ?_));go_frame)
    generalize aA:wr.heap.size=qn at*
    generalize wr.alloc (.cells (zd e.id).toArray 45)=wa at*
    have FD:=Hd ((FW.o.trans0 S.o).drew)
    have CD:=Hd ((HH.o.fr0 FD.o).cells.2.2)
    have RD:=Hd (za RN.o (frN wa).drew id)
    have V:=Hd (S.o.drew)
    refine wrLx [ff,ff,ff,ff,ff,tt,tt,ff,ff] (λw'=>w'.cell? ⟨p,2,none⟩=some (.pointer (some ⟨g,0,none⟩))∧w'.rangeAt qn 0 (zd e.id)) ?_ (λK hK=>?_)
    ·exact⟨CD.o,RD.o⟩
    generalize wa.drew=wd at*
    repeat((first|(refine zk rfl ?_;constructor;constructor;(focus(first|exact zn0 rfl (λw h=>h.2) i.o|(rintro w' ⟨s1,s2⟩;exact goS))))|(refine zl rfl ?_));try simp only[Act.put,pA,pB,pC])
    (refine zM rfl (λK' hK'=>?_))
    refine yD (zK (t:=37) (cs:=zd e.id) rfl rfl y7 xD rfl (by decide) (by decide) i.o) ?_
    have FB:=Hd ((frN wd).alloc (.cells (zd e.id).toArray 45))
    have IB:=@Hd (y4 (wd.alloc (.cells (zd e.id).toArray 45)) (.slice (some ⟨wd.heap.size,0,none⟩) 1 1) [e.id]) (zeW wd z.o)
    have UK:=Hd (zlI (HH.o.fr0 (FD.o.trans0 FB.o)).gr (by omega) IB.o (by simp))
    refine nXt hK' ?_ λhS=>?_
    ·exact⟨FB.o.cell CD.o id,za RD.o FB.o id⟩
    try simp only[Act.put,pA,pB,pC]
    repeat((first|(refine zk rfl ?_;constructor;constructor;(focus(first|(rintro w' ⟨s1,s2⟩;exact goS))))|(refine zl rfl ?_));try simp only[Act.put,pA,pB,pC])
    (refine zM rfl (λK' hK'=>?_))
    go_simp
    refine UK.o.mono ?_
    rintro e' w5 ⟨uv,rfl,I,f5⟩
    obtain⟨ua,uc,ax⟩:=I.slice.arg.form
    subst ax
    have U5:=Hd I
    have O:=Hd (FB.o.trans0 f5)
    clear I f5
    refine nXt hK' ?_ λhS=>?_
    ·exact⟨O.o.cell CD.o id,za RD.o O.o id⟩
    try simp only[Act.put,pA,pB,pC]
    repeat((first|(refine zk rfl ?_;constructor;constructor;(focus(first|(rintro w' ⟨s1,s2⟩;exact goS))))|(refine zl rfl ?_));try simp only[Act.put,pA,pB,pC])
    refine zN (hK.out _ _ ?_)
    have ab:=@Hd (∀y∈upS (gOf L) [e.id],zV y) (λy hy=>HH.o.gr.okId y ((qk _).subset hy))
    have ao:=@Hd ((upS (gOf L) [e.id]).length≤800) (by have:=(qk (G:=gOf L) [e.id]).length_le;rw[yO,xd] at this;exact le_trans this au)
    have aa:=@Hd (zd9 L T e.id=Vn (upS (gOf L) [e.id]) T (upS (gOf L) [e.id]).length) (by unfold zd9 Vn;rw[List.take_length])
    generalize upS (gOf L) [e.id]=U at*
    have af:=@Hd (Fr No w w5) (FD.o.trans0 O.o)
    have R5:=Hd (za RD.o O.o id)
    have ak:=Hd (zb B.o (V.o.trans0 O.o) (λ_ _=>id))
    have ah:=Hd (W.o.trans0 (V.o.trans0 O.o))
    go_wp2_with fail
    go_loopw [33,8] (λkv ov d=>∃k:Nat,kv=.int .i64 k∧k≤U.length∧ov=.int .i64 (Vn U T k:Nat)∧Fr No w5 d) (λkv _ _=>U.length-(intOf kv).toNat)
    case atStart=>exact⟨0,rfl,zero_le _,by simp[Vn],Fr.refl _ _⟩
    case round=>
     obtain⟨k,rfl,hk,rfl,m⟩:=hrel
     rename World=>d
     have a:=Hd m
     clear m
     have ul:=ao.o
     have ok:=zk8 U T k
     by_cases ar:k<U.length
     ·have i2:(k:Int)<(U.length:Int):=by omega
      obtain⟨u,hu⟩:∃u,U[k]? =some u:=⟨_,List.getElem?_eq_getElem ar⟩
      have ad:=Hd (ab.o u (mem_of_getElem? hu))
      have R:=Hd (zu ad.o)
      have ho:=zb U5.o a.o (λ_ _=>id)
      obtain⟨b3,az,ay,ae,-⟩:=yZ (f:=zd) (by decide) (λy hy=>zu (ab.o y hy)) ho hu
      cases ay
      have R3:=Hd ae
      have FU:=Hd ((frN d).alloc (.cells (zd u).toArray 45))
      have RU:=Hd (zq d (zd u) 45)
      have Y:=Hd (zbv (HM.o.keep ((af.o.trans0 a.o).trans0 FU.o) id) HS.o ad.o)
      have OS:=Hd (zis (T:=T) hu)
      unfold xL at Y
      have ro:IntKind.i64.wrap ((Vn U T k:Nat)+1:Int)=((Vn U T k+1:Nat):Int):=by rw[IntKind.wrap_i64];omega
      generalize Vn U T k=o at*
      clear hu ho ae
      by_cases huT:u∈T
      ·rw[if_pos huT] at Y OS
       clear huT ro
       have⟨q,r,s,D⟩:=tZ4
       go_wp2_with ((first|((with_reducible refine zt ?_);first|(clear q;refine znV rfl rfl rfl R3.o R.o ?_)|(clear s;refine znV rfl rfl rfl RU.o R.o ?_)|(clear D;refine zg rfl (zY (t:=129) rfl rfl rfl Y.o) ?_))|((with_reducible refine zr ?_);clear r;refine zn3 (w:=d) (cs:=zd u) rfl rfl rfl rfl R.o zE ?_));go_frame)
       go_roundw
       case rel=>exact⟨k+1,by go_num,by omega,by rw[OS.o];rfl,a.o.trans0 FU.o⟩
       case measure=>simp[intOf];omega
      ·rw[if_neg huT] at Y OS
       clear huT
       have⟨q,r,s,D⟩:=tZ4
       go_wp2_with ((first|((with_reducible refine zt ?_);first|(clear q;refine znV rfl rfl rfl R3.o R.o ?_)|(clear s;refine znV rfl rfl rfl RU.o R.o ?_)|(clear D;refine zg rfl (zY (t:=129) rfl rfl rfl Y.o) ?_))|((with_reducible refine zr ?_);clear r;refine zn3 (w:=d) (cs:=zd u) rfl rfl rfl rfl R.o zE ?_));go_frame)
       go_roundw
       case rel=>exact⟨k+1,by go_num,by omega,by rw[OS.o];first|rfl|go_num,a.o.trans0 FU.o⟩
       case measure=>simp[intOf];omega
     ·have i2:¬(k:Int)<(U.length:Int):=by omega
      obtain rfl:k=U.length:=by omega
      have A:=Hd (ah.o.trans0 a.o)
      have E:=Hd (zb ak.o a.o (λ_ _=>id))
      have al:=Hd (za R5.o a.o id)
      by_cases h1:Vn U T U.length=1
      ·have j1:((Vn U T U.length:Nat):Int)=1:=by omega
       have l:=@Hd (ZY L T (n+1)=ZY L T n++[e]) (by rw[RS.o,if_pos ⟨aj.o,by rw[aa.o];exact h1⟩])
       have RL:=@Hd ((ZY L T n).length≤800) (le_trans (zkc L T n) (by omega))
       clear h1
       obtain⟨v8,w8,b1,b2,b3,-,b5⟩:=yA (P:=prog) d w1.heap.size 37 37 45 32 32 _ y7 xA rfl (by decide) E.o (zd e.id) i.o zE (by have:=RL.o;omega) (by have:=RL.o;unfold maxLen;omega) A.o.size
       have B1:=Hd b1
       have O8:=@Hd (w8.ownsRow w1.heap.size 45 32 v8 (ZY L T (n+1)).length ((ZY L T (n+1)).flatMap λe=>zd e.id)) (by rw[l.o,length_append,List.flatMap_append];simpa using b2)
       have F8:=@Hd (Fr No w1 w8) (A.o.trans b3 (λj hj e=>by have:=(E.o.lt j e).1;omega))
       clear b1 b2 b3 b5
       have⟨q,r,s⟩:=tZ3
       go_wp2_with (((with_reducible refine zt ?_);first|(clear q;refine znV rfl rfl rfl al.o i.o ?_)|(clear r;refine zg rfl (zK (t:=37) (cs:=zd e.id) rfl rfl y7 xD rfl (by decide) (by decide) i.o) ?_)|(clear s;at_builtin;refine zJ rfl rfl rfl rfl B1.o ?_));go_frame)
       go_roundw
       case rel=>exact⟨n+1,by go_num,by omega,O8.o,F8.o⟩
       case measure=>simp[intOf];omega
      ·have j1:¬((Vn U T U.length:Nat):Int)=1:=by omega
       have l:=@Hd (ZY L T (n+1)=ZY L T n) (by rw[RS.o,if_neg (λc=>h1 (by rw[←aa.o];exact c.2))])
       clear h1
       go_wp2_with fail
       go_roundw
       case rel=>exact⟨n+1,by go_num,by omega,by rw[l.o];exact E.o,A.o⟩
       case measure=>simp[intOf];omega
  ·have i1:¬(n:Int)<(L.length:Int):=by omega
   obtain rfl:n=L.length:=by omega
   have ag:=@Hd (RowK w wr (.slice la (ZY L T L.length).length lc) (zR (YB L T))) (⟨by rw[xd];unfold zR;rw[List.flatMap_map,←zkb];exact yu B.o an.o,F1.o.trans0 W.o⟩)
   go_wp2_with fail
   go_ret
   exact⟨_,by rfl,ag.o⟩
end
def nV (n:Nat):Value:=.int .i64 (n:Int)
theorem zhB {α:Type} (P Q R:List α) (x y:α):((P++x::(Q++y::R)).set P.length y).set (P.length+(Q.length+1)) x=P++y::(Q++x::R):=by
 rw[List.set_append_right _ _ (le_refl _),sub_self,List.set_cons_zero,List.set_append_right _ _ (by omega),Nat.add_sub_cancel_left,List.set_cons_succ,List.set_append_right _ _ (le_refl _),sub_self,List.set_cons_zero]
theorem zaC {α:Type} (P S:List α) (x:α):(P++x::S)[P.length]? =some x:=by simp
theorem zbq {α:Type} (P Q R:List α) (x y:α):(P++x::(Q++y::R))[P.length+(Q.length+1)]? =some y:=by
 rw[List.getElem?_append_right (by omega),Nat.add_sub_cancel_left,List.getElem?_cons_succ,List.getElem?_append_right (le_refl _),sub_self]
 rfl
def IR (w:World) (B g n cap:Nat) (D:List Nat):Prop:=w.ownsRow B 3 1 (.slice (some ⟨g,0,none⟩) n cap) n (D.map nV)
section
variable {w w':World} {B g n cap:Nat} {D:List Nat}
theorem IR.len (h:IR w B g n cap D):D.length=n:=by
 have:=h.1
 simpa using this
theorem IR.keep (h:IR w B g n cap D) {U:Nat→Prop} (f:Fr U w w') (a:¬U g):IR w' B g n cap D:=zb h f (λj b e=>by
 have:g=j:=by simpa[Value.ownBlock] using b
 exact a (by rw[this];exact e))
theorem IR.at_ (h:IR w B g n cap D) (d:D[i]? =some x):w.cell? ⟨g,i,none⟩=some (.int .i64 (x:Int)):=by
 have a:=h
 unfold IR at a
 rw[List.map_eq_flatMap] at a
 obtain⟨j,b,e,c,-⟩:=yZ (f:=λi=>[nV i]) (by decide) (λ_ _=>rfl) a d
 injection e with e1 e2 e3
 injection e1 with e1
 injection e1 with e4
 subst e4
 have:=c 0 _ rfl
 simpa[nV] using this
theorem IR.frz (h:IR w B g n cap D) (i:Nat):w.frozen? ⟨g,i,none⟩=false:=World.ownsRow.frozenAt h _
theorem IR.set (h:IR w B g n cap D) (hi:i<n) (x:Nat):IR (w.setCell ⟨g,i,none⟩ (nV x)) B g n cap (D.set i x):=by
 have a:=vP h i (cs:=[nV x]) (by simp;omega)
 have b:setM (D.map nV) i [nV x]=(D.set i x).map nV:=by
  rw[List.map_set]
  rfl
 rw[b] at a
 exact a
structure SwF (w:World) (B g n cap i j x y:Nat) (D:List Nat):Prop where
 ci:w.cell? ⟨g,i,none⟩=some (.int .i64 (x:Int))
 cj:w.cell? ⟨g,j,none⟩=some (.int .i64 (y:Int))
 fi:w.frozen? ⟨g,i,none⟩=false
 fj:w.frozen? ⟨g,j,none⟩=false
 row:IR ((w.setCell ⟨g,i,none⟩ (nV y)).setCell ⟨g,j,none⟩ (nV x)) B g n cap ((D.set i y).set j x)
 fr:Fr (λk=>k=g) w ((w.setCell ⟨g,i,none⟩ (nV y)).setCell ⟨g,j,none⟩ (nV x))
 li:i<n
 lj:j<n
theorem IR.swap (h:IR w B g n cap D) {i j x y:Nat} (a:D[i]? =some x) (b:D[j]? =some y):SwF w B g n cap i j x y D:=by
 have l:=h.len
 have c:=(List.getElem?_eq_some_iff.1 a).1
 have d:=(List.getElem?_eq_some_iff.1 b).1
 exact⟨h.at_ a,h.at_ b,h.frz i,h.frz j,(h.set (by omega) y).set (by omega) x,((Fr.refl (λk=>k=g) w).setCell ⟨g,i,none⟩ (.inr rfl) _).setCell ⟨g,j,none⟩ (.inr rfl) _,by omega,by omega⟩
theorem SwF.c2 {i j x y:Nat} (h:SwF w B g n cap i j x y D):∃u,(w.setCell ⟨g,i,none⟩ (nV y)).cell? ⟨g,j,none⟩=some u:=by
 by_cases e:i=j
 ·subst e;exact⟨_,World.cell?_setCell_same _ _ _ h.ci⟩
 ·exact⟨_,(World.cell?_setCell_other _ _ _ _ (by intro a;simp only[Addr.mk.injEq] at a;omega)).trans h.cj⟩
theorem IR.drew (h:IR w B g n cap D):IR w.drew B g n cap D:=h.keep (frN w).drew id
end
theorem Yl (w:World) {B g nn cap n:Nat} {U X V Y Z:List Nat} (H:IR w B g nn cap (U++(X++(V++(Y++Z))))) (W:X.length=n) (hy:Y.length=n) (hm:nn≤100000) (S:a=U.length) (T:b=U.length+(n+V.length)) (cv:Value):
  Calls prog 198 #[.slice (some ⟨g,0,none⟩) nn cap,.int .i64 a,.int .i64 b,.int .i64 n,cv] w λe w'=>e=.returned (.tuple #[])∧IR w' B g nn cap (U++(Y++(V++(X++Z))))∧Fr (λj=>j=g) w w':=by
 have HR:=Hd H
 have C:=H.len
 simp only[length_append] at C
 have HX:=Hd W
 have HY:=Hd hy
 have HA:=Hd S
 have HB:=Hd T
 have la:a+n≤100000:=by omega
 have lb:b+n≤100000:=by omega
 clear H W hy C S T hm
 go_enter Tryz.func198,Tryz.ntmps198
 go_wp2
 go_loopw [10] (λI wr=>∃c d f k,I=.int .i64 (c.length:Int)∧X=c++d∧Y=f++k∧c.length=f.length∧IR wr B g nn cap (U++(f++(d++(V++(c++(k++Z))))))∧Fr (λj=>j=g) w wr) (λI _=>n-(intOf I).toNat)
 case atStart=>exact⟨[],X,[],Y,rfl,rfl,rfl,rfl,HR.o,Fr.refl _ _⟩
 case round=>
  obtain⟨c,d,f,k,rfl,q,r,v,A,z⟩:=hrel
  have E:c.length+d.length=n:=by rw[←HX.o,q,length_append]
  have K:f.length+k.length=n:=by rw[←HY.o,r,length_append]
  have t:=Hd A
  have s:=Hd z
  clear A z
  rcases d with _|⟨x,d⟩
  ·simp only[length_nil] at E
   have i1:¬(c.length:Int)<(n:Int):=by omega
   have G:k=[]:=List.length_eq_zero_iff.1 (by omega)
   subst G
   rw[List.append_nil] at q r
   have m:=Hd q
   have o:=Hd r
   clear q r
   go_wp2
   go_end0
   refine⟨rfl,?_,s.o⟩
   have:=t.o
   rw[←m.o,←o.o] at this
   simpa using this
  ·rcases k with _|⟨y,k⟩
   ·exfalso
    simp only[length_nil,List.length_cons] at E K
    omega
   ·simp only[List.length_cons] at E K
    have i1:(c.length:Int)<(n:Int):=by omega
    have Q:U++(f++(x::d++(V++(c++(y::k++Z)))))=(U++f)++x::((d++(V++c))++y::(k++Z)):=by simp
    have p:=t.o
    rw[Q] at p
    have O:(U++f).length=a+c.length:=by rw[length_append,HA.o];omega
    have P:(U++f).length+((d++(V++c)).length+1)=b+c.length:=by simp only[length_append];rw[HB.o];omega
    have l:=p.swap (zaC _ _ _) (zbq _ _ _ _ _)
    have L:=zhB (U++f) (d++(V++c)) (k++Z) x y
    rw[P,O] at l L
    have ci:=l.ci
    have cj:=l.cj
    have fi:=l.fi
    have fj:=l.fj
    obtain⟨u,c2⟩:=l.c2
    have N:=@Hd (IR _ B g nn cap (U++(f++[y]++(d++(V++(c++[x]++(k++Z))))))) (by
     have:=l.row.drew
     rw[L] at this
     simpa using this)
    have M:=Hd ((s.o.trans l.fr (λ_ _ h=>h)).drew)
    have m:=Hd q
    have o:=Hd r
    have ea:((a:Int)+(c.length:Int)).toNat=a+c.length:=by omega
    have pa:(0:Int)≤(a:Int)+(c.length:Int):=by omega
    have ba:(a:Int)+(c.length:Int)<(nn:Int):=by have:=l.li;omega
    have ra:IntKind.i64.wrap ((a:Int)+(c.length:Int))=(a:Int)+(c.length:Int):=by rw[IntKind.wrap_i64];omega
    have eb:((b:Int)+(c.length:Int)).toNat=b+c.length:=by omega
    have pb:(0:Int)≤(b:Int)+(c.length:Int):=by omega
    have bb:(b:Int)+(c.length:Int)<(nn:Int):=by have:=l.lj;omega
    have rb:IntKind.i64.wrap ((b:Int)+(c.length:Int))=(b:Int)+(c.length:Int):=by rw[IntKind.wrap_i64];omega
    have F:=Hd v
    have X3:=Hd E
    clear q r v E K Q p O P l L
    unfold nV at c2 N M
    generalize R:c.length=i at*
    go_wp2_with fail
    have mixed:prog.follows Departure.mixedOrders=true:=by kernel_rfl
    go_big_region_o
    clear mixed
    clear ci cj fi fj c2
    generalize ((wr.setCell ⟨g,a+i,none⟩ (.int .i64 (y:Int))).setCell ⟨g,b+i,none⟩ (.int .i64 (x:Int))).drew=w3 at*
    clear ea eb
    go_wp2
    go_roundw
    case rel=>exact⟨c++[x],d,f++[y],k,by rw[length_append,R];go_num,by rw[m.o];simp,by rw[o.o];simp,by simp[R,F.o],N.o,M.o⟩
    case measure=>simp[intOf];have:=X3.o;omega
theorem zgF (w:World) {B g nn cap a m b:Nat} {U X Y Z:List Nat} (hr:IR w B g nn cap (U++(X++(Y++Z)))) (hx:X≠[]) (hy:Y≠[]) (hm:nn≤100000) (ha:a=U.length) (e1:m=U.length+X.length) (e2:b=m+Y.length) (K:Value):
  Calls prog 183 #[.slice (some ⟨g,0,none⟩) nn cap,.int .i64 a,.int .i64 m,.int .i64 b,K] w λe w'=>e=.returned (.tuple #[])∧IR w' B g nn cap (U++(Y++(X++Z)))∧Fr (λj=>j=g) w w':=by
 have HR:=Hd hr
 have G:=hr.len
 simp only[length_append] at G
 have O:=Hd hm
 have lb:b≤100000:=by omega
 have X0:=List.length_pos_iff.2 hx
 have Y0:=List.length_pos_iff.2 hy
 obtain⟨H,aa⟩:∃i,i=X.length:=⟨_,rfl⟩
 obtain⟨I,ab⟩:∃i,i=Y.length:=⟨_,rfl⟩
 have r1:IntKind.i64.wrap ((m:Int)-(a:Int))=(H:Int):=by rw[IntKind.wrap_i64];omega
 have r2:IntKind.i64.wrap ((b:Int)-(m:Int))=(I:Int):=by rw[IntKind.wrap_i64];omega
 have ST:=@Hd (U.length=a∧X.length=H∧Y.length=I∧a+H=m∧m+I≤b∧0<H∧0<I) (by omega)
 have LB:=Hd lb
 clear hr hx hy G hm ha e1 e2 X0 Y0 lb aa ab
 go_enter Tryz.func183,Tryz.ntmps183
 go_wp2
 clear r1 r2
 go_loopw [10,11] (λiv jv wr=>∃(p i j:Nat) (P X' c Q:List Nat),iv=.int .i64 (i:Int)∧jv=.int .i64 (j:Int)∧(P.length=p∧X'.length=i∧c.length=j∧p+i=m∧m+j≤b∧0<i∧0<j)∧U++(Y++(X++Z))=P++(c++(X'++Q))∧IR wr B g nn cap (P++(X'++(c++Q)))∧Fr (λj=>j=g) w wr) (λiv jv _=>(intOf iv).toNat+(intOf jv).toNat)
 case atStart=>exact⟨a,H,I,U,X,Y,Z,rfl,rfl,ST.o,rfl,HR.o,Fr.refl _ _⟩
 case round=>
  obtain⟨p,i,j,P,X',c,Q,rfl,rfl,hs,ht,F,E⟩:=hrel
  have o:=Hd F
  have l:=Hd E
  have M:=Hd ht
  have lb:=LB.o
  obtain⟨y,A,C,R,S,T,W⟩:=hs
  have rp:IntKind.i64.wrap ((m:Int)-(i:Int))=(p:Int):=by rw[IntKind.wrap_i64];omega
  clear F E ht
  by_cases hij:i=j
  ·subst hij
   have z:=Hd (Yl wr (U:=P) (X:=X') (V:=[]) (Y:=c) (Z:=Q) (n:=i) (a:=p) (b:=m) (by simpa using o.o) A C O.o y.symm (by simp;omega) K)
   clear y A C R S T W
   go_wp2_with (go_at_call 198;refine z.o.mono ?_;rintro e w2 ⟨rfl,x,u⟩)
   go_end0
   refine⟨rfl,?_,l.o.trans u (λ_ _ h=>h)⟩
   rw[M.o]
   simpa using x
  ·have d2:¬(i:Int)=(j:Int):=by omega
   by_cases hlt:j<i
   ·obtain⟨r,s,hX,hX1⟩:∃r s,X'=r++s∧r.length=j:=⟨X'.take j,X'.drop j,(List.take_append_drop _ _).symm,by rw[length_take];omega⟩
    have v:X'.length=r.length+s.length:=by rw[hX,length_append]
    have z:=Hd (Yl wr (U:=P) (X:=r) (V:=s) (Y:=c) (Z:=Q) (n:=j) (a:=p) (b:=m) (by have:=o.o;rw[hX] at this;simpa using this) hX1 C O.o y.symm (by omega) K)
    obtain⟨k,hk⟩:∃k,k=s.length:=⟨_,rfl⟩
    have d1:(i:Int)>(j:Int):=by omega
    have r3:IntKind.i64.wrap ((i:Int)-(j:Int))=(k:Int):=by rw[IntKind.wrap_i64];omega
    have HX:=Hd hX
    have d:=@Hd ((P++c).length=p+j∧s.length=k∧r.length=j∧p+j+k=m∧m+j≤b∧0<k∧0<j∧k<i) (by rw[length_append];omega)
    clear hij hlt hX hX1 v hk y A C R S T W
    go_wp2_with (go_at_call 198;refine z.o.mono ?_;rintro e w2 ⟨rfl,x,u⟩;have N:=Hd x;have L:=Hd u;clear x u)
    go_roundw
    case rel=>exact⟨p+j,k,j,P++c,s,r,Q,rfl,rfl,⟨d.o.1,d.o.2.1,d.o.2.2.1,d.o.2.2.2.1,d.o.2.2.2.2.1,d.o.2.2.2.2.2.1,d.o.2.2.2.2.2.2.1⟩,by rw[M.o,HX.o];simp,by have:=N.o;simpa using this,l.o.trans L.o (λ_ _ h=>h)⟩
    case measure=>simp[intOf];have:=d.o;omega
   ·obtain⟨f,t,hY,hY2⟩:∃f t,c=f++t∧t.length=i:=⟨c.take (j-i),c.drop (j-i),(List.take_append_drop _ _).symm,by rw[List.length_drop];omega⟩
    have v:c.length=f.length+t.length:=by rw[hY,length_append]
    obtain⟨k,hk⟩:∃k,k=f.length:=⟨_,rfl⟩
    obtain⟨q,hq⟩:∃q,q=P.length+(i+f.length):=⟨_,rfl⟩
    have z:=Hd (Yl wr (U:=P) (X:=X') (V:=f) (Y:=t) (Z:=Q) (n:=i) (a:=p) (b:=q) (by have:=o.o;rw[hY] at this;simpa using this) A hY2 O.o y.symm hq K)
    have d1:¬(i:Int)>(j:Int):=by omega
    have r3:IntKind.i64.wrap ((j:Int)-(i:Int))=(k:Int):=by rw[IntKind.wrap_i64];omega
    have r4:IntKind.i64.wrap ((m:Int)+(j:Int))=(m:Int)+(j:Int):=by rw[IntKind.wrap_i64];omega
    have r5:IntKind.i64.wrap ((m:Int)+(j:Int)-(i:Int))=(q:Int):=by rw[IntKind.wrap_i64];omega
    have HY:=Hd hY
    have d:=@Hd ((P.length=p∧t.length=i∧f.length=k∧p+i=m∧m+k≤b∧0<i∧0<k)∧k<j) (by omega)
    clear hij hlt hY hY2 v hk hq y A C R S T W
    go_wp2_with (go_at_call 198;refine z.o.mono ?_;rintro e w2 ⟨rfl,x,u⟩;have N:=Hd x;have L:=Hd u;clear x u)
    go_roundw
    case rel=>exact⟨p,i,k,P,t,f,X'++Q,rfl,rfl,d.o.1,by rw[M.o,HY.o];simp,by have:=N.o;simpa using this,l.o.trans L.o (λ_ _ h=>h)⟩
    case measure=>simp[intOf];have:=d.o.2;omega
def Xa (bx:Nat):Value:=.func (.func 95) #[] #[.pointer (some ⟨bx,0,none⟩)]
def zbD (w:World) (g n bx:Nat) (cf:Nat→Nat→Int):Prop:=∀w',Fr (λj=>j=g) w w'→∀i k:Nat,i<n→k<n→
 Calls prog 95 #[.int .i64 i,.int .i64 k,.pointer (some ⟨bx,0,none⟩)] w' λe w''=>e=.returned (.int .i64 (cf i k))∧Fr No w' w''
def ltC (cf:Nat→Nat→Int) (i k:Nat):Bool:=decide (cf i k<0)
theorem zbD.fr {w w':World} {g n bx:Nat} {cf:Nat→Nat→Int} (h:zbD w g n bx cf) (f:Fr (λj=>j=g) w w'):zbD w' g n bx cf:=λa b=>h a (f.trans b (λ_ _ h=>h))
theorem zdN.go {a:Nat→Nat→Bool} (M:List Nat):zdN a M 1 (M.take 1):=by
 refine⟨?_,.refl _⟩
 cases M with
 |nil=>exact List.Pairwise.nil
 |cons x r=>exact List.pairwise_singleton _ _
theorem Yi (w:World) {B g nn cap a b n bx:Nat} {cf:Nat→Nat→Int} (hs:SwL (ltC cf)) {A M Q:List Nat} (hr:IR w B g nn cap (A++(M++Q))) (hM:M.Pairwise (· < ·)) (hn:∀x∈M,x<n) (ha:a=A.length) (hb:b=a+M.length) (hm:nn≤100000) (hc:zbD w g n bx cf):
  Calls prog 152 #[.slice (some ⟨g,0,none⟩) nn cap,.int .i64 a,.int .i64 b,Xa bx] w λe w'=>e=.returned (.tuple #[])∧∃S,Ja (ltC cf) S∧S.Perm M∧IR w' B g nn cap (A++(S++Q))∧Fr (λj=>j=g) w w':=by
 have H:=hr.len
 simp only[length_append] at H
 have HR:=Hd hr
 have HM:=Hd hM
 have HN:=Hd hn
 have HC:=Hd hc
 have HS:=Hd hs
 have O:=@Hd (A.length=a∧b=a+M.length∧b≤nn∧nn≤100000) (by omega)
 have r0:IntKind.i64.wrap ((a:Int)+1)=((a+1:Nat):Int):=by rw[IntKind.wrap_i64];omega
 unfold Xa
 clear hr hM hn hc hs ha hb H hm
 go_enter Tryz.func152,Tryz.ntmps152
 go_wp2
 clear r0
 go_loopw [8] (λiv wr=>∃(k i:Nat) (S:List Nat),iv=.int .i64 (i:Int)∧(i=a+k∧1≤k)∧zdN (ltC cf) M k S∧IR wr B g nn cap (A++(S++(M.drop k++Q)))∧Fr (λj=>j=g) w wr) (λiv _=>b-(intOf iv).toNat)
 case atStart=>exact⟨1,a+1,M.take 1,rfl,⟨rfl,le_refl _⟩,zdN.go M,by rw[←List.append_assoc (M.take 1),List.take_append_drop];exact HR.o,Fr.refl _ _⟩
 case round=>
  obtain⟨k,i,S,rfl,hk,hi,p,l⟩:=hrel
  have F:=Hd hk
  have v:=Hd hi
  have c:=Hd p
  have d:=Hd l
  clear hk hi p l
  by_cases hlt:i<b
  ·have i1:(i:Int)<(b:Int):=by omega
   have ri:IntKind.i64.wrap ((i:Int)+1)=((i+1:Nat):Int):=by rw[IntKind.wrap_i64];have:=O.o;omega
   obtain⟨x,hx⟩:∃x,M[k]? =some x:=⟨_,List.getElem?_eq_getElem (by have:=F.o;have:=O.o;omega)⟩
   have Y:=Hd hx
   have SL:=@Hd (S.length=k) (by
    have:=v.o.perm.length_eq
    rw[length_take] at this
    have:=(List.getElem?_eq_some_iff.1 hx).1
    omega)
   have o:M.drop k=x::M.drop (k+1):=by rw[←(List.getElem?_eq_some_iff.1 hx).2,List.getElem_cons_drop]
   have I0:=@Hd (IR wr B g nn cap (A++(S++(x::(M.drop (k+1)++Q))))) (by have:=c.o;rw[o] at this;exact this)
   have XN:=Hd (HN.o x (mem_of_getElem? hx))
   have IB:=Hd hlt
   clear hx o c hlt
   go_wp2
   go_loopw [9] (λjv s=>∃(j:Nat) (z m:List Nat),jv=.int .i64 (j:Int)∧j=a+z.length∧z++m=S∧zax (ltC cf) z x m∧IR s B g nn cap (A++(z++(x::(m++(M.drop (k+1)++Q)))))∧Fr (λj=>j=g) w s) (λjv _=>(intOf jv).toNat)
   case atStart=>exact⟨i,S,[],rfl,by have:=F.o;have:=SL.o;omega,by simp,v.o.begin HM.o Y.o,I0.o,d.o⟩
   case round=>
    clear I0 d
    obtain⟨j,z,m,rfl,hj,he,T,p,l⟩:=hrel
    rename World=>s
    have J:=Hd hj
    have L:=Hd he
    have X:=Hd T
    have c:=Hd p
    have d:=Hd l
    have CM:=Hd (HC.o.fr l)
    clear hj he T p l
    rcases List.eq_nil_or_concat z with R|⟨f,y,R⟩
    ·subst R
     have ja:j=a:=by have:=J.o;simpa using this
     subst ja
     have g1:¬(j:Int)>(j:Int):=by omega
     have V:=Hd (v.o.next Y.o L.o (X.o.done0 HS.o))
     go_wp2_with fail
     refine wrLx [ff,ff,ff,ff,ff,ff,ff,ff,ff,ff,ff,ff,ff,ff,tt,ff,ff] (λ_=>True) ?_ (λK hK=>?_)
     ·trivial
     repeat((first|(refine zk rfl ?_;constructor;constructor;(focus(rintro w' _;exact goS)))|(refine zl rfl ?_));try simp only[Act.put,pA,pB,pC])
     refine zN (hK.out _ _ ?_)
     go_wp2_with fail
     go_roundw
     case rel=>exact⟨k+1,i+1,_,by go_num,by have:=F.o;omega,V.o,by have:=c.o;simpa using this.drew,d.o.drew⟩
     case measure=>simp[intOf];have:=IB.o;omega
    ·rw[List.concat_eq_append] at R
     subst R
     have jl:=J.o
     rw[length_append,List.length_singleton] at jl
     have ln:=O.o
     have hD:A++(f++[y]++(x::(m++(M.drop (k+1)++Q))))=(A++f)++y::([]++x::(m++(M.drop (k+1)++Q))):=by simp
     obtain⟨q,T⟩:∃q,q=a+f.length:=⟨_,rfl⟩
     have r:=c.o
     rw[hD] at r
     have P:(A++f).length=q:=by rw[length_append];omega
     have e2:(A++f).length+(([]:List Nat).length+1)=j:=by rw[P];simp;omega
     have U:=zaC (A++f) ([]++x::(m++(M.drop (k+1)++Q))) y
     have I:=zbq (A++f) [] (m++(M.drop (k+1)++Q)) y x
     rw[e2] at I
     rw[P] at U
     have YN:=@Hd (y<n) (HN.o y (v.o.perm.subset (by rw[←L.o];simp)|>List.mem_of_mem_take))
     have N:=Hd r.drew
     have cx:=N.o.at_ I
     have cy:=N.o.at_ U
     have jn:j<nn:=by have:=r.len;have:=(List.getElem?_eq_some_iff.1 I).1;omega
     have g1:(j:Int)>(a:Int):=by omega
     have r1:IntKind.i64.wrap ((j:Int)-1)=(q:Int):=by rw[IntKind.wrap_i64];omega
     have b1:(j:Int)<(nn:Int):=by omega
     have b2:(q:Int)<(nn:Int):=by omega
     have MX:=Hd I
     have MY:=Hd U
     have G:=@Hd ((q=a+f.length∧(A++f).length=q∧(A++f).length+1=j)∧q<j) (by have:=P;simp only[length_nil] at e2;omega)
     clear r hD P e2 I U jl ln T c jn
     go_wp2_with fail
     refine wrLx [ff,ff,ff,ff,ff,ff,ff,ff,ff,ff,ff,ff,ff,ff,tt,ff,ff] (λw'=>w'.cell? ⟨g,j,none⟩=some (.int .i64 (x:Int))∧w'.cell? ⟨g,q,none⟩=some (.int .i64 (y:Int))) ?_ (λK hK=>?_)
     ·exact⟨cx,cy⟩
     have W:=Hd ((frN s).drew)
     repeat((first|(refine zk rfl ?_;constructor;constructor;(focus(rintro w' ⟨s1,C⟩;exact goS)))|(refine zl rfl ?_));try simp only[Act.put,pA,pB,pC])
     (refine zM rfl (λK' hK'=>?_))
     go_simp
     refine(CM.o _ W.o.of0 x y XN.o YN.o).mono ?_
     rintro e w3 ⟨rfl,f3⟩
     have D:=Hd f3
     clear f3
     refine nXt hK' ?_ λhS=>?_
     ·exact⟨D.o.cell cx id,D.o.cell cy id⟩
     try simp only[Act.put,pA,pB,pC]
     have I3:=Hd (N.o.keep D.o id)
     have E:=Hd (d.o.trans (W.o.trans0 D.o).of0 (λ_ _ h=>h))
     clear cx cy N D W
     by_cases hcf:cf x y<0
     ·repeat((first|(refine zk rfl ?_;constructor;constructor;(focus(rintro w' ⟨s1,C⟩;exact goS)))|(refine zl rfl ?_));try simp only[Act.put,pA,pB,pC])
      refine zN (hK.out _ _ ?_)
      have Z:=@Hd (ltC cf x y=true) (decide_eq_true hcf)
      have t:=I3.o.swap MX.o MY.o
      have ci:=t.ci
      have cj:=t.cj
      have fi:=t.fi
      have fj:=t.fj
      obtain⟨u,c2⟩:=t.c2
      have C:=zhB (A++f) [] (m++(M.drop (k+1)++Q)) y x
      rw[length_nil,Nat.zero_add,G.o.1.2.2,G.o.1.2.1] at C
      have RW:=@Hd (IR _ B g nn cap (A++(f++(x::(y::m++(M.drop (k+1)++Q)))))) (by
       have:=t.row.drew
       rw[List.set_comm _ _ (by have:=G.o.2;omega),C] at this
       simpa using this)
      have FW:=Hd ((E.o.trans t.fr (λ_ _ h=>h)).drew)
      have ea:((j:Int)).toNat=j:=by omega
      have eb:((q:Int)).toNat=q:=by omega
      clear t C
      unfold nV at c2 RW FW
      go_wp2_with fail
      have mixed:prog.follows Departure.mixedOrders=true:=by kernel_rfl
      go_big_region_o
      clear mixed ci cj fi fj c2 ea eb
      generalize ((w3.setCell ⟨g,j,none⟩ (.int .i64 (y:Int))).setCell ⟨g,q,none⟩ (.int .i64 (x:Int))).drew=w5 at*
      go_wp2
      go_roundw
      case rel=>exact⟨q,f,y::m,by go_num,G.o.1.1,by rw[←L.o];simp,X.o.move Z.o,RW.o,FW.o⟩
      case measure=>simp[intOf];have:=G.o.2;omega
     ·repeat((first|(refine zk rfl ?_;constructor;constructor;(focus(rintro w' ⟨s1,C⟩;exact goS)))|(refine zl rfl ?_));try simp only[Act.put,pA,pB,pC])
      refine zN (hK.out _ _ ?_)
      have Z:=@Hd (ltC cf x y=false) (decide_eq_false hcf)
      have V:=Hd (v.o.next Y.o L.o (X.o.done HS.o Z.o))
      go_wp2_with fail
      go_roundw
      case rel=>exact⟨k+1,i+1,_,by go_num,by have:=F.o;omega,V.o,by have:=I3.o;simpa using this,E.o⟩
      case measure=>simp[intOf];have:=IB.o;omega
  ·have i1:¬(i:Int)<(b:Int):=by omega
   have hl:M.length≤k:=by have:=F.o;have:=O.o;omega
   have HL:=Hd hl
   clear hl
   go_wp2
   go_end0
   exact⟨rfl,S,v.o.srt,by have:=v.o.perm;rw[List.take_of_length_le HL.o] at this;exact this,by have:=c.o;rw[List.drop_eq_nil_of_le HL.o] at this;simpa using this,d.o⟩
end Go.Proofs.YtbcllfjmabiafaaGreatDoor
