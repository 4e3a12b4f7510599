/- coin: Take. -/
import Derived.Laws.OwnMore
import Derived.Test.YtmpamcnlineceaaGreatDoorZG6
import Derived.Test.YtmpamcnlineceaaGreatDoorZG2
import Derived.Test.YtmpamcnlineceaaGreatDoorZG3
set_option linter.unusedVariables false
set_option linter.unusedSimpArgs false
set_option linter.unnecessarySimpa false
set_option linter.all false
set_option maxRecDepth 20000
set_option maxHeartbeats 16000000
namespace Go.Proofs.YtmpamcnlineceaaGreatDoor
open Go Go.RowKit Go.Maps Go.MapKept
open Go.Proofs.Tryz(prog)
open Nat(le_refl zero_le zero_add)
open List(getElem?_eq_getElem mem_of_getElem? length_append take_add_one take_length length_take length_cons take_of_length_le)
variable {B n:Nat} {cs xs:List Value} {l:List Int} {v:Value} {w:World}
section
open Go.Sort
def jE (S:List zh) (ps:List zE):Int:=if ps.Nodup then if ps.all (xE S) then 0 else 9 else 12
def vu (S:List zh) (ps:List zE):List zh:=if jE S ps=0 then yU S ps else S
def JJ (S:List zh) (ps:List zE):List yk:=if jE S ps=0 then ps.map (yj S) else[]
def ZO (S:List zh) (ps:List zE):Nat:=(ps.filter λp=> !xE S p).length
theorem zcR (S:List zh) {ps:List zE} {x:zE} (h:ps[n]? =some x):ZO S (ps.take (n+1))=ZO S (ps.take n)+if xE S x=true then 0 else 1:=by
 unfold ZO
 rw[take_add_one,h]
 simp only[Option.toList_some,List.filter_append,length_append]
 cases hx:xE S x<;>simp[hx]
theorem zfs (S:List zh) (ps:List zE):ZO S ps≤ps.length:=List.length_filter_le _ _
theorem zei {S:List zh} {ps:List zE}:ps.all (xE S)=true↔ZO S ps=0:=by
 unfold ZO
 rw[List.length_eq_zero_iff,List.filter_eq_nil_iff,List.all_eq_true]
 simp
abbrev zfR (c:Int):Value:=.int .i64 c
abbrev Qs (w:World) (m:Nat) (M:List (zE×Int)):Prop:=yS prog 72 jR zfR w m M
theorem Xi (w:World):(Instr.makeMap 138 none).run prog w=.ok (.map (some w.heap.size)) (w.alloc (.map #[] 0)):=by kernel_rfl
theorem zdb {S:List zh} {ps:List zE} {x:zE} (h:ps[n]? =some x):yU (yU S (ps.take n)) [x]=yU S (ps.take (n+1)):=by
 unfold yU
 rw[List.filter_filter,take_add_one,h]
 apply List.filter_congr
 intro c _
 simp[Bool.and_comm]
theorem qs {w:World} {B b k n:Nat} {e:TypeId} (h:w.ownsRow B e k v n xs) (f:b≤B):w.ownsRow b e k v n xs:=
 ⟨h.1,h.2.imp id λ⟨g,c,a,d,i,r⟩=>⟨g,c,a,d,Nat.le_trans f i,r⟩⟩
theorem zeC (S:List zh):yU S []=S:=by simp[yU]
section
variable {w0 w:World} {p:Nat} {V:Nat→Prop} {S:List zh}
theorem CS.setM (h:CS w0 w p V S) {m:Nat} {d:List (zE×yk)} {w':World} {S':List zh} (l:w.heap[p]? =some (.cells #[.map (some m)] 109 (0,0))) (n:vN w' m d) (q:∀k v,(k,v)∈d↔(⟨k,v⟩:zh)∈S') (g:qg S') (ok:∀c∈S',c.ok) (f:Fr (λj=>j=m) w w'):
  CS w0 w' p V S':=by
 obtain⟨t,s,a,o,r,b,rfl⟩:=h.ex
 rw[l] at a
 injection a with a
 injection a with e1
 injection e1 with e1
 injection e1 with e1
 injection e1 with e1
 injection e1 with e1
 subst e1
 exact⟨⟨m,d,f.obj l b,n,q,b,rfl⟩,g,ok,h.lo,h.fr.trans f (λi hi e=>by subst e;have:=h.lo i (.inr rfl);omega)⟩
omit w0 w p V S in
theorem zbH {w:World} {m:Nat} {M:List (zE×yk)} (h:vN w m M) (o:Nat):w.cell? ⟨m,o,none⟩=none:=by
 obtain⟨es,a,b,-⟩:=h
 simp[World.cell?,b]
theorem zfZ (h:CS w0 w p V S) {ps:List zE} (hl:qz w v ps) (hN:ps.length+S.length≤100000):
  Calls prog 51 #[.pointer (some ⟨p,0,none⟩),v] w λe w'=>∃x,e=.returned (.tuple #[x,.int .i64 (jE S ps)])∧w'.ownsRow w.heap.size 68 33 x (JJ S ps).length ((JJ S ps).flatMap zx)∧CS w0 w' p V (vu S ps)∧Fr V w w':=by
 obtain⟨va,vc,rfl⟩:=hl.2.form
 have HC:=J h
 have HL:=J hl
 have zp:=jk
 have zo:=yA
 have bA:=Xi w
 obtain⟨iK,hi,hz,E,aI⟩:=info_parts Jw
 obtain⟨w2,aM,R,ao⟩:=run_makeSlice_full (P:=prog) (w:=w.alloc (.map #[] 0)) (w.heap.size+1) 22 68 iK _ 33 vU hi hz E .i64 .i64 ps.length (by omega) (by rw[aI];omega) (by unfold maxLen;omega) (by simp)
 have f2:Fr No w w2:=((frN w).alloc _).trans0 (Fr.of_grown ao (λk e=>by cases e))
 have a7:=@J (Qs w2 w.heap.size []) ((yS.made w).keep (W:=No) (Fr.of_grown ao (λk e=>by cases e)) id)
 have ae:(w.alloc (.map #[] 0)).heap.size=w.heap.size+1:=by simp
 rw[ae] at aM R
 have bc:=J (qs R (Nat.le_succ w.heap.size))
 have F2:=J f2
 have bp:=@J (w.heap.size+1<w2.heap.size) ((R.lt _ rfl).2)
 clear h hl hi hz E aI R ao f2 ae
 go_enter Tryz.func51,Tryz.ntmps51
 go_wp2_with fail
 clear aM bA
 generalize bx:w.heap.size=f at*
 go_loopw [7,23] (λkv iv wr=>∃(n:Nat) (T:List (zE×Int)) (xs:List Value),iv=.int .i64 n∧n≤ps.length∧kv=.int .i64 (ZO S (ps.take n))∧Qs wr f T∧(∀k,(∃c,(k,c)∈T)↔k∈ps.take n)∧T.length≤n∧wr.ownsRow f 68 33 (.slice (some ⟨f+1,0,none⟩) ps.length ps.length) ps.length xs∧xs.take (n*33)=((ps.take n).map (yj S)).flatMap zx∧Fr No w wr∧f+1<wr.heap.size) (λ_ iv _=>ps.length-(intOf iv).toNat)
 case atStart=>exact⟨0,[],_,rfl,zero_le _,rfl,a7.o,by simp,le_refl _,bc.o,by simp,F2.o,bp.o⟩
 case round=>
  obtain⟨n,T,xs,rfl,hn,rfl,aT,aJ,aN,aP,aW,fr,E⟩:=hrel
  have FR:=J fr
  have y:=J aT
  have I:=J aJ
  have u:=J aP
  have L:=J aW
  have ag:=J aN
  have al:=J E
  have an:=HC.o.fr0 fr
  obtain⟨m,M,hb,hm,hs,aO,aH⟩:=an.ex
  have VM:=@J (V m∧V p) (by rw[aH];exact⟨.inr rfl,.inl rfl⟩)
  have HB:=J hb
  have ah:=J hm
  have HS:=J hs
  have bb:=J aO
  have H:=J an
  clear fr aT aJ aP aW aN E an hm hs aO aH
  by_cases h:n<ps.length
  ·have i1:(n:Int)<(ps.length:Int):=by omega
   obtain⟨q,G⟩:∃x,ps[n]? =some x:=⟨_,getElem?_eq_getElem h⟩
   obtain⟨b,off,br,hv,hr,-⟩:=(HL.o.keep FR.o).at_ G
   cases hv
   have d:=J (HL.o.1 q (mem_of_getElem? G))
   have F:=J (zF d.o)
   have XO:=J (vQ HC.o.ok q)
   have U:=J (z6 XO.o)
   have R1:=J hr
   have Q:=zcR S G
   have bt:=zfs S (ps.take n)
   rw[length_take] at bt
   have aG:ps.take (n+1)=ps.take n++[q]:=by rw[take_add_one,G];rfl
   have A:=J (λw' (h':vN w' m M)=>zaJ (w:=w') (q:=q) HS.o HC.o.srt d.o h')
   have N:=(frN wr).alloc (.cells (zi q).toArray 72)
   have c0:(wr.alloc (.cells (zi q).toArray 72)).cell? ⟨p,0,none⟩=some (.map (some m)):=(Qg (N.obj hb id)).1
   have RB:=J (zK wr (zi q) 72)
   have HM:=J (ah.o.keep N id)
   have f5:=(N.alloc (.cells (zx (yj S q)).toArray 68)).drew
   have F5:=J f5
   have RX:=@J (((wr.alloc (.cells (zi q).toArray 72)).alloc (.cells (zx (yj S q)).toArray 68)).drew.rangeAt (wr.alloc (.cells (zi q).toArray 72)).heap.size 0 (zx (yj S q))) (zK _ _ _)
   have ai:=J (zf u.o f5 (λ_ _=>id))
   have TH:=J (J8 ai.o h)
   have au:=J (J7 ai.o (n*33) (cs:=zx (yj S q)) (by rw[U.o];omega))
   have f6:=zv (f+1) (zx (yj S q)) (n*33) ((wr.alloc (.cells (zi q).toArray 72)).alloc (.cells (zx (yj S q)).toArray 68)).drew
   have bl:=@J ((setM xs (n*33) (zx (yj S q))).take ((n+1)*33)=((ps.take (n+1)).map (yj S)).flatMap zx) (by
    have h1:=Vv xs (zx (yj S q)) (n*33) (by rw[u.o.1,U.o];omega)
    rw[U.o] at h1
    rw[aG,List.map_append,List.flatMap_append,←L.o,show(n+1)*33=n*33+33 by omega,h1]
    simp)
   have D:Qs ((((wr.alloc (.cells (zi q).toArray 72)).alloc (.cells (zx (yj S q)).toArray 68)).drew.setCells (f+1) (n*33) (zx (yj S q))).drew) f T:=((y.o.keep f5 id).keep f6 (λe=>by omega)).keep (frN _).drew id
   have ay:=@J (((((wr.alloc (.cells (zi q).toArray 72)).alloc (.cells (zx (yj S q)).toArray 68)).drew.setCells (f+1) (n*33) (zx (yj S q))).drew).rangeAt wr.heap.size 0 (zi q)) (zb (zb (zb RB.o (((frN _).alloc _).drew) id) f6 (λe=>by have:=al.o;omega)) (frN _).drew id)
   obtain⟨v0,w7,s,M1,bz,Z,B,aC,aa,ab,aV⟩:=D.bump vi.keyed ZI (λ_ _=>qO) (z:=0) Zo (yF d.o) (by unfold maxLen;have:=ag.o;omega)
   obtain⟨w8,M',aU,aD,hU,O,bu⟩:=aV (IntKind.i64.wrap (v0+1)) w7 No (Fr.refl _ _) id
   have bm:=J (aa _ D)
   have bn:=J (ab _ aC)
   have aq:=J Z
   have bk:=J aU
   have bo:=J (zb ay.o B.fr (λe=>by have:=al.o;omega))
   have ba:=J aD
   have bd:=J (zf (zf (zf au.o (frN _).drew (λ_ _=>id)) B.fr (λj e e'=>by simp[Value.ownBlock] at e;omega)) O.fr (λj e e'=>by simp[Value.ownBlock] at e;omega))
   have az:Fr No w w8:=((((FR.o.trans0 f5).trans f6 (λi hi e=>by omega)).drew).trans B.fr (λi hi e=>by omega)).trans O.fr (λi hi e=>by omega)
   have F8:=J az
   have bq:=@J (f+1<w8.heap.size) (by
    have h1:=f5.size;have h2:=f6.size;have h3:=B.fr.size;have h4:=O.fr.size;have h5:=al.o
    simp only[World.drew] at h3
    have h6:((((wr.alloc (.cells (zi q).toArray 72)).alloc (.cells (zx (yj S q)).toArray 68)).drew.setCells (f+1) (n*33) (zx (yj S q)))).heap.size≤w7.heap.size:=h3
    omega)
   have aZ:=@J (∀k,(∃c,(k,c)∈M')↔k∈ps.take (n+1)) (λk=>by
    rw[aG,List.mem_append,List.mem_singleton,←I.o k]
    constructor
    ·rintro⟨c,hc⟩
     rcases(hU k c).1 hc with⟨rfl,_⟩|⟨_,h⟩
     ·exact .inr rfl
     ·exact .inl ⟨c,h⟩
    ·rintro(⟨c,hc⟩|rfl)
     ·by_cases e:k=q
      ·subst e;exact⟨_,(hU _ _).2 (.inl ⟨rfl,rfl⟩)⟩
      ·exact⟨c,(hU _ _).2 (.inr ⟨e,hc⟩)⟩
     ·exact⟨_,(hU _ _).2 (.inl ⟨rfl,rfl⟩)⟩)
   have a1:=@J (M'.length≤n+1) (by have:=ag.o;omega)
   clear hr G N f5 f6 D Z B aC aa ab aV aU aD hU O bu hb az ai au y I L ah bz
   have hw:IntKind.i64.wrap ((ZO S (ps.take n):Int)+1)=((ZO S (ps.take n)+1:Nat):Int):=by rw[IntWalk.i64_in _ (by omega)];omega
   cases hh:xE S q
   all_goals
    rw[hh] at A Q
    simp only[if_true,Bool.false_eq_true,if_false] at Q
    have aY:=J Q
    clear hh Q
    generalize hX:yj S q=X at*
    clear hX
    go_wp2_with (first|(refine ziX rfl rfl rfl R1.o F.o ?_)|(refine ze rfl (zj (w:=wr) (ty:=72) rfl rfl rfl (by rw[F.o];rfl) (by rw[F.o];exact yL) yB) ?_))
    refine wrLx [ff,ff,ff,ff,ff,ff,ff,ff,ff,tt,tt,ff] (λw'=>w'.cell? ⟨p,0,none⟩=some (.map (some m))∧w'.rangeAt wr.heap.size 0 (zi q)∧vN w' m M) ?_ (λK hK=>?_)
    ·exact⟨c0,zb RB.o (frN _).drew id,HM.o.keep (frN _).drew id⟩
    repeat((first|(refine zn rfl ?_;constructor;constructor;(focus(first|exact zi1 rfl (λw h=>h.2.1) F.o|exact λw' h=>qY (t:=107) rfl rfl rfl (A.o w' h.2.2)|(rintro w' ⟨s1,s2,s3⟩;exact goS))))|(refine zq rfl ?_));try simp only[Act.put,pA,pB,pC])
    (refine zN rfl (λK' hK'=>?_))
    refine yg (y4 rfl (yA _)) ?_
    refine nXt hK' ?_ λhS=>?_
    ·exact⟨(((frN (wr.alloc (.cells (zi q).toArray 72))).drew).alloc _).cell c0 id,zb RB.o (((frN (wr.alloc (.cells (zi q).toArray 72))).drew).alloc _) id,HM.o.keep (((frN (wr.alloc (.cells (zi q).toArray 72))).drew).alloc _) id⟩
    try simp only[Act.put,pA,pB,pC]
    (refine zN rfl (λK' hK'=>?_))
    refine xx (zj (w:=((wr.alloc (.cells (zi q).toArray 72))).drew) (ty:=68) (cs:=zx X) rfl rfl rfl (by rw[U.o];rfl) (by rw[U.o];exact yW) zV) ?_
    refine nXt hK' ?_ λhS=>?_
    ·exact⟨(((frN (wr.alloc (.cells (zi q).toArray 72))).drew).alloc _).cell c0 id,zb RB.o (((frN (wr.alloc (.cells (zi q).toArray 72))).drew).alloc _) id,HM.o.keep (((frN (wr.alloc (.cells (zi q).toArray 72))).drew).alloc _) id⟩
    try simp only[Act.put]
    repeat((first|(refine zn rfl ?_;constructor;constructor;(focus(first|(rintro w' -;exact goS))))|(refine zq rfl ?_));try simp only[Act.put,pA,pB,pC])
    refine zZ (hK.out _ _ ?_)
    clear c0 RB HM A
    go_wp2_with (first|(refine ziW rfl rfl rfl RX.o U.o ?_)|(refine ze rfl (zy (ty:=68) rfl rfl rfl (by rw[U.o];exact TH.o) (by rw[U.o];exact yW) zV) ?_))
    refine yD [ff,ff,ff,ff,tt,ff,tt] (λw'=>w'.rangeAt wr.heap.size 0 (zi q)∧(Instr.lookup 138 (.map (some f)) (jR q) false).run prog w'=.ok (.int .i64 v0) w') (by kernel_rfl) (by kernel_rfl) 6 (by kernel_rfl) (by kernel_rfl) ?_ (λK hK=>?_)
    ·exact⟨ay.o,bm.o⟩
    repeat((first|(refine ym rfl ?_;constructor;constructor;(focus(first|exact zi1 rfl (λw h=>h.1) F.o|exact λw' h=>qY (t:=138) rfl rfl rfl h.2|(rintro w' ⟨s1,s2⟩;exact goS))))|(refine yn rfl ?_));try simp only[Act.put,pA,pB,pC])
    (refine yf rfl (λK' hK'=>?_))
    refine yg (YF rfl rfl rfl aq.o) ?_
    refine hK'.out _ _ (λ_=>?_) (λhS=>?_)
    ·exact⟨bo.o,bn.o⟩
    try simp only[Act.put,pA,pB,pC]
    repeat((first|(refine ym rfl ?_;constructor;constructor;(focus(first|(rintro w' ⟨s1,s2⟩;exact goS))))|(refine yn rfl ?_));try simp only[Act.put,pA,pB,pC])
    (refine yf rfl (λK' hK'=>?_))
    refine xx (ZN rfl rfl rfl rfl bk.o) ?_
    refine hK'.out _ _ (λh=>absurd rfl h) (λhS=>?_)
    refine qp (hK.out _ _ ?_)
    go_wp2
    go_roundw
    case rel=>exact⟨n+1,M',_,by simp,by omega,by rw[aY.o];rfl,ba.o,aZ.o,a1.o,bd.o,bl.o,F8.o,bq.o⟩
    case measure=>show ps.length-(n+1)<ps.length-n;omega
  ·have i1:¬(n:Int)<(ps.length:Int):=by omega
   have Y:ps.take n=ps:=by rw[show n=ps.length by omega,take_length]
   have ad:∀x,x∈T.map (·.1)↔x∈ps:=by
    intro x
    rw[←show ps.take n=ps from Y,←I.o x]
    simp
   have a:=XC y.o.nodup ad
   rw[List.length_map] at a
   have LR:=J (λty=>y.o.lenRun ZI ty)
   have o:=zei (S:=S) (ps:=ps)
   rw[←Y] at o
   have ax:=@J (xs=(ps.map (yj S)).flatMap zx) (by
    have h1:=L.o
    rw[Y,show n=ps.length by omega,take_of_length_le (by rw[u.o.1];omega)] at h1
    exact h1)
   have F0:=FR
   clear ad L I ah
   by_cases hnd:ps.Nodup
   ·have j1:(T.length:Int)=(ps.length:Int):=by have:=a.2 hnd;omega
    clear a
    by_cases hm0:ZO S (ps.take n)=0
    ·have j2:¬(0:Int)<(ZO S (ps.take n):Int):=by omega
     have r:=@J (jE S ps=0) (by unfold jE;rw[if_pos hnd,if_pos (by rw[←Y];exact o.2 hm0)])
     have a6:=J (HL.o.keep FR.o)
     have av:=@J (wr.ownsRow f 68 33 (.slice (some ⟨f+1,0,none⟩) ps.length ps.length) (JJ S ps).length ((JJ S ps).flatMap zx)) (by
      unfold JJ
      rw[if_pos r.o,List.length_map,←ax.o]
      exact u.o)
     have ES:=@J (vu S ps=yU S ps) (by unfold vu;rw[if_pos r.o])
     obtain⟨m2,M2,C,aK,aR,-,-⟩:=H.o.ex
     have bw:m2=m:=by
      rw[hb] at C
      injection C with C
      injection C with e1
      injection e1 with e1
      injection e1 with e1
      injection e1 with e1
      injection e1 with e1
      exact e1.symm
     subst bw
     have ar:=J aK
     have bh:=J aR
     have aw:=@J (p<f∧m2<f) (⟨by have:=HC.o.hi p VM.o.2;omega,by have:=HC.o.hi m2 VM.o.1;omega⟩)
     clear o hm0 Y C aK aR ax u y ag
     go_wp2_with (refine zg rfl (j4 rfl rfl (LR.o _)) ?_)
     clear LR
     go_loopw [61] (λiv aX=>∃(g:Nat) (M3:List (zE×yk)),iv=.int .i64 g∧g≤ps.length∧vN aX m2 M3∧(∀k v,(k,v)∈M3↔(⟨k,v⟩:zh)∈yU S (ps.take g))∧Fr (λj=>j=m2) wr aX) (λiv _=>ps.length-(intOf iv).toNat)
     case atStart=>exact⟨0,M2,rfl,zero_le _,ar.o,by rw[List.take_zero,zeC];exact bh.o,Fr.refl _ _⟩
     case round=>
      obtain⟨g,M3,rfl,bB,aL,aS,aA⟩:=hrel
      have af:=J aL
      have aj:=J aS
      have l:=J aA
      clear aL aS aA
      by_cases h2:g<ps.length
      ·have i2:(g:Int)<(ps.length:Int):=by omega
       obtain⟨q,G⟩:∃x,ps[g]? =some x:=⟨_,getElem?_eq_getElem h2⟩
       obtain⟨b,off,br,hv,hr,-⟩:=a6.o.at_ G
       cases hv
       have d:=J (HL.o.1 q (mem_of_getElem? G))
       have F:=J (zF d.o)
       have bs:b≠m2:=λe=>by
        subst e
        have h3:=hr 32 _ (Ze d.o)
        rw[zbH ar.o] at h3
        cases h3
       have R1:=J (zb hr l.o bs)
       have N:=(frN wr).alloc (.cells (zi q).toArray 72)
       have cA:(wr.alloc (.cells (zi q).toArray 72)).cell? ⟨p,0,none⟩=some (.map (some m2)):=(Qg (N.obj (l.o.obj HB.o bb.o) id)).1
       have CA:=J cA
       have RB:=J (zK wr (zi q) 72)
       obtain⟨w5,M4,aQ,aB,hD,aF,-⟩:=((af.o.keep N id).keep (frN _).drew id).del vi.keyed jG (λ_ _=>qO) (yF d.o) 0 72
       have bg:=J aQ
       have a8:=J aB
       have F5:=J ((l.o.trans0 N.drew).trans aF.fr (λi hi e=>e))
       have bj:=@J (∀k v,(k,v)∈M4↔(⟨k,v⟩:zh)∈yU S (ps.take (g+1))) (λk v=>by
        rw[hD k v,aj.o,←zdb G,jQ (ps:=[q])]
        simp only[List.mem_singleton]
        exact And.comm)
       clear hr G N cA aQ aB hD aF
       go_wp2_with (first|(refine ziX rfl rfl rfl R1.o F.o ?_)|(refine ze rfl (zj (w:=wr) (ty:=72) rfl rfl rfl (by rw[F.o];rfl) (by rw[F.o];exact yL) yB) ?_))
       refine yD [ff,ff,ff,ff,ff,tt] (λw'=>w'.cell? ⟨p,0,none⟩=some (.map (some m2))∧w'.rangeAt wr.heap.size 0 (zi q)) (by kernel_rfl) (by kernel_rfl) 5 (by kernel_rfl) (by kernel_rfl) ?_ (λK hK=>?_)
       ·exact⟨CA.o,zb RB.o (frN _).drew id⟩
       repeat((first|(refine ym rfl ?_;constructor;constructor;(focus(first|exact zi1 rfl (λw h=>h.2) F.o|(rintro w' ⟨s1,s2⟩;exact goS))))|(refine yn rfl ?_));try simp only[Act.put,pA,pB,pC])
       (refine yf rfl (λK' hK'=>?_))
       refine yg (Qa rfl rfl rfl bg.o) ?_
       refine hK'.out _ _ (λh=>absurd rfl h) (λhS=>?_)
       refine qp (hK.out _ _ ?_)
       go_wp2
       go_roundw
       case rel=>exact⟨g+1,M4,by simp,by omega,a8.o,bj.o,F5.o⟩
       case measure=>show ps.length-(g+1)<ps.length-g;omega
      ·have i2:¬(g:Int)<(ps.length:Int):=by omega
       have aE:ps.take g=ps:=by rw[show g=ps.length by omega,take_length]
       have ak:=aj.o
       rw[aE] at ak
       have CF:=J (H.o.setM HB.o af.o ak (Zn HC.o.srt) (λc hc=>HC.o.ok c (jQ.1 hc).1) l.o)
       have FF:=@J (Fr V w wr) (F0.o.of0.trans l.o (λi hi e=>by subst e;exact VM.o.1))
       have bf:=J (zf av.o l.o (λj e e'=>by have:=(av.o.lt j e).1;have:=aw.o.2;omega))
       clear ak aE aj af i2
       go_wp2
       go_ret2
       exact⟨_,by rw[r.o];rfl,by rw[bx];exact bf.o,by rw[ES.o];exact CF.o,FF.o⟩
    ·have j2:(0:Int)<(ZO S (ps.take n):Int):=by omega
     have r:=@J (jE S ps=9) (by unfold jE;rw[if_pos hnd,if_neg (λe=>hm0 (o.1 (by rw[Y];exact e)))])
     clear o hm0 Y
     go_wp2_with (refine zg rfl (j4 rfl rfl (LR.o _)) ?_)
     go_ret2
     exact⟨_,by rw[r.o];rfl,by unfold JJ;rw[if_neg (by rw[r.o];decide)];exact World.ownsRow_nil _ _ _ _,by unfold vu;rw[if_neg (by rw[r.o];decide)];exact H.o,F0.o.of0⟩
   ·have j1:¬(T.length:Int)=(ps.length:Int):=λe=>hnd (a.1 (by omega))
    have r:=@J (jE S ps=12) (by unfold jE;rw[if_neg hnd])
    clear a o Y
    go_wp2_with (refine zg rfl (j4 rfl rfl (LR.o _)) ?_)
    go_ret2
    exact⟨_,by rw[r.o];rfl,by unfold JJ;rw[if_neg (by rw[r.o];decide)];exact World.ownsRow_nil _ _ _ _,by unfold vu;rw[if_neg (by rw[r.o];decide)];exact H.o,F0.o.of0⟩
end
end
def inB (x:InD):List Int:=x.from_.tx++(leB 4 x.from_.n++((x.key.length:Int)::x.key))
def vC (o:yk):List Int:=leB 8 o.value++o.lock
def txB (t:TxD):List Int:=leB 4 t.ver++((t.ins.length:Int)::(t.ins.flatMap inB++((t.outs.length:Int)::t.outs.flatMap vC)))
theorem zgy {x:InD} (h:x.from_.ok):(inB x).length=37+x.key.length:=by simp[inB,xh,h.1.1];omega
theorem zfA {x:yk} (h:x.ok):(vC x).length=40:=by simp[vC,xh,h.2.1]
theorem Y7:∀ {l:List InD},(∀x∈l,x.from_.ok)→(∀x∈l,x.key.length≤64)→(l.flatMap inB).length≤101*l.length
 |[],_,_=>le_refl _
 |x::l,h,k=>by
  have:=Y7 (l:=l) (λy a=>h y (.tail _ a)) (λy a=>k y (.tail _ a))
  have b:=zgy (h x (.head _))
  have c:=k x (.head _)
  simp only[List.flatMap_cons,length_append,length_cons]
  omega
theorem Jl:∀ {l:List yk},(∀x∈l,x.ok)→(l.flatMap vC).length=40*l.length
 |[],_=>rfl
 |x::l,h=>by
  have:=Jl (l:=l) (λy a=>h y (.tail _ a))
  have b:=zfA (h x (.head _))
  simp only[List.flatMap_cons,length_append,length_cons]
  omega
theorem qi {t:TxD}:yV t=true↔(∀x∈t.ins,x.key.length≤64)∧t.ins.length≤8∧t.outs.length≤8:=by
 simp[yV]
theorem vG {α β:Type} (f:α→List β) {l:List α} {x:α} (h:l[n]? =some x):(l.take (n+1)).flatMap f=(l.take n).flatMap f++f x:=by
 rw[take_add_one,h]
 simp
theorem vt (w:World) {o:yk} (ok:o.ok):(w.alloc (.cells (zx o).toArray 68)).cell? ⟨w.heap.size,0,none⟩=some (.int .u64 o.value)∧(w.alloc (.cells (zx o).toArray 68)).rangeAt w.heap.size 1 (o.lock.map zu):=by
 have r:=zK w (zx o) 68
 refine⟨by simpa using r 0 _ rfl,λj u a=>?_⟩
 have:=r (j+1) u (by simpa[zx] using a)
 rwa [show 0+(j+1)=1+j by omega] at this
theorem Jf {b o:Nat} (h:w.rangeAt b o (l.map zu)) (c:l.length=32) (a:b<w.heap.size):xG w (.slice (some ⟨b,o,none⟩) 32 32) l.length (l.map zu):=by
 rw[c]
 exact .inl (.inr ⟨b,o,32,rfl,le_refl _,by decide,h,a⟩)
theorem yC.step {a b c:World} (fr:Fr No a b) (d:yC b B v l) (g:a.heap.size≤B) (f:Fr (λj=>v.ownBlock=some j) b c):Fr No a c:=fr.trans f (λi hi e=>by have:=(d.lt i e).1;omega)
theorem Zq.ne {v a:Value} {q:Nat} (g:Zq w v a) (b:v.ownBlock≠some q) (c:q<w.heap.size):a.ownBlock≠some q:=λe=>(g q e).elim b (λh=>by omega)
theorem yC.ne (a:yC w B v l) {q:Nat} (b:w.heap.size≤q):v.ownBlock≠some q:=λe=>by have:=(a.lt q e).2;omega
def VU (w:World) (t:TxD) (e:Ending) (w':World):Prop:=∃v,e=.returned (.tuple #[v,.int .i64 (if yV t=true then 0 else 5)])∧Fr No w w'∧(if yV t=true then yC w' w.heap.size v (txB t) else v=.slice none 0 0)
theorem zgL (w:World) {t:TxD} (ht:TxQ w t cs):
  Calls prog 43 #[.agg cs.toArray] w (VU w t):=by
 have HT:=J ht
 obtain⟨q,r,s,u,rfl,R,hi,ho⟩:=ht
 have zI:=vX
 have zO:=yA
 have N:=J ((frN w).alloc (.cells #[.int .u32 t.ver,.slice q t.ins.length r,.slice s t.outs.length u] 62))
 have m:=@J ((w.alloc (.cells #[.int .u32 t.ver,.slice q t.ins.length r,.slice s t.outs.length u] 62)).heap.size=w.heap.size+1) (by simp)
 obtain⟨c0,c1,c2,r0⟩:=qF w t.ver (.slice q t.ins.length r) (.slice s t.outs.length u)
 have C0:=J c0
 have C1:=J c1
 have C2:=J c2
 have R0:=J r0
 have HI:=J (hi.keep0 N.o)
 have V:=J (ho.keep N.o)
 have HV:=J R
 have HF:=J (zbr (w.alloc (.cells #[.int .u32 t.ver,.slice q t.ins.length r,.slice s t.outs.length u] 62)) (HT.o.keep N.o))
 have au:[Value.int .u32 t.ver,.slice q t.ins.length r,.slice s t.outs.length u].toArray= #[Value.int .u32 t.ver,.slice q t.ins.length r,.slice s t.outs.length u]:=rfl
 clear hi ho R
 show Calls prog 43 #[.agg #[.int .u32 t.ver,.slice q t.ins.length r,.slice s t.outs.length u]] w _
 by_cases hfm:yV t=true
 rotate_left
 ·have k:yV t=false:=by simpa using hfm
  rw[k] at HF
  have HP:=@J (∀w',Fr No w w'→VU w t (.returned (.tuple #[.slice none 0 0,.int .i64 5])) w') (λw' f=>⟨.slice none 0 0,by rw[k];rfl,f,by rw[k];rfl⟩)
  clear hfm k c0 c1 c2 r0
  go_enter Tryz.func43,Tryz.ntmps43
  go_wp2_with (first|(refine ziU rfl rfl rfl R0.o rfl ?_;generalize w.alloc (.cells #[.int .u32 t.ver,.slice q t.ins.length r,.slice s t.outs.length u] 62)=w1 at*)|(go_at_call 59;refine HF.o.mono ?_;rintro e w2 ⟨rfl,Q⟩;have F2:=J Q;clear Q))
  go_ret2
  exact HP.o _ (N.o.trans0 F2.o)
 ·obtain⟨hk,av,aw⟩:=qi.1 hfm
  rw[hfm] at HF
  have HK:=J hk
  have HP:=@J (∀v w',Fr No w w'→yC w' (w.heap.size+1) v (txB t)→VU w t (.returned (.tuple #[v,.int .i64 0])) w') (λv w' f h=>⟨v,by rw[hfm];rfl,f,by rw[if_pos hfm];exact qs h (Nat.le_succ _)⟩)
  clear hk hfm c0 c1 c2 r0
  go_enter Tryz.func43,Tryz.ntmps43
  have v1:=HV.o.1
  have v2:=HV.o.2
  have e1:(t.ins.length:Int) % 256=(t.ins.length:Int):=by omega
  have e2:(t.outs.length:Int) % 256=(t.outs.length:Int):=by omega
  have⟨M0,M1,M2,M3⟩:=tZ4
  go_wp2_with ((first|((with_reducible refine zt ?_);first|(clear M0;refine ziU rfl rfl rfl R0.o rfl ?_;generalize w.alloc (.cells #[.int .u32 t.ver,.slice q t.ins.length r,.slice s t.outs.length u] 62)=w1 at*)|(clear M3;at_builtin;refine zk rfl rfl rfl rfl T.o ?_;have cC:=F4.o.cell C1.o id))|(clear M1;go_at_call 59;refine HF.o.mono ?_;rintro e w2 ⟨rfl,Q⟩;have F2:=J (N.o.trans0 Q);have C:=J Q;clear Q;have cA:=C.o.cell C0.o id)|(clear M2;go_at_call 60;refine(Xy (yC.nil w2 (w.heap.size+1)) (by have:=m.o;have:=C.o.size;omega) (x:=t.ver) (by omega) (n:=4) (by decide) (by decide)).mono ?_;rintro e w3 ⟨v3,rfl,b3,f3,-⟩;have y:=J (C.o.trans f3 (λi hi e=>(by cases e)));rw[List.nil_append] at b3;have BL:=J (xh 4 t.ver);have B:=J b3;clear f3 b3;have cB:=y.o.cell C1.o id;obtain⟨v4,S,d,g,c,z⟩:=yT w3 (x:=t.ins.length) B.o (by rw[BL.o];decide) (by have:=m.o;have:=y.o.size;omega) 84;have T:=J d;have B4:=J g;have F4:=J (y.o.trans c (λi hi e=>(show False by have:=(B.o.lt i e).1;have:=m.o;omega)));clear d g c z));go_frame)
  have af:=@J ((leB 4 t.ver++[(t.ins.length:Int)]).length=5) (by rw[length_append,xh];rfl)
  have LE:=@J (txB t=leB 4 t.ver++[(t.ins.length:Int)]++t.ins.flatMap inB++([(t.outs.length:Int)]++t.outs.flatMap vC)) (by simp[txB])
  have ag:=@J (∀x∈t.ins,x.from_.ok) (λx j=>by
   obtain⟨i,hi⟩:=List.mem_iff_getElem?.1 j
   obtain⟨_,_,_,_,_,_,_,_,_,h,_⟩:=HI.o.at_ hi
   exact h)
  generalize leB 4 t.ver++[(t.ins.length:Int)]=X at*
  go_loopw [4,26] (λbv H wr=>∃n:Nat,H=.int .i64 n∧n≤t.ins.length∧yC wr (w.heap.size+1) bv (X++(t.ins.take n).flatMap inB)∧Fr No w1 wr) (λ_ H _=>t.ins.length-(intOf H).toNat)
  case atStart=>exact⟨0,rfl,zero_le _,by simpa using B4.o,F4.o⟩
  case round=>
   obtain⟨n,rfl,hn,E,fr⟩:=hrel
   have FR:=J fr
   have L:=J E
   have SZ:=@J (w.heap.size+1≤wr.heap.size) (by have:=fr.size;have:=m.o;omega)
   have P:=@J ((X++(t.ins.take n).flatMap inB).length≤5+101*n) (by
    rw[length_append,af.o]
    have:=Y7 (l:=t.ins.take n) (λx j=>ag.o x (List.mem_of_mem_take j)) (λx j=>HK.o x (List.mem_of_mem_take j))
    rw[length_take] at this
    omega)
   obtain⟨ba,bc,o⟩:=E.form
   clear fr E
   by_cases F:n<t.ins.length
   ·have i1:(n:Int)<(t.ins.length:Int):=by omega
    obtain⟨x,j⟩:∃x,t.ins[n]? =some x:=⟨_,getElem?_eq_getElem F⟩
    have TF:=J (vG inB j)
    have KL:=J (HK.o x (mem_of_getElem? j))
    obtain⟨b,off,aj,cs,R,hr,I,K,rfl,a,A⟩:=HI.o.at_ j
    cases R
    have R1:=J (zb hr FR.o id)
    have OK:=J a
    have ah:=J A
    have W:=J (vl a (.slice I x.key.length K))
    have O:=J ((frN wr).alloc (.cells (inC x.from_ (.slice I x.key.length K)).toArray 106))
    have D:=@J ((wr.alloc (.cells (inC x.from_ (.slice I x.key.length K)).toArray 106)).heap.size=wr.heap.size+1) (by simp)
    obtain⟨n1,n2⟩:=jO wr (kv:=.slice I x.key.length K) a
    obtain⟨n3,n4⟩:=zhe n1 a
    have N2:=J n2
    have N4:=@J ((wr.alloc (.cells (inC x.from_ (.slice I x.key.length K)).toArray 106)).cell? ⟨wr.heap.size,32,none⟩=some (.int .u32 x.from_.n)) (by simpa using n4)
    obtain⟨v3,w3,d,g,c,z⟩:=yq _ (L.o.keep0 O.o) (Jf n3 a.1.1 (by have:=D.o;omega)) (by have:=P.o;rw[a.1.1];omega) (by have:=SZ.o;have:=D.o;omega) 84
    have T:=J d
    have B:=J g
    have y:=J (yC.step (FR.o.trans0 O.o) (L.o.keep0 O.o) (by have:=m.o;omega) c)
    have M:=L.o.ne (le_refl _)
    have D3:=J (z.ne M (by have:=D.o;omega))
    have ao:=c.cell N4.o M
    have ad:=J (c.cell N2.o M)
    have QL:=@J (wr.heap.size<w3.heap.size) (by have:=c.size;have:=D.o;omega)
    have al:=a.2.1
    have an:=a.2.2
    have ax:(x.key.length:Int) % 256=(x.key.length:Int):=by have:=KL.o;omega
    have Y:=@J (x.from_.tx.length=32) (a.1.1)
    clear n1 n2 n3 n4 d g c z hr A a j M
    subst o
    generalize ab:X++(t.ins.take n).flatMap inB=Ln at*
    have⟨K0,K1,K2,K3,K4,K5⟩:=tZ6
    go_wp2_with ((first|((with_reducible refine zt ?_);first|(clear K0;refine ziV rfl rfl rfl R1.o W.o ?_)|(clear K2;at_builtin;refine zk rfl rfl rfl rfl T.o ?_)|(clear K4;at_builtin;refine zk rfl rfl rfl rfl A5.o ?_)|(clear K5;at_builtin;refine zk rfl rfl rfl rfl A6.o ?_))|((with_reducible refine zr ?_);clear K1;refine zi4 (w:=wr) (cs:=inC x.from_ (.slice I x.key.length K)) rfl rfl rfl rfl W.o qD ?_;generalize wr.alloc (.cells (inC x.from_ (.slice I x.key.length K)).toArray 106)=wA at*)|(clear K3;go_at_call 60;refine(Xy B.o (by have:=SZ.o;have:=QL.o;omega) (x:=x.from_.n) (by omega) (n:=4) (by decide) (by rw[length_append,Y.o];have:=P.o;omega)).mono ?_;rintro e S ⟨v4,rfl,b4,p,g4⟩;have U:=J b4;have F5:=J (yC.step y.o B.o (by have:=m.o;omega) p);have D5:=J (g4.ne D3.o QL.o);have C5:=J (p.cell ad.o D3.o);have aq:=C5.o;have Q5:=@J (wr.heap.size<S.heap.size) (by have:=p.size;have:=QL.o;omega);have L5:=@J ((Ln++x.from_.tx++leB 4 x.from_.n).length≤41+101*n) (by simp only[length_append,Y.o,xh];have:=P.o;omega);clear b4 p g4;obtain⟨v5,w5,d,g,c,z⟩:=yT S (x:=x.key.length) U.o (by have:=L5.o;omega) (by have:=SZ.o;have:=Q5.o;omega) 84;have A5:=J d;have B6:=J g;have F6:=J (yC.step F5.o U.o (by have:=m.o;omega) c);have c5:=c.cell C5.o D5.o;have Q6:=@J (wr.heap.size<w5.heap.size) (by have:=c.size;have:=Q5.o;omega);clear d g c z;obtain⟨v6,w6,d,g,c,-⟩:=yq w5 B6.o (ah.o.2.keep F6.o) (by have:=L5.o;have:=KL.o;rw[length_append];simp only[List.length_singleton];omega) (by have:=SZ.o;have:=Q6.o;omega) 84;have A6:=J d;have B7:=J g;have F7:=J (yC.step F6.o B6.o (by have:=m.o;omega) c);clear d g c));go_frame)
    go_roundw
    case rel=>exact⟨n+1,by go_num,by omega,by rw[TF.o,←List.append_assoc,ab];simpa[inB] using B7.o,F7.o⟩
    case measure=>simp[intOf];omega
   ·have G:n=t.ins.length:=by omega
    subst G
    have i1:¬(t.ins.length:Int)<(t.ins.length:Int):=by omega
    rw[take_length] at L P
    have c2:=FR.o.cell C2.o id
    obtain⟨v3,w3,d,g,c,z⟩:=yT wr (x:=t.outs.length) L.o (by have:=P.o;omega) SZ.o 84
    have T:=J d
    have B:=J g
    have y:=J (yC.step FR.o L.o (by have:=m.o;omega) c)
    have cD:=y.o.cell C2.o id
    have ai:=@J ((X++t.ins.flatMap inB++[(t.outs.length:Int)]).length≤1000) (by
     rw[length_append]
     have:=P.o
     simp only[List.length_singleton]
     omega)
    rw[←List.append_assoc] at LE
    have Z:=J V.o.1
    clear d g c z
    subst o
    generalize ab:X++t.ins.flatMap inB=Ln at*
    go_wp2_with (first|(at_builtin;refine zk rfl rfl rfl rfl T.o ?_))
    generalize ar:Ln++[(t.outs.length:Int)]=Lm at*
    go_loopw [4,63] (λbv H wr=>∃n:Nat,H=.int .i64 n∧n≤t.outs.length∧yC wr (w.heap.size+1) bv (Lm++(t.outs.take n).flatMap vC)∧Fr No w1 wr) (λ_ H _=>t.outs.length-(intOf H).toNat)
    case atStart=>exact⟨0,rfl,zero_le _,by simpa using B.o,y.o⟩
    case round=>
     obtain⟨n,rfl,hn,E,fr⟩:=hrel
     have FS:=J fr
     have BS:=J E
     have SY:=@J (w.heap.size+1≤wr.heap.size) (by have:=fr.size;have:=m.o;omega)
     have aa:=@J ((Lm++(t.outs.take n).flatMap vC).length≤1000+40*n) (by
      rw[length_append,Jl (λx j=>Z.o x (List.mem_of_mem_take j)),length_take]
      have:=ai.o
      omega)
     obtain⟨ba,bc,o⟩:=E.form
     clear fr E
     by_cases F:n<t.outs.length
     ·have i1:(n:Int)<(t.outs.length:Int):=by omega
      obtain⟨x,j⟩:∃x,t.outs[n]? =some x:=⟨_,getElem?_eq_getElem F⟩
      have TF:=J (vG vC j)
      obtain⟨b,off,aj,R,hr,-⟩:=V.o.at_ j
      cases R
      have a:=Z.o x (mem_of_getElem? j)
      have R1:=J (zb hr FS.o id)
      have OK:=J a
      have W:=J (z6 a)
      have O:=J ((frN wr).alloc (.cells (zx x).toArray 68))
      have D:=@J ((wr.alloc (.cells (zx x).toArray 68)).heap.size=wr.heap.size+1) (by simp)
      obtain⟨n1,n2⟩:=vt wr a
      have N2:=J n2
      have al:=a.1.1
      have an:=a.1.2
      have Y:=J a.2.1
      have M:=J (BS.o.ne (le_refl _))
      have FW:=J (FS.o.trans0 O.o)
      have BW:=J (BS.o.keep0 O.o)
      clear n2 hr a j
      subst o
      generalize ak:Lm++(t.outs.take n).flatMap vC=Lo at*
      have⟨K0,K1,K2,K3⟩:=tZ4
      go_wp2_with ((first|((with_reducible refine zt ?_);first|(clear K0;refine ziW rfl rfl rfl R1.o W.o ?_)|(clear K3;at_builtin;refine zk rfl rfl rfl rfl A6.o ?_))|((with_reducible refine zr ?_);clear K1;refine zi5 (w:=wr) (cs:=zx x) rfl rfl rfl rfl W.o zV ?_;generalize wr.alloc (.cells (zx x).toArray 68)=wA at*)|(clear K2;go_at_call 60;refine(Xy BW.o (by have:=SY.o;have:=D.o;omega) (x:=x.value) (by omega) (n:=8) (by decide) (by have:=aa.o;omega)).mono ?_;rintro e S ⟨v4,rfl,b4,p,g4⟩;have U:=J b4;have F5:=J (yC.step FW.o BW.o (by have:=m.o;omega) p);have N5:=J (zb N2.o p M.o);have Q5:=@J (wr.heap.size<S.heap.size) (by have:=p.size;have:=D.o;omega);clear b4 p g4;obtain⟨v6,w6,d,g,c,-⟩:=yq S U.o (Jf N5.o Y.o Q5.o) (by simp only[length_append,Y.o,xh];have:=aa.o;omega) (by have:=SY.o;have:=Q5.o;omega) 84;have A6:=J d;have B7:=J g;have F7:=J (yC.step F5.o U.o (by have:=m.o;omega) c);clear d g c));go_frame)
      go_roundw
      case rel=>exact⟨n+1,by go_num,by omega,by rw[TF.o,←List.append_assoc,ak];simpa[vC] using B7.o,F7.o⟩
      case measure=>simp[intOf];omega
     ·have G:n=t.outs.length:=by omega
      subst G
      have i1:¬(t.outs.length:Int)<(t.outs.length:Int):=by omega
      rw[take_length] at BS
      have ae:=J (HP.o _ wr (N.o.trans0 FS.o) (by rw[LE.o];exact BS.o))
      subst o
      generalize (Lm++(t.outs.take t.outs.length).flatMap vC).length=zz at*
      go_wp2
      go_ret2
      exact ae.o
def idE (t:TxD):Int:=if yV t=true then 0 else 5
def idH (t:TxD):zY:=if yV t=true then xL (txB t) else z7
theorem vk (t:TxD):xU (idH t):=by
 unfold idH
 split
 ·exact jh _
 ·exact j5
theorem zdI {t:TxD} (h:yV t=true) (hi:∀x∈t.ins,x.from_.ok) (d:∀x∈t.outs,x.ok):(txB t).length≤100000:=by
 obtain⟨c,e,f⟩:=qi.1 h
 have a:=Y7 hi c
 have b:=Jl d
 simp only[txB,length_append,length_cons,xh]
 omega
theorem TxQ.oks {t:TxD} (h:TxQ w t cs):(∀x∈t.ins,x.from_.ok)∧∀x∈t.outs,x.ok:=by
 obtain⟨d,e,f,g,-,-,hi,b⟩:=h
 refine⟨λx c=>?_,b.1⟩
 obtain⟨i,a⟩:=List.mem_iff_getElem?.1 c
 obtain⟨_,_,_,_,_,_,_,_,_,h,_⟩:=hi.at_ a
 exact h
theorem TxQ.form {t:TxD} (h:TxQ w t cs):∃a b c d,cs=[.int .u32 t.ver,.slice a t.ins.length b,.slice c t.outs.length d]:=by
 obtain⟨a,b,c,d,e,-⟩:=h
 exact⟨a,b,c,d,e⟩
theorem xN:(zl z7).toArray.size=32:=rfl
theorem jt (w:World):(Instr.build 40 #[]).run prog w=.ok (.agg (zl z7).toArray) w:=by kernel_rfl
theorem zcK (Q:jM w) {t:TxD} (y:TxQ w t cs):
  Calls prog 27 #[.agg cs.toArray] w λe w'=>e=.returned (.tuple #[.agg (zl (idH t)).toArray,.int .i64 (idE t)])∧Fr No w w':=by
 have zH:=qt
 obtain⟨dH,S,R⟩:=JW
 obtain⟨k,l,m,o,F⟩:=y.form
 subst F
 have K:=J y.oks
 have N:Fr No w (w.alloc (.cells #[.int .u32 t.ver,.slice k t.ins.length l,.slice m t.outs.length o] 62)):=(frN w).alloc _
 have R0:=J (zb (qF w t.ver (.slice k t.ins.length l) (.slice m t.outs.length o)).2.2.2 ((frN _).alloc (.cells (zl z7).toArray 40)) id)
 have x:=J (N.alloc (.cells (zl z7).toArray 40))
 have H:=J (xK (w.alloc (.cells #[.int .u32 t.ver,.slice k t.ins.length l,.slice m t.outs.length o] 62)) (.cells (zl z7).toArray 40) (n:=w.heap.size+1) (by simp))
 have M:=J (zgL _ (y.keep x.o))
 have U:=J (Q.keep0 x.o)
 have W:=J (λh=>zdI (t:=t) h K.o.1 K.o.2)
 clear y N Q
 show Calls prog 27 #[.agg #[.int .u32 t.ver,.slice k t.ins.length l,.slice m t.outs.length o]] w _
 go_enter Tryz.func27,Tryz.ntmps27
 by_cases a:yV t=true
 ·have q:=@J (idE t=0∧idH t=xL (txB t)) (⟨by simp[idE,a],by simp[idH,a]⟩)
  have E:=J (W.o a)
  have d:=J a
  have f:=@J ((zl (xL (txB t))).length=32) (yr (jh _))
  clear a
  have⟨A,B,C,D⟩:=tZ4
  go_wp2_with ((first|((with_reducible refine zt ?_);clear A;refine ziU rfl rfl rfl R0.o rfl ?_;generalize (w.alloc (.cells #[.int .u32 t.ver,.slice k t.ins.length l,.slice m t.outs.length o] 62)).alloc (.cells (zl z7).toArray 40)=w2 at*)|(clear B;go_at_call 43;refine M.o.mono ?_;rintro e u ⟨v,rfl,s,g⟩;rw[if_pos d.o] at g;rw[if_pos d.o];have j:=J s;have T:=J g;obtain⟨Z,vc,G⟩:=g.form;subst G;have V:=J (U.o.keep0 j.o);have z:=@J (Fr No u (u.alloc (.cells #[.slice Z (txB t).length vc] 84))) ((frN u).alloc _);have r:=J (zau (V.o.keep0 z.o) (v:=.slice (some ⟨u.heap.size,0,none⟩) 1 1) (L:=[txB t]) (Vm T.o.slice.arg) (by simp) (by have:=E.o;simp;omega));rw[show[txB t].flatten=txB t by simp] at r;clear s g;generalize xL (txB t)=X at*)|(clear C;go_at_call 28;refine r.o.mono ?_;rintro e w5 ⟨rfl,O⟩;have I:=J O;clear O;have p:=J (I.o.obj (z.o.obj (j.o.obj H.o id) id) id))|((with_reducible refine zr ?_);clear D;refine ze rfl (zy (ty:=40) (b:=w.heap.size+1) (off:=0) (cs:=zl X) rfl rfl rfl (by rw[f.o];exact zM p.o (Nat.le_of_eq xN.symm)) (by rw[f.o];exact yG) zX) ?_));go_frame)
  refine bodyPost_ret (zR (P:=prog) (fn:=Tryz.f27) rfl _ rfl (yE p.o (by rw[f.o];exact xN)) S R (by rw[f.o];exact yG) rfl) rfl ⟨by rw[q.o.1,q.o.2];rfl,?_⟩
  exact(((x.o.trans0 j.o).trans0 z.o).trans0 I.o).trans (zv _ _ _ _) (λi hi e=>by omega)
 ·have c:yV t=false:=by simpa using a
  have q:=@J (idE t=5∧idH t=z7) (⟨by simp[idE,c],by simp[idH,c]⟩)
  have d:=J c
  have f:=@J ((zl z7).length=32) (rfl)
  clear a c
  have⟨A,B,C,D⟩:=tZ4
  go_wp2_with ((first|((with_reducible refine zt ?_);first|(clear A;refine ziU rfl rfl rfl R0.o rfl ?_;generalize (w.alloc (.cells #[.int .u32 t.ver,.slice k t.ins.length l,.slice m t.outs.length o] 62)).alloc (.cells (zl z7).toArray 40)=w2 at*)|(clear C;with_reducible refine xF 13 ?_;refine zg rfl (yl (t:=40) rfl rfl (jt _)) ?_))|(clear B;go_at_call 43;refine M.o.mono ?_;rintro e u ⟨v,rfl,s,g⟩;rw[d.o] at g;have Y:v=.slice none 0 0:=g;subst Y;rw[d.o];have j:=J s;clear s g;have p:=J (j.o.obj H.o id))|((with_reducible refine zr ?_);clear D;refine ze rfl (zy (ty:=40) (b:=w.heap.size+1) (off:=0) (cs:=zl z7) rfl rfl rfl (by rw[f.o];exact zM p.o (Nat.le_of_eq xN.symm)) (by rw[f.o];exact yG) zX) ?_));go_frame)
  refine bodyPost_ret (zR (P:=prog) (fn:=Tryz.f27) rfl _ rfl (yE p.o (by rw[f.o];exact xN)) S R (by rw[f.o];exact yG) rfl) rfl ⟨by rw[q.o.1,q.o.2];rfl,?_⟩
  exact(x.o.trans0 j.o).trans (zv _ _ _ _) (λi hi e=>by omega)
def xP (id:zY) (l:List yk):List zh:=l.mapIdx λi x=>⟨⟨id,(i:Int)⟩,x⟩
theorem xZ (id:zY) (l:List yk):(xP id l).length=l.length:=by simp[xP]
theorem JI (id:zY) {l:List yk} {i:Nat} {x:yk} (h:l[i]? =some x):(xP id l)[i]? =some ⟨⟨id,(i:Int)⟩,x⟩:=by simp[xP,h]
theorem Jh {id:zY} {l:List yk} (hi:xU id) (e:∀x∈l,x.ok) (g:l.length≤4294967296):∀c∈xP id l,c.ok:=by
 intro c d
 obtain⟨i,a⟩:=List.mem_iff_getElem?.1 d
 have b:i<l.length:=by have:=(List.getElem?_eq_some_iff.1 a).1;rwa [xZ] at this
 have f:l[i]? =some l[i]:=getElem?_eq_getElem b
 rw[JI id f] at a
 cases a
 exact⟨⟨hi,by show(0:Int)≤(i:Int);omega,by show(i:Int)≤_;omega⟩,e _ (List.getElem_mem b)⟩
theorem Xf:vz prog 72=some (33,[(0,32),(32,1)]):=by kernel_rfl
theorem Qn {h:zY} (c:xU h) (n:Int):Jb (([(0,32),(32,1)]:List (Nat×Nat)).toArray[·]?) 0 [(0,.agg (zl h).toArray),(1,.int .u32 n)]:=by
 have a:(Value.agg (zl h).toArray).cells.size=32:=by show(zl h).toArray.size=32;simpa using yr c
 have b:(Value.int .u32 n).cells.size=1:=rfl
 simp only[Jb,a,b]
 exact⟨rfl,rfl,trivial⟩
theorem Xe (h:zY) (n:Int):qB [(0,.agg (zl h).toArray),(1,.int .u32 n)]=zi ⟨h,n⟩:=by
 have a:(Value.agg (zl h).toArray).cells.toList=zl h:=by show(zl h).toArray.toList=_;simp
 have b:(Value.int .u32 n).cells.toList=[.int .u32 n]:=rfl
 simp only[qB,List.flatMap_cons,List.flatMap_nil,a,b,zi,List.append_nil]
 rfl
theorem Zc:vz prog 103=some (66,[(0,33),(33,33)]):=by kernel_rfl
theorem Yp {p:zE} {o:yk} (c:p.ok) (b:o.ok):Jb (([(0,33),(33,33)]:List (Nat×Nat)).toArray[·]?) 0 [(0,.agg (zi p).toArray),(1,.agg (zx o).toArray)]:=by
 have h:(Value.agg (zi p).toArray).cells.size=33:=by show(zi p).toArray.size=33;simpa using zF c
 have a:(Value.agg (zx o).toArray).cells.size=33:=by show(zx o).toArray.size=33;simpa using z6 b
 simp only[Jb,h,a]
 exact⟨rfl,rfl,trivial⟩
theorem Zb (p:zE) (o:yk):qB [(0,.agg (zi p).toArray),(1,.agg (zx o).toArray)]=zw ⟨p,o⟩:=by
 have h:(Value.agg (zi p).toArray).cells.toList=zi p:=by show(zi p).toArray.toList=_;simp
 have a:(Value.agg (zx o).toArray).cells.toList=zx o:=by show(zx o).toArray.toList=_;simp
 simp[qB,zw,h,a]
theorem Xx {α:Type} (f:α→List Value) {k:Nat} {A:List α} {y:α} (e:A[n]? =some y) (b:(f y).length=k) (d:xs.take (n*k)=(A.take n).flatMap f) (c:n*k+k≤xs.length):
  (setM xs (n*k) (f y)).take ((n+1)*k)=(A.take (n+1)).flatMap f:=by
 have a:=Vv xs (f y) (n*k) (by rw[b];exact c)
 rw[b] at a
 rw[show(n+1)*k=n*k+k by rw[Nat.add_mul,Nat.one_mul],a,d,take_add_one,e]
 simp
theorem ZB (w:World) {id:zY} (hi:xU id) {l:List yk} (W:xA w v l) (hN:l.length≤1000):
  Calls prog 24 #[.agg (zl id).toArray,v] w λe w'=>∃v',e=.returned v'∧w'.ownsRow w.heap.size 103 66 v' l.length ((xP id l).flatMap zw)∧Fr No w w':=by
 obtain⟨iK,D,hz,a,B⟩:=info_parts xR
 have zo:=yA
 have F1:=(frN w).alloc (.cells (zl id).toArray 40)
 have H:(w.alloc (.cells (zl id).toArray 40)).heap.size=w.heap.size+1:=by simp
 obtain⟨w2,F,d,C⟩:=run_makeSlice_full (P:=prog) (w:=w.alloc (.cells (zl id).toArray 40)) (w.heap.size) 49 103 iK _ 66 yQ D hz a .i64 .i64 l.length (by omega) (by rw[B];omega) (by unfold maxLen;omega) (by simp)
 have m:Fr No (w.alloc (.cells (zl id).toArray 40)) w2:=Fr.of_grown C (λk e=>by cases e)
 have F2:=J (F1.trans0 m)
 have O:=J (m.obj (zS w (.cells (zl id).toArray 40)) _root_.id)
 rw[H] at F d
 have r:=J d
 have HL:=J W
 have y:=J hi
 have Q:=J (yr hi)
 obtain⟨va,vc,rfl⟩:=W.2.form
 have z:=@J (w.heap.size+1<w2.heap.size) ((d.lt _ rfl).2)
 clear hi W D hz a B d C m H
 go_enter Tryz.func24,Tryz.ntmps24
 go_wp2_with fail
 clear F
 obtain⟨g,o⟩:∃g,g=w.heap.size+1:=⟨_,rfl⟩
 have Z:=J o
 rw[←o] at r z⊢
 clear o
 go_loopw [13] (λY wr=>∃(n:Nat) (xs:List Value),Y=.int .i64 n∧n≤l.length∧wr.ownsRow (w.heap.size) 103 66 (.slice (some ⟨g,0,none⟩) l.length l.length) l.length xs∧xs.take (n*66)=((xP id l).take n).flatMap zw∧Fr No w wr∧g<wr.heap.size∧wr.heap[w.heap.size]? =some (.cells (zl id).toArray 40 (0,0))) (λY _=>l.length-(intOf Y).toNat)
 case atStart=>exact⟨0,_,rfl,zero_le _,r.o,by simp,F2.o,z.o,O.o⟩
 case round=>
  obtain⟨n,xs,rfl,hn,G,I,fr,a,A⟩:=hrel
  have N:=J fr
  have c:=J G
  have u:=J I
  have S:=J a
  have q:=J A
  clear fr G I a A
  by_cases E:n<l.length
  ·have i1:(n:Int)<(l.length:Int):=by omega
   obtain⟨x,L⟩:∃x,l[n]? =some x:=⟨_,getElem?_eq_getElem E⟩
   obtain⟨b,off,aa,hv,hr,-⟩:=(HL.o.keep N.o).at_ L
   cases hv
   have j:=J (HL.o.1 x (mem_of_getElem? L))
   have U:=J (z6 j.o)
   have R1:=J hr
   have f:=@J ((⟨id,(n:Int)⟩:zE).ok) (⟨y.o,by show(0:Int)≤(n:Int);omega,by show(n:Int)≤_;omega⟩)
   have HX:=J (JI id L)
   have p:=@J ((zw ⟨⟨id,(n:Int)⟩,x⟩).length=66) (yv ⟨f.o,j.o⟩)
   have PL:=J (zF f.o)
   have V:(n:Int) % 4294967296=(n:Int):=by omega
   have K:=(frN wr).alloc (.cells (zx x).toArray 68)
   have M:=J K
   have RO:=J (zK wr (zx x) 68)
   have RH:=@J ((wr.alloc (.cells (zx x).toArray 68)).rangeAt (w.heap.size) 0 (zl id)) (zb (zm q.o) K (λh=>h))
   have s:=J (zf c.o K (λ_ _=>_root_.id))
   have TH:=J (J8 s.o E)
   have R:=J (J7 s.o (n*66) (cs:=zw ⟨⟨id,(n:Int)⟩,x⟩) (by rw[p.o];omega))
   have T:=J (Xx zw HX.o p.o u.o (by rw[c.o.1];omega))
   clear hr L K
   have⟨K0,K1,K2,K3,K4,K5,K6⟩:=tZ7
   go_wp2_with ((first|((with_reducible refine zt ?_);first|(clear K0;refine ziW rfl rfl rfl R1.o U.o ?_)|(clear K2;refine ziT rfl rfl rfl RH.o Q.o ?_)|(clear K3;refine zg rfl (qj (t:=72) (vs:=[(0,.agg (zl id).toArray),(1,.int .u32 n)]) rfl (by simp[Act.eval,V]) Xf (Qn y.o n) (Xe id n) (by rw[PL.o])) ?_)|(clear K4;refine ziW rfl rfl rfl RO.o U.o ?_)|(clear K5;refine zg rfl (qj (t:=103) (vs:=[(0,.agg (zi ⟨id,(n:Int)⟩).toArray),(1,.agg (zx x).toArray)]) rfl rfl Zc (Yp f.o j.o) (Zb _ _) (by rw[p.o])) ?_))|((with_reducible refine zr ?_);first|(clear K1;refine zi5 (w:=wr) (cs:=zx x) rfl rfl rfl rfl U.o zV ?_;generalize wr.alloc (.cells (zx x).toArray 68)=wA at*)|(clear K6;refine ze rfl (zy (ty:=103) (b:=g) (off:=n*66) (cs:=zw ⟨⟨id,(n:Int)⟩,x⟩) rfl rfl rfl (by rw[p.o];exact TH.o) (by rw[p.o];exact xI) yz) ?_)));go_frame)
   go_roundw
   case rel=>exact⟨n+1,_,by go_num,by omega,R.o,T.o,(N.o.trans0 M.o).trans (zv _ _ _ _) (λi hi e=>by have:=Z.o;omega),by have:=(zv g (zw ⟨⟨id,(n:Int)⟩,x⟩) (n*66) wA).size;have:=M.o.size;have:=S.o;omega,(zv g (zw ⟨⟨id,(n:Int)⟩,x⟩) (n*66) wA).obj (M.o.obj q.o _root_.id) (λe=>by have:=Z.o;omega)⟩
   case measure=>simp[intOf];omega
  ·have X:n=l.length:=by omega
   have i1:¬(n:Int)<(l.length:Int):=by omega
   have HE:=@J (xs=(xP id l).flatMap zw) (by
    have:=u.o
    rw[X,take_of_length_le (by rw[c.o.1];exact le_refl _),take_of_length_le (by rw[xZ];exact le_refl _)] at this
    exact this)
   go_wp2
   go_ret
   exact⟨_,rfl,by rw[←HE.o];exact c.o,N.o⟩
def yI (t:TxD):List zE:=t.ins.map (·.from_)
theorem Vq (w:World) {t:TxD} (ht:TxQ w t cs) (hN:t.ins.length≤1000):
  Calls prog 66 #[.agg cs.toArray] w λe w'=>∃Z,e=.returned Z∧w'.ownsRow w.heap.size 72 33 Z t.ins.length ((yI t).flatMap zi)∧Fr No w w':=by
 obtain⟨l,m,o,p,rfl,-,hi,-⟩:=ht
 obtain⟨iK,A,Y,a,y⟩:=info_parts jP
 have zI:=vX
 have F1:=(frN w).alloc (.cells #[.int .u32 t.ver,.slice l t.ins.length m,.slice o t.outs.length p] 62)
 have F:(w.alloc (.cells #[.int .u32 t.ver,.slice l t.ins.length m,.slice o t.outs.length p] 62)).heap.size=w.heap.size+1:=by simp
 obtain⟨w2,D,d,z⟩:=run_makeSlice_full (P:=prog) (w:=w.alloc (.cells #[.int .u32 t.ver,.slice l t.ins.length m,.slice o t.outs.length p] 62)) (w.heap.size) 115 72 iK _ 33 qH A Y a .i64 .i64 t.ins.length (by omega) (by rw[y];omega) (by unfold maxLen;omega) (by simp)
 have h:Fr No (w.alloc (.cells #[.int .u32 t.ver,.slice l t.ins.length m,.slice o t.outs.length p] 62)) w2:=Fr.of_grown z (λk e=>by cases e)
 have F2:=J (F1.trans0 h)
 obtain⟨c0,c1,-,-⟩:=qF w t.ver (.slice l t.ins.length m) (.slice o t.outs.length p)
 have Q:=h.cell c1 _root_.id
 rw[F] at D d
 have r:=J d
 have HI:=J hi
 have v:=@J (w.heap.size+1<w2.heap.size) ((d.lt _ rfl).2)
 clear hi A Y a y d z h F
 show Calls prog 66 #[.agg #[.int .u32 t.ver,.slice l t.ins.length m,.slice o t.outs.length p]] w _
 go_enter Tryz.func66,Tryz.ntmps66
 go_wp2_with fail
 clear D c0 c1 Q
 obtain⟨g,j⟩:∃g,g=w.heap.size+1:=⟨_,rfl⟩
 have G0:=J j
 rw[←j] at r v⊢
 clear j
 go_loopw [13] (λU wr=>∃(n:Nat) (xs:List Value),U=.int .i64 n∧n≤t.ins.length∧wr.ownsRow (w.heap.size) 72 33 (.slice (some ⟨g,0,none⟩) t.ins.length t.ins.length) t.ins.length xs∧xs.take (n*33)=((yI t).take n).flatMap zi∧Fr No w wr∧g<wr.heap.size) (λU _=>t.ins.length-(intOf U).toNat)
 case atStart=>exact⟨0,_,rfl,zero_le _,r.o,by simp,F2.o,v.o⟩
 case round=>
  obtain⟨n,xs,rfl,hn,E,G,fr,a⟩:=hrel
  have K:=J fr
  have c:=J E
  have u:=J G
  have M:=J a
  clear fr E G a
  by_cases C:n<t.ins.length
  ·have i1:(n:Int)<(t.ins.length:Int):=by omega
   obtain⟨x,T⟩:∃x,t.ins[n]? =some x:=⟨_,getElem?_eq_getElem C⟩
   obtain⟨b,off,aa,cs,hv,X,H,I,rfl,f,B⟩:=(HI.o.keep0 K.o).at_ T
   cases hv
   have R1:=J X
   have O:=J f
   have W:=J (vl f (.slice H x.key.length I))
   have HX:=@J ((yI t)[n]? =some x.from_) (by simp[yI,T])
   have q:=J (zF O.o)
   have R:=(frN wr).alloc (.cells (inC x.from_ (.slice H x.key.length I)).toArray 106)
   have V:=J R
   have RP:=J (jO wr (kv:=.slice H x.key.length I) f).1
   have s:=J (zf c.o R (λ_ _=>_root_.id))
   have TH:=J (J8 s.o C)
   have L:=J (J7 s.o (n*33) (cs:=zi x.from_) (by rw[q.o];omega))
   have N:=J (Xx zi HX.o q.o u.o (by rw[c.o.1];omega))
   clear X T R B f
   have⟨K0,K1,K2,K3⟩:=tZ4
   go_wp2_with ((first|((with_reducible refine zt ?_);first|(clear K0;refine ziV rfl rfl rfl R1.o W.o ?_)|(clear K2;refine ziX rfl rfl rfl RP.o q.o ?_))|((with_reducible refine zr ?_);first|(clear K1;refine zi4 (w:=wr) (cs:=inC x.from_ (.slice H x.key.length I)) rfl rfl rfl rfl W.o qD ?_;generalize wr.alloc (.cells (inC x.from_ (.slice H x.key.length I)).toArray 106)=wA at*)|(clear K3;refine ze rfl (zy (ty:=72) (b:=g) (off:=n*33) (cs:=zi x.from_) rfl rfl rfl (by rw[q.o];exact TH.o) (by rw[q.o];exact yL) yB) ?_)));go_frame)
   go_roundw
   case rel=>exact⟨n+1,_,by go_num,by omega,L.o,N.o,(K.o.trans0 V.o).trans (zv _ _ _ _) (λi hi e=>by have:=G0.o;omega),by have:=(zv g (zi x.from_) (n*33) wA).size;have:=V.o.size;have:=M.o;omega⟩
   case measure=>simp[intOf];omega
  ·have S:n=t.ins.length:=by omega
   have i1:¬(n:Int)<(t.ins.length:Int):=by omega
   have HE:=@J (xs=(yI t).flatMap zi) (by
    have:=u.o
    rw[S,take_of_length_le (by rw[c.o.1];exact le_refl _),take_of_length_le (by simp[yI])] at this
    exact this)
   go_wp2
   go_ret
   exact⟨_,rfl,by rw[←HE.o];exact c.o,K.o⟩
def Yk (w:World) (t:TxD) (e:Ending) (w':World):Prop:=∃v,e=.returned (.tuple #[v,.int .i64 (idE t)])∧Fr No w w'∧(if yV t=true then w'.ownsRow w.heap.size 103 66 v t.outs.length ((xP (idH t) t.outs).flatMap zw) else v=.slice none 0 0)
theorem zdS (hg:jM w) {t:TxD} (ht:TxQ w t cs):
  Calls prog 68 #[.agg cs.toArray] w (Yk w t):=by
 have HT:=J ht
 have oks:=ht.oks
 obtain⟨B,C,D,E,rfl,hv,-,ho⟩:=ht
 have zo:=yA
 have zH:=qt
 have G:=J ((frN w).alloc (.cells #[.int .u32 t.ver,.slice B t.ins.length C,.slice D t.outs.length E] 62))
 have N:=@J ((w.alloc (.cells #[.int .u32 t.ver,.slice B t.ins.length C,.slice D t.outs.length E] 62)).heap.size=w.heap.size+1) (by simp)
 obtain⟨c0,c1,c2,r0⟩:=qF w t.ver (.slice B t.ins.length C) (.slice D t.outs.length E)
 have R0:=J r0
 have C2:=J c2
 have K:=J (zcK (hg.keep0 G.o) (HT.o.keep G.o))
 have m:=J (yr (vk t))
 have Q:=J (vk t)
 have L:=J ho
 clear ho hv c0 c1 c2 r0
 show Calls prog 68 #[.agg #[.int .u32 t.ver,.slice B t.ins.length C,.slice D t.outs.length E]] w _
 by_cases hfm:yV t=true
 rotate_left
 ·have c:yV t=false:=by simpa using hfm
  have u:idE t=5:=by simp[idE,c]
  have HP:=@J (∀w',Fr No w w'→Yk w t (.returned (.tuple #[.slice none 0 0,.int .i64 5])) w') (λw' f=>⟨.slice none 0 0,by rw[u],f,by rw[c];rfl⟩)
  rw[u] at K
  clear hfm c u
  generalize idH t=id at*
  go_enter Tryz.func68,Tryz.ntmps68
  have⟨R,S,T⟩:=tZ3
  go_wp2_with ((first|((with_reducible refine zt ?_);clear R;refine ziU rfl rfl rfl R0.o rfl ?_;generalize w.alloc (.cells #[.int .u32 t.ver,.slice B t.ins.length C,.slice D t.outs.length E] 62)=w1 at*)|(clear S;go_at_call 27;refine K.o.mono ?_;rintro e a ⟨rfl,r⟩;have A:=J (G.o.trans0 r);clear r;have H:=@J (Fr No a (a.alloc (.cells (zl id).toArray 40))) ((frN a).alloc _))|((with_reducible refine zr ?_);clear T;refine zi3 (w:=a) (cs:=zl id) rfl rfl rfl rfl m.o zX ?_));go_frame)
  go_ret2
  exact HP.o _ (A.o.trans0 H.o)
 ·have u:idE t=0:=by simp[idE,hfm]
  have av:t.outs.length≤8:=(qi.1 hfm).2.2
  obtain⟨l,hl⟩:∃l,l=t.outs:=⟨_,rfl⟩
  have HP:=@J (∀v w',Fr No w w'→w'.ownsRow w.heap.size 103 66 v l.length ((xP (idH t) l).flatMap zw)→Yk w t (.returned (.tuple #[v,.int .i64 0])) w') (λv w' f h=>⟨v,by rw[u],f,by rw[if_pos hfm,←hl];exact h⟩)
  rw[u] at K
  rw[←hl] at av R0 C2 K L G N⊢
  clear hl
  clear hfm u
  generalize idH t=id at*
  go_enter Tryz.func68,Tryz.ntmps68
  have HL:=J L.o
  obtain⟨iK,X,hz,d,V⟩:=info_parts xR
  have MK:=J (λ(w3:World)=>run_makeSlice_full (P:=prog) (w:=w3) w3.heap.size 49 103 iK _ 66 yQ X hz d .i64 .i64 l.length (by omega) (by rw[V];omega) (by unfold maxLen;omega) (le_refl _))
  clear X hz d V
  have⟨R,S,T⟩:=tZ3
  go_wp2_with ((first|((with_reducible refine zt ?_);clear R;refine ziU rfl rfl rfl R0.o rfl ?_;generalize w.alloc (.cells #[.int .u32 t.ver,.slice B t.ins.length C,.slice D l.length E] 62)=w1 at*)|(clear S;go_at_call 27;refine K.o.mono ?_;rintro e a ⟨rfl,r⟩;have A:=J (G.o.trans0 r);have aj:=J r.size;have ad:=J (r.cell C2.o _root_.id);clear r)|((with_reducible refine zr ?_);clear T;refine zi3 (w:=a) (cs:=zl id) rfl rfl rfl rfl m.o zX ?_;have H:=@J (Fr No a (a.alloc (.cells (zl id).toArray 40))) ((frN a).alloc _);have af:=J (zS a (.cells (zl id).toArray 40));have ak:=@J ((a.alloc (.cells (zl id).toArray 40)).heap.size=a.heap.size+1) (by simp);generalize a.alloc (.cells (zl id).toArray 40)=w3 at*;generalize a.heap.size=q3 at*;obtain⟨w4,Z,z,W⟩:=MK.o w3;have s:Fr No w3 w4:=Fr.of_grown W (λk e=>by cases e);have F4:=J s;rw[ak.o] at Z z;have o:=J z;have c2:=H.o.cell ad.o _root_.id;have aq:=s.cell c2 _root_.id;clear W z s));go_frame)
  clear Z c2 aq
  obtain⟨g,y⟩:∃g,g=q3+1:=⟨_,rfl⟩
  have G0:=@J (g=q3+1∧w.heap.size+1≤q3) (⟨y,by have:=N.o;have:=aj.o;omega⟩)
  rw[←y] at o⊢
  have ao:=@J (g<w4.heap.size) ((o.o.lt _ rfl).2)
  have ah:=J (qs o.o (show w.heap.size≤g by have:=G0.o;omega))
  have ae:=J (F4.o.obj af.o _root_.id)
  have FF:=J ((A.o.trans0 H.o).trans0 F4.o)
  clear y A H F4
  have A:=J FF.o
  go_loopw [24] (λiv wr=>∃(n:Nat) (xs:List Value),iv=.int .i64 n∧n≤l.length∧wr.ownsRow (w.heap.size) 103 66 (.slice (some ⟨g,0,none⟩) l.length l.length) l.length xs∧xs.take (n*66)=((xP id l).take n).flatMap zw∧Fr No w wr∧g<wr.heap.size∧wr.heap[q3]? =some (.cells (zl id).toArray 40 (0,0))) (λiv _=>l.length-(intOf iv).toNat)
  case atStart=>exact⟨0,_,rfl,zero_le _,ah.o,by simp,A.o,ao.o,ae.o⟩
  case round=>
   obtain⟨n,xs,rfl,hn,aa,ab,fr,d,U⟩:=hrel
   have FR:=J fr
   have j:=J aa
   have O:=J ab
   have al:=J d
   have I:=J U
   clear fr aa ab d U
   by_cases Y:n<l.length
   ·have i1:(n:Int)<(l.length:Int):=by omega
    obtain⟨x,hx⟩:∃x,l[n]? =some x:=⟨_,getElem?_eq_getElem Y⟩
    obtain⟨b,off,aw,hv,hr,-⟩:=(HL.o.keep FR.o).at_ hx
    cases hv
    have q:=J (HL.o.1 x (mem_of_getElem? hx))
    have IL:=J (z6 q.o)
    have R1:=J hr
    have p:=@J ((⟨id,(n:Int)⟩:zE).ok) (⟨Q.o,by show(0:Int)≤(n:Int);omega,by show(n:Int)≤_;omega⟩)
    have HX:=J (JI id hx)
    have F:=@J ((zw ⟨⟨id,(n:Int)⟩,x⟩).length=66) (yv ⟨p.o,q.o⟩)
    have PL:=J (zF p.o)
    have ar:(n:Int) % 4294967296=(n:Int):=by omega
    have fA:=(frN wr).alloc (.cells (zx x).toArray 68)
    have FA:=J fA
    have RO:=J (zK wr (zx x) 68)
    have RH:=@J ((wr.alloc (.cells (zx x).toArray 68)).rangeAt (q3) 0 (zl id)) (zb (zm I.o) fA (λh=>h))
    have M:=J (zf j.o fA (λ_ _=>_root_.id))
    have TH:=J (J8 M.o Y)
    have ai:=J (J7 M.o (n*66) (cs:=zw ⟨⟨id,(n:Int)⟩,x⟩) (by rw[F.o];omega))
    have an:=J (Xx zw HX.o F.o O.o (by rw[j.o.1];omega))
    clear hr hx fA
    have⟨R,S,T,K3,K4,K5,K6⟩:=tZ7
    go_wp2_with ((first|((with_reducible refine zt ?_);first|(clear R;refine ziW rfl rfl rfl R1.o IL.o ?_)|(clear T;refine ziT rfl rfl rfl RH.o m.o ?_)|(clear K3;refine zg rfl (qj (t:=72) (vs:=[(0,.agg (zl id).toArray),(1,.int .u32 n)]) rfl (by simp[Act.eval,ar]) Xf (Qn Q.o n) (Xe id n) (by rw[PL.o])) ?_)|(clear K4;refine ziW rfl rfl rfl RO.o IL.o ?_)|(clear K5;refine zg rfl (qj (t:=103) (vs:=[(0,.agg (zi ⟨id,(n:Int)⟩).toArray),(1,.agg (zx x).toArray)]) rfl rfl Zc (Yp p.o q.o) (Zb _ _) (by rw[F.o])) ?_))|((with_reducible refine zr ?_);first|(clear S;refine zi5 (w:=wr) (cs:=zx x) rfl rfl rfl rfl IL.o zV ?_;generalize wr.alloc (.cells (zx x).toArray 68)=wA at*)|(clear K6;refine ze rfl (zy (ty:=103) (b:=g) (off:=n*66) (cs:=zw ⟨⟨id,(n:Int)⟩,x⟩) rfl rfl rfl (by rw[F.o];exact TH.o) (by rw[F.o];exact xI) yz) ?_)));go_frame)
    go_roundw
    case rel=>exact⟨n+1,_,by go_num,by omega,ai.o,an.o,(FR.o.trans0 FA.o).trans (zv _ _ _ _) (λi hi e=>by have:=G0.o;omega),by have:=(zv g (zw ⟨⟨id,(n:Int)⟩,x⟩) (n*66) wA).size;have:=FA.o.size;have:=al.o;omega,(zv g (zw ⟨⟨id,(n:Int)⟩,x⟩) (n*66) wA).obj (FA.o.obj I.o _root_.id) (λe=>by have:=G0.o;omega)⟩
    case measure=>simp[intOf];omega
   ·have au:n=l.length:=by omega
    have i1:¬(n:Int)<(l.length:Int):=by omega
    have HE:=@J (xs=(xP id l).flatMap zw) (by
     have:=O.o
     rw[au,take_of_length_le (by rw[j.o.1];exact le_refl _),take_of_length_le (by rw[xZ];exact le_refl _)] at this
     exact this)
    have ag:=J (HP.o _ wr FR.o (by rw[←HE.o];exact j.o))
    go_wp2
    go_ret2
    exact ag.o
def JQ (x:Int) (n:Nat):List Int:=(leB 8 x).take n++List.replicate (8-n) 0
theorem zfE {B g n:Nat} {T:TypeId} (h:w.ownsRow B T 1 (.slice (some ⟨g,0,none⟩) n n) n xs):w.heap[g]? =some (.cells xs.toArray T (0,0)):=by
 rcases h.2 with⟨e,_⟩|⟨i,b,c,e,j,d,k,l,f,a⟩
 ·cases e
 ·injection e with e1 e2 e3
  injection e1 with e1
  injection e1 with e1
  subst e1
  subst e3
  rw[take_of_length_le (by rw[Array.length_toList,f];exact le_refl _)] at a
  rw[d,←a]
theorem zit (x:Int):(madeCells (Value.int .u8 0).cells (8*1)).toList=(JQ x 0).map zu:=by
 have a:JQ x 0=List.replicate 8 0:=by simp[JQ]
 have b:(madeCells (Value.int .u8 0).cells (8*1)).toList=(List.replicate 8 (0:Int)).map zu:=by kernel_rfl
 rw[a,b]
theorem zff {B g:Nat} (h:w.heap[g]? =some (.cells (l.map zu).toArray 5 (0,0))) (a:B≤g) (b:l.length≤1000000):yC w B (.slice (some ⟨g,0,none⟩) l.length l.length) l:=
 ⟨by simp,.inr ⟨g,l.length,(l.map zu).toArray,rfl,a,h,le_refl _,by unfold maxLen;omega,by simp,by rw[take_of_length_le (by simp)]⟩⟩
theorem zh3 (w:World):Calls prog 42 #[.int .i64 8] w λe w'=>e=.returned (.bool true)∧w'=w:=by
 go_enter Tryz.func42,Tryz.ntmps42
 go_wp2
 go_ret
 exact⟨rfl,rfl⟩
theorem zbU (w:World) {x:Int} (y:0≤x∧x≤18446744073709551615):
  Calls prog 26 #[.int .u64 x,.int .i64 8] w λe w'=>e=.returned (.tuple #[.slice (some ⟨w.heap.size,0,none⟩) 8 8,.int .i64 0])∧yC w' w.heap.size (.slice (some ⟨w.heap.size,0,none⟩) 8 8) (leB 8 x)∧Fr No w w':=by
 obtain⟨K,m,C,r,j⟩:=info_parts XA
 obtain⟨A,o,q,l⟩:=run_makeSlice_full (P:=prog) (w:=w) w.heap.size 84 5 K _ 1 VF m C r .i64 .i64 8 (by omega) (by rw[j];omega) (by unfold maxLen;omega) (le_refl _)
 have D:=@J (Fr No w A) (Fr.of_grown l (λk e=>by cases e))
 have E:=@J (A.heap[w.heap.size]? =some (.cells ((JQ x 0).map zu).toArray 5 (0,0))) (zit x▸zfE q)
 have p:(Instr.makeSlice 84 (.int .i64 8) (.int .i64 8)).run prog w=.ok (.slice (some ⟨w.heap.size,0,none⟩) 8 8) A:=o
 have O:=y.1
 have Q:=y.2
 clear m C r j q l y
 go_enter Tryz.func26,Tryz.ntmps26
 go_wp2_with (go_at_call 42;refine(zh3 _).mono ?_;rintro e N ⟨rfl,G⟩;rw[G])
 clear o p
 generalize I:w.heap.size=g at*
 go_loopw [25] (λz wr=>∃(n:Nat),z=.int .i64 n∧n≤8∧wr.heap[g]? =some (.cells ((JQ x n).map zu).toArray 5 (0,0))∧Fr No w wr) (λz _=>8-(intOf z).toNat)
 case atStart=>exact⟨0,rfl,by omega,E.o,D.o⟩
 case round=>
  obtain⟨n,rfl,M,t,fr⟩:=hrel
  have B:=J fr
  have s:=J t
  have L:=λi=>zW (i:=i) t
  clear fr t
  by_cases hlt:n<8
  ·have f:=J (λv=>show Fr No w (wr.setCell ⟨g,n,none⟩ v) from B.o.setCell _ (.inl (by show w.heap.size≤g;omega)) _)
   have h:=J (λv=>heap_setCell_same wr g n _ _ v s.o)
   have a:=zm s.o
   have H:n=0∨n=1∨n=2∨n=3∨n=4∨n=5∨n=6∨n=7:=by omega
   rcases H with rfl|rfl|rfl|rfl|rfl|rfl|rfl|rfl
   ·have c:=a 0 (.int .u8 0) rfl
    simp only[zero_add] at c
    clear a
    have b:=@J (∀v:Int,v=x % 256→some (Obj.cells (((JQ x 0).map zu).toArray.setIfInBounds 0 (.int .u8 v)) 5 (0,0))=some (Obj.cells ((JQ x 1).map zu).toArray 5 (0,0))) (λv e=>by
     have d:v=x % 256:=by omega
     subst d
     rfl)
    go_wp2
    go_roundw
    case rel=>exact⟨1,rfl,by omega,(h.o _).trans (b.o _ (by omega)),f.o _⟩
    case measure=>simp[intOf]
   ·have c:=a 1 (.int .u8 0) rfl
    simp only[zero_add] at c
    clear a
    have b:=@J (∀v:Int,v=x / 256 % 256→some (Obj.cells (((JQ x 1).map zu).toArray.setIfInBounds 1 (.int .u8 v)) 5 (0,0))=some (Obj.cells ((JQ x 2).map zu).toArray 5 (0,0))) (λv e=>by
     have d:v=(x / 256) % 256:=by omega
     subst d
     rfl)
    go_wp2
    go_roundw
    case rel=>exact⟨2,rfl,by omega,(h.o _).trans (b.o _ (by omega)),f.o _⟩
    case measure=>simp[intOf]
   ·have c:=a 2 (.int .u8 0) rfl
    simp only[zero_add] at c
    clear a
    have b:=@J (∀v:Int,v=x / 65536 % 256→some (Obj.cells (((JQ x 2).map zu).toArray.setIfInBounds 2 (.int .u8 v)) 5 (0,0))=some (Obj.cells ((JQ x 3).map zu).toArray 5 (0,0))) (λv e=>by
     have d:v=((x / 256) / 256) % 256:=by omega
     subst d
     rfl)
    go_wp2
    go_roundw
    case rel=>exact⟨3,rfl,by omega,(h.o _).trans (b.o _ (by omega)),f.o _⟩
    case measure=>simp[intOf]
   ·have c:=a 3 (.int .u8 0) rfl
    simp only[zero_add] at c
    clear a
    have b:=@J (∀v:Int,v=x / 16777216 % 256→some (Obj.cells (((JQ x 3).map zu).toArray.setIfInBounds 3 (.int .u8 v)) 5 (0,0))=some (Obj.cells ((JQ x 4).map zu).toArray 5 (0,0))) (λv e=>by
     have d:v=(((x / 256) / 256) / 256) % 256:=by omega
     subst d
     rfl)
    go_wp2
    go_roundw
    case rel=>exact⟨4,rfl,by omega,(h.o _).trans (b.o _ (by omega)),f.o _⟩
    case measure=>simp[intOf]
   ·have c:=a 4 (.int .u8 0) rfl
    simp only[zero_add] at c
    clear a
    have b:=@J (∀v:Int,v=x / 4294967296 % 256→some (Obj.cells (((JQ x 4).map zu).toArray.setIfInBounds 4 (.int .u8 v)) 5 (0,0))=some (Obj.cells ((JQ x 5).map zu).toArray 5 (0,0))) (λv e=>by
     have d:v=((((x / 256) / 256) / 256) / 256) % 256:=by omega
     subst d
     rfl)
    go_wp2
    go_roundw
    case rel=>exact⟨5,rfl,by omega,(h.o _).trans (b.o _ (by omega)),f.o _⟩
    case measure=>simp[intOf]
   ·have c:=a 5 (.int .u8 0) rfl
    simp only[zero_add] at c
    clear a
    have b:=@J (∀v:Int,v=x / 1099511627776 % 256→some (Obj.cells (((JQ x 5).map zu).toArray.setIfInBounds 5 (.int .u8 v)) 5 (0,0))=some (Obj.cells ((JQ x 6).map zu).toArray 5 (0,0))) (λv e=>by
     have d:v=(((((x / 256) / 256) / 256) / 256) / 256) % 256:=by omega
     subst d
     rfl)
    go_wp2
    go_roundw
    case rel=>exact⟨6,rfl,by omega,(h.o _).trans (b.o _ (by omega)),f.o _⟩
    case measure=>simp[intOf]
   ·have c:=a 6 (.int .u8 0) rfl
    simp only[zero_add] at c
    clear a
    have b:=@J (∀v:Int,v=x / 281474976710656 % 256→some (Obj.cells (((JQ x 6).map zu).toArray.setIfInBounds 6 (.int .u8 v)) 5 (0,0))=some (Obj.cells ((JQ x 7).map zu).toArray 5 (0,0))) (λv e=>by
     have d:v=((((((x / 256) / 256) / 256) / 256) / 256) / 256) % 256:=by omega
     subst d
     rfl)
    go_wp2
    go_roundw
    case rel=>exact⟨7,rfl,by omega,(h.o _).trans (b.o _ (by omega)),f.o _⟩
    case measure=>simp[intOf]
   ·have c:=a 7 (.int .u8 0) rfl
    simp only[zero_add] at c
    clear a
    have b:=@J (∀v:Int,v=x / 72057594037927936 % 256→some (Obj.cells (((JQ x 7).map zu).toArray.setIfInBounds 7 (.int .u8 v)) 5 (0,0))=some (Obj.cells ((JQ x 8).map zu).toArray 5 (0,0))) (λv e=>by
     have d:v=(((((((x / 256) / 256) / 256) / 256) / 256) / 256) / 256) % 256:=by omega
     subst d
     rfl)
    go_wp2
    go_roundw
    case rel=>exact⟨8,rfl,by omega,(h.o _).trans (b.o _ (by omega)),f.o _⟩
    case measure=>simp[intOf]
  ·have u:n=8:=by omega
   subst u
   have F:=@J (yC wr g (.slice (some ⟨g,0,none⟩) 8 8) (leB 8 x)) (zff s.o (le_refl _) (by rw[xh];decide))
   go_wp2
   go_ret2
   subst I
   exact⟨rfl,F.o,B.o⟩
end Go.Proofs.YtmpamcnlineceaaGreatDoor
