/- kin: cut's walk. -/
import Derived.Test.YtbcllfjmabiafaaGreatDoorPG14
set_option linter.unusedVariables false
set_option linter.unusedSimpArgs false
set_option linter.unnecessarySimpa false
set_option linter.all false
set_option maxRecDepth 20000
set_option maxHeartbeats 16000000
namespace Go.Proofs.YtbcllfjmabiafaaGreatDoor
open Go Go.RowKit Go.Maps Go.MapKept
open Go.Proofs.Tryz(prog)
open List(mem_map getElem?_eq_getElem mem_append mem_of_getElem? length_map mem_singleton take_length map_append map_cons map_map map_congr_left)
open Nat(zero_le le_trans lt_of_lt_of_le)
variable {n:Nat}
section
variable {w0 w:World} {p m sq:Nat}
theorem za2.fr0 {wr c:World} {L a:List yG} {T:List Tri} {b:yG} (h:za2 w0 w wr p m sq L a T b) (f:Fr No wr c):za2 w0 w c p m sq L a T b:=
 ⟨h.gr.fr0 f,h.tri,h.r0,h.sub,h.fr.trans0 f⟩
theorem GR.lookR {L:List yG} (h:GR w0 w p m sq L) {r:yG} (a:r∈L) (w':World) (b:∀M,qQ w m M→qQ w' m M):(Instr.lookup 176 (.map (some m)) (.agg (zd r.id).toArray) false).run prog w'=.ok (.pointer (some ⟨r.b,0,none⟩)) w':=
 (h.run_look (h.ok r a).1 false rfl).1 r a rfl w' b
theorem GR.dis {A B:List yG} {r:yG} (h:GR w0 w p m sq (A++r::B)) {j:Nat} (d:r.pv.ownBlock=some j∨r.cv.ownBlock=some j):j≠p∧j≠m∧j≠r.b∧j<w.heap.size:=by
 have a:=h.apart
 rw[xJ] at a
 have b:j∈r.blks:=vA.2 (.inr d)
 have c:=(List.nodup_append.1 a).2.2
 refine⟨λe=>c p (by simp) j (by simp[b]) e.symm,λe=>c m (by simp) j (by simp[b]) e.symm,λe=>?_,(h.node r (by simp)).hi j b⟩
 obtain⟨f,g,-⟩:=Vh h.blks_nodup
 subst e
 exact d.elim f g
end
theorem YF {ps:List zf} {q:zf} (h:ps[n]? =some q):ps.take (n+1)=ps.take n++[q]:=by rw[List.take_add_one,h];rfl
theorem QG {ps:List zf} {q:zf} (c:ps.Nodup) (h:ps[n]? =some q):q∉ps.take n:=by
 intro b
 obtain⟨i,hi⟩:=List.mem_iff_getElem?.1 b
 have a:=(List.getElem?_eq_some_iff.1 hi).1
 simp only[List.length_take] at a
 rw[List.getElem?_take_of_lt (by omega)] at hi
 have:=(List.getElem?_inj (List.getElem?_eq_some_iff.1 hi).1 c).1 (hi.trans h.symm)
 omega
section
variable {w0 w:World} {p N:Nat} {V:Nat→Prop} {G:List yL}
theorem znc (h:GC w0 w p V G N) (hN:N≤1000) {x:zf} (hx:zV x) (aq:x∈ids G):
  Calls prog 104 #[.pointer (some ⟨p,0,none⟩),.agg (zd x).toArray] w (zmX w0 w p V G N x):=by
 obtain⟨m,sq,L,hr,rfl,Q,aW⟩:=h.tri
 obtain⟨A0,a,B0,aP,ao,t0,bg,bd,bb⟩:=VR (f:=id) (λ_=>rfl) (by rw[Q,List.map_id]) (q:=x) (by rw[J6];exact aq)
 have ag:a∈L:=by rw[aP];simp
 obtain⟨n0,aU,e0⟩:=mem_map.1 (show a.t3∈JL G by rw[←Q];exact mem_map.2 ⟨a,ag,rfl⟩)
 have O:a.ps=par G x:=by
  unfold yG.t3 at e0
  injection e0 with k C
  injection C with C e3
  rw[←C,←ao,←k,vC h.gok aU]
 have T:a.ks=kid G x:=by
  unfold yG.t3 at e0
  injection e0 with k C
  injection C with C e3
  rw[←e3,←ao,←k]
 have a8:=@Hd (a.ps.Nodup) (by rw[O];obtain⟨n1,ae,k⟩:=jh.1 aq;rw[←k,vC h.gok ae];exact h.gok.pn n1 ae)
 have a1:=@Hd (a.ks.Nodup) (by rw[T];exact zii h.gok x)
 have a7:=@Hd (∀q∈a.ps,q∈ids G) (λq s=>Xc h.gok (x:=x) (by rw[←O];exact s))
 have aZ:=@Hd (∀q∈a.ks,q∈ids G) (λq s=>((V2 h.gok (x:=x)).1 (by rw[←T];exact s)).1)
 have aK:=@Hd (∀q∈a.ps,x≠q) (λq s e=>by
  rw[O,←e] at s
  have:=zaA h.gok (x:=x) (y:=x)
  obtain⟨n1,ae,k⟩:=jh.1 aq
  obtain⟨A,B,C⟩:=List.append_of_mem ae
  rw[←k,vC h.gok ae] at s
  have h1:=h.gok.top A n1 B C _ s
  have h2:=h.gok.nd
  rw[C] at h2
  simp only[ids,map_append,map_cons] at h1 h2
  exact(List.nodup_append.1 h2).2.2 _ h1 n1.id (by simp) rfl)
 have a6:=@Hd (∀q∈a.ks,x≠q) (λq s e=>by
  rw[T,←e] at s
  exact aK.o x (by rw[O];exact((V2 h.gok).1 s).2) rfl)
 have PL:=@Hd (a.ps.length≤1000) (by rw[O];have:=zed h.gok x;have:=h.len;omega)
 have KL:=@Hd (a.ks.length≤1000) (by rw[T];have:=zbu (G:=G) x;have:=h.len;omega)
 have an:=@Hd (zV a.id∧(∀y∈a.ps,zV y)∧∀y∈a.ks,zV y) (hr.ok a ag)
 have TN:=@Hd (((JL G).map (·.1)).Nodup) (by rw[J6];exact h.gok.nd)
 have aY:=@Hd (JL (Vj G x)=((JL G).map (zbg x a.ps a.ks)).filter λt=>decide (t.1≠x)) (by rw[O,T];exact zkP h.gok x)
 have aO:=@Hd (∀t∈JL G,t.2.1.length≤1000∧t.2.2.length≤1000) (λt P=>by
  obtain⟨n,hn,rfl⟩:=mem_map.1 P
  have h1:=zed h.gok n.id
  rw[vC h.gok hn] at h1
  have h2:=zbu (G:=G) n.id
  have:=h.len
  exact⟨le_trans h1 (by omega),le_trans h2 (by omega)⟩)
 have aG:=Hd (zdY h.gok [x])
 rw[←zjq] at aG
 have aX:=@Hd ((Vj G x).length≤N) (by unfold Vj;rw[length_map];exact le_trans (List.length_filter_le _ _) h.len)
 have aB:=Hd hx
 have HX:=Hd (zu hx)
 have f1:Fr No w (w.alloc (.cells (zd x).toArray 45)):=(frN w).alloc _
 have RX:=Hd (zq w (zd x) 45)
 have c0:=f1.cell (VB hr.obj).1 id
 have HW:=Hd hr.hi
 have aw:=hr.fr0 f1
 have ay:=Hd (aw.lookR ag)
 rw[ao] at ay
 have aN:=@Hd (za2 w0 w (w.alloc (.cells (zd x).toArray 45)) p m sq L L ((JL G).map (zcM x (a.ps.take 0))) a) (⟨aw,by
  rw[Q]
  conv=>lhs;rw[←List.map_id (JL G)]
  exact map_congr_left λt _=>by simp[zcM],ag,λ_ h=>h,f1.of0⟩)
 have SQ:=Hd aW
 have R:=Hd ao
 clear h hr Q aP bg bd bb aU e0 O T aq hx aW aw ag
 go_enter Tryz.func104,Tryz.ntmps104
 go_wp2_with fail
 have HB:=@Hd (w.heap.size<(w.alloc (.cells (zd x).toArray 45)).heap.size) (by simp)
 generalize bj:w.heap.size=bx at*
 generalize w.alloc (.cells (zd x).toArray 45)=w1 at*
 refine wrLx [ff,ff,ff,ff,ff,ff,ff] (λw'=>w'.cell? ⟨p,0,none⟩=some (.map (some m))∧w'.rangeAt bx 0 (zd x)∧(∀M,qQ w1 m M→qQ w' m M)) ?_ (λK hK=>?_)
 ·exact⟨(frN _).drew.cell c0 id,za RX.o (frN _).drew id,λM hM=>hM.keep (frN _).drew id⟩
 repeat((first|(refine zk rfl ?_;constructor;constructor;(focus(first|exact zn0 rfl (λw h=>h.2.1) HX.o|exact λw' h=>zY (t:=176) rfl rfl rfl (ay.o w' h.2.2)|(rintro w' ⟨s1,s2,s3⟩;exact goS))))|(refine zl rfl ?_));try simp only[Act.put,pA,pB,pC])
 refine zN (hK.out _ _ ?_)
 have F:=Hd (aN.o.fr0 (frN _).drew)
 have aL:=Hd (za RX.o (frN _).drew id)
 have aH:=@Hd (bx<w1.drew.heap.size) (HB.o)
 clear c0 ay aN RX HB
 generalize w1.drew=w2 at*
 obtain⟨pa,pc,aD⟩:=(F.o.gr.node a F.o.r0).prow.slice.arg.form
 obtain⟨ca,cc,aS⟩:=(F.o.gr.node a F.o.r0).crow.slice.arg.form
 have cp:=(Xq (F.o.gr.node a F.o.r0).blk).2.1
 rw[aD] at cp
 have PV:=Hd aD
 have CV:=Hd aS
 clear aD aS
 go_wp2_with fail
 go_loopw [22] (λiv wr=>∃(n:Nat) (L':List yG),iv=.int .i64 n∧n≤a.ps.length∧za2 w0 w wr p m sq L L' ((JL G).map (zcM x (a.ps.take n))) a∧wr.rangeAt bx 0 (zd x)∧bx<wr.heap.size) (λiv _=>a.ps.length-(intOf iv).toNat)
 case atStart=>exact⟨0,L,rfl,zero_le _,F.o,aL.o,aH.o⟩
 case round=>
  obtain⟨n,L',rfl,hn,b,D,u⟩:=hrel
  by_cases h:n<a.ps.length
  ·have i1:(n:Int)<(a.ps.length:Int):=by omega
   obtain⟨q,s⟩:∃q,a.ps[n]? =some q:=⟨_,getElem?_eq_getElem h⟩
   have QM:=Hd (mem_of_getElem? s)
   obtain⟨A,r,B,rfl,ah,t,P,ak,aj⟩:=VR (f:=zcM x (a.ps.take n)) (λ_=>rfl) b.tri (q:=q) (by rw[J6];exact a7.o q QM.o)
   have H:=(b.gr.node a b.r0).prow
   rw[PV.o] at H
   obtain⟨bq,oq,cq,aF,ai,-⟩:=(y4.own H an.o.2.1).at_ s
   cases aF
   have az:=Hd (an.o.2.1 q QM.o)
   have Y:=Hd (zu az.o)
   have R1:=Hd ai
   have FA:=Hd ((frN wr).alloc (.cells (zd q).toArray 45))
   have RN:=Hd (zq wr (zd q) 45)
   have c:=Hd (b.fr0 FA.o)
   have ab:=Hd (za D FA.o id)
   have X:=Hd (lt_of_lt_of_le u FA.o.size)
   have av:=Hd u
   have QT:=Hd (YF s)
   have QN:=Hd (QG a8.o s)
   have QX:=Hd (aK.o q QM.o)
   have bc:=PL.o
   have ax:=@Hd (r.ks.length≤1000) (by
    have h1:=aO.o t P
    have k:=congrArg (λz:Tri=>z.2.2) aj
    simp only[zcM,yG.t3] at k
    rw[ak,if_neg QN.o] at k
    rw[←k]
    exact h1.2)
   clear b D u s ai H aj P ak
   subst ah
   go_wp2_with (first|(refine znV rfl rfl rfl R1.o Y.o ?_)|(refine zi rfl (zj (w:=wr) (cs:=zd r.id) (ty:=45) rfl rfl rfl (by rw[Y.o];rfl) (by rw[Y.o];exact yj) zE) ?_))
   generalize bf:wr.heap.size=q4 at*
   generalize wr.alloc (.cells (zd r.id).toArray 45)=E at*
   have RM:=@Hd (r∈A++r::B) (by simp)
   have ND:=Hd (c.o.gr.node r RM.o)
   have aa:=@Hd (zV r.id∧(∀y∈r.ps,zV y)∧∀y∈r.ks,zV y) (c.o.gr.ok r RM.o)
   have o:=Hd (λj (d:r.cv.ownBlock=some j)=>c.o.gr.dis (A:=A) (B:=B) (j:=j) (.inr d))
   have U:=@Hd (∀j∈r.blks,j<bx) (λj d=>HW.o j (c.o.sub j (by rw[xJ];simp[d])))
   have Z:=@Hd (∀j,r.cv.ownBlock=some j→j<bx) (λj d=>U.o j (vA.2 (.inr (.inr d))))
   have LK:=Hd (c.o.gr.lookR RM.o)
   have KP:=Hd (λ(w':World) (f:Fr (λj=>r.cv.ownBlock=some j) E w')=>(⟨f.cell (VB c.o.gr.obj).1 (λe=>(o.o _ e).1 rfl),za RN.o f (λe=>by have:=Z.o _ e;have:=av.o;omega),λM hM=>hM.keep f (λe=>(o.o _ e).2.1 rfl),f.cell (Xq ND.o.blk).2.2.1 (λe=>(o.o _ e).2.2.1 rfl)⟩:w'.cell? ⟨p,0,none⟩=some (.map (some m))∧w'.rangeAt q4 0 (zd r.id)∧(∀M,qQ E m M→qQ w' m M)∧w'.cell? ⟨r.b,2,none⟩=some r.cv))
   have FZ:=Hd (λ(w':World) (f:Fr (λj=>r.cv.ownBlock=some j) E w')=>(⟨(Xq (f.obj ND.o.blk (λe=>(o.o _ e).2.2.1 rfl))).2.2.1,(Xq (f.obj ND.o.blk (λe=>(o.o _ e).2.2.1 rfl))).2.2.2.2.2⟩:w'.cell? ⟨r.b,2,none⟩=some r.cv∧w'.frozen? ⟨r.b,2,none⟩=false))
   refine yw [ff,ff,ff,ff,ff,ff,ff,ff,ff,ff,ff,ff,ff,ff,ff,ff,tt,ff,ff,tt] (λw'=>w'.cell? ⟨p,0,none⟩=some (.map (some m))∧w'.rangeAt q4 0 (zd r.id)∧(∀M,qQ E m M→qQ w' m M)∧w'.cell? ⟨r.b,2,none⟩=some r.cv) (by kernel_rfl) (by kernel_rfl) 19 (by kernel_rfl) (by kernel_rfl) ?_ (λK hK=>?_)
   ·exact KP.o _ (frN _).drew.of0
   repeat((first|(refine yk rfl ?_;constructor;constructor;(focus(first|exact zn0 rfl (λw h=>h.2.1) Y.o|exact λw' h=>zY (t:=176) rfl rfl rfl (LK.o w' h.2.2.1)|(rintro w' ⟨s1,s2,s3,s4⟩;exact goS))))|(refine yl rfl ?_));try simp only[Act.put,pA,pB,pC])
   (refine yf rfl (λK' hK'=>?_))
   go_simp
   refine(XA (w:=E.drew) (B:=w0.heap.size) (v:=r.cv) (l:=r.ks) (zb ND.o.crow ((frN E).drew) (λ_ _=>id)) aa.o.2.2 (by have:=ax.o;omega) (za ab.o ((frN E).drew) id) aB.o (λj d e=>by have:=Z.o j d;omega) X.o).mono ?_
   rintro e w4 ⟨v4,rfl,I,ad,af⟩
   obtain⟨a4,c4,al⟩:=I.slice.arg.form
   generalize aV:List.length _=bh at al
   subst al
   have F4:=@Hd (Fr (λj=>r.cv.ownBlock=some j) E w4) (((frN E).drew.of0 (W:=λj=>r.cv.ownBlock=some j)).trans ad (λ_ _ h=>h))
   have O4:=Hd I
   have N4:=Hd af
   clear I ad af
   refine hK'.out _ _ (λ_=>?_) (λhS=>?_)
   ·exact KP.o _ F4.o
   try simp only[Act.put,pA,pB,pC]
   repeat((first|(refine yk rfl ?_;constructor;constructor;(focus(first|exact zn0 rfl (λw h=>h.2.1) Y.o|exact λw' h=>zY (t:=176) rfl rfl rfl (LK.o w' h.2.2.1)|(rintro w' ⟨s1,s2,s3,s4⟩;exact goS))))|(refine yl rfl ?_));try simp only[Act.put,pA,pB,pC])
   obtain⟨z1,z2⟩:=FZ.o _ F4.o
   (refine yf rfl (λK' hK'=>?_))
   go_simp
   refine hK'.out _ _ (λh=>absurd rfl h) (λhS=>?_)
   refine xV (hK.out _ _ ?_)
   obtain⟨g5,f5⟩:=c.o.gr.setc F4.o O4.o (λj d=>.inl (N4.o j d)) (λy hy=>aa.o.2.2 y (List.mem_filter.1 hy).1)
   have F5:=Hd f5
   have aA:=Hd (zeN c.o g5 f5 (λj d=>by
    rw[vA] at d⊢
    exact d.imp id (λh=>h.imp id (N4.o j))) (by rw[R.o];exact QX.o) (step_map (f:=zcM x (a.ps.take n)) (g:=zcM x (a.ps.take (n+1))) TN.o (λ_=>rfl) c.o.tri rfl (λt P k C=>by
    simp only[yG.t3,zcM] at C⊢
    rw[k,if_neg QN.o] at C
    rw[k,QT.o,if_pos (by simp)]
    injection C with C e3
    injection e3 with e3 e4
    rw[e3,e4]) (λt P k=>by
    simp only[zcM,QT.o,mem_append,mem_singleton,k,or_false])))
   clear g5 f5 z1 z2
   go_wp2_with fail
   go_roundw
   case rel=>exact⟨n+1,_,by simp,by omega,aA.o,za ab.o F5.o (λe=>by have:=U.o _ e;omega),lt_of_lt_of_le X.o F5.o.size⟩
   case measure=>show a.ps.length-(n+1)<a.ps.length-n;omega
  ·have i1:¬(n:Int)<(a.ps.length:Int):=by omega
   have aC:n=a.ps.length:=by omega
   subst aC
   rw[take_length] at b
   have ck:=(Xq (b.gr.node a b.r0).blk).2.2.1
   rw[CV.o] at ck
   have S:=Hd b
   have aM:=Hd D
   have aI:=Hd u
   clear b D u F aL aH
   go_wp2_with fail
   go_loopw [51] (λiv wr=>∃(n:Nat) (L':List yG),iv=.int .i64 n∧n≤a.ks.length∧za2 w0 w wr p m sq L L' ((JL G).map (zbg x a.ps (a.ks.take n))) a∧wr.rangeAt bx 0 (zd x)∧bx<wr.heap.size) (λiv _=>a.ks.length-(intOf iv).toNat)
   case atStart=>exact⟨0,_,rfl,zero_le _,⟨S.o.gr,S.o.tri.trans (map_congr_left λt _=>by simp[zcM,zbg]),S.o.r0,S.o.sub,S.o.fr⟩,aM.o,aI.o⟩
   case round=>
    obtain⟨n,L',rfl,hn,b,D,u⟩:=hrel
    by_cases h:n<a.ks.length
    ·have i1:(n:Int)<(a.ks.length:Int):=by omega
     obtain⟨q,s⟩:∃q,a.ks[n]? =some q:=⟨_,getElem?_eq_getElem h⟩
     have QM:=Hd (mem_of_getElem? s)
     obtain⟨A,r,B,rfl,ah,t,P,ak,aj⟩:=VR (f:=zbg x a.ps (a.ks.take n)) (λ_=>rfl) b.tri (q:=q) (by rw[J6];exact aZ.o q QM.o)
     have H:=(b.gr.node a b.r0).crow
     rw[CV.o] at H
     obtain⟨bq,oq,cq,aF,ai,-⟩:=(y4.own H an.o.2.2).at_ s
     cases aF
     have az:=Hd (an.o.2.2 q QM.o)
     have Y:=Hd (zu az.o)
     have R1:=Hd ai
     have FA:=Hd ((frN wr).alloc (.cells (zd q).toArray 45))
     have RN:=Hd (zq wr (zd q) 45)
     have c:=Hd (b.fr0 FA.o)
     have ab:=Hd (za D FA.o id)
     have X:=Hd (lt_of_lt_of_le u FA.o.size)
     have av:=Hd u
     have QT:=Hd (YF s)
     have QN:=Hd (QG a1.o s)
     have QX:=Hd (a6.o q QM.o)
     have bc:=KL.o
     have ax:=@Hd (r.ps.length≤1000) (by
      have h1:=aO.o t P
      have k:=congrArg (λz:Tri=>z.2.1) aj
      simp only[zbg,yG.t3] at k
      rw[ak,if_neg QN.o] at k
      rw[←k]
      exact h1.1)
     clear b D u s ai H aj P ak
     subst ah
     go_wp2_with (first|(refine znV rfl rfl rfl R1.o Y.o ?_)|(refine zi rfl (zj (w:=wr) (cs:=zd r.id) (ty:=45) rfl rfl rfl (by rw[Y.o];rfl) (by rw[Y.o];exact yj) zE) ?_))
     generalize bf:wr.heap.size=q4 at*
     generalize wr.alloc (.cells (zd r.id).toArray 45)=E at*
     have RM:=@Hd (r∈A++r::B) (by simp)
     have ND:=Hd (c.o.gr.node r RM.o)
     have aa:=@Hd (zV r.id∧(∀y∈r.ps,zV y)∧∀y∈r.ks,zV y) (c.o.gr.ok r RM.o)
     have o:=Hd (λj (d:r.pv.ownBlock=some j)=>c.o.gr.dis (A:=A) (B:=B) (j:=j) (.inl d))
     have U:=@Hd (∀j∈r.blks,j<bx) (λj d=>HW.o j (c.o.sub j (by rw[xJ];simp[d])))
     have Z:=@Hd (∀j,r.pv.ownBlock=some j→j<bx) (λj d=>U.o j (vA.2 (.inr (.inl d))))
     have LK:=Hd (c.o.gr.lookR RM.o)
     have KP:=Hd (λ(w':World) (f:Fr (λj=>r.pv.ownBlock=some j) E w')=>(⟨f.cell (VB c.o.gr.obj).1 (λe=>(o.o _ e).1 rfl),za RN.o f (λe=>by have:=Z.o _ e;have:=av.o;omega),λM hM=>hM.keep f (λe=>(o.o _ e).2.1 rfl),f.cell (Xq ND.o.blk).2.1 (λe=>(o.o _ e).2.2.1 rfl)⟩:w'.cell? ⟨p,0,none⟩=some (.map (some m))∧w'.rangeAt q4 0 (zd r.id)∧(∀M,qQ E m M→qQ w' m M)∧w'.cell? ⟨r.b,1,none⟩=some r.pv))
     have FZ:=Hd (λ(w':World) (f:Fr (λj=>r.pv.ownBlock=some j) E w')=>(⟨(Xq (f.obj ND.o.blk (λe=>(o.o _ e).2.2.1 rfl))).2.1,(Xq (f.obj ND.o.blk (λe=>(o.o _ e).2.2.1 rfl))).2.2.2.2.1⟩:w'.cell? ⟨r.b,1,none⟩=some r.pv∧w'.frozen? ⟨r.b,1,none⟩=false))
     refine yw [ff,ff,ff,ff,ff,ff,ff,ff,ff,ff,ff,ff,ff,ff,ff,ff,tt,ff,ff,tt] (λw'=>w'.cell? ⟨p,0,none⟩=some (.map (some m))∧w'.rangeAt q4 0 (zd r.id)∧(∀M,qQ E m M→qQ w' m M)∧w'.cell? ⟨r.b,1,none⟩=some r.pv) (by kernel_rfl) (by kernel_rfl) 19 (by kernel_rfl) (by kernel_rfl) ?_ (λK hK=>?_)
     ·exact KP.o _ (frN _).drew.of0
     repeat((first|(refine yk rfl ?_;constructor;constructor;(focus(first|exact zn0 rfl (λw h=>h.2.1) Y.o|exact λw' h=>zY (t:=176) rfl rfl rfl (LK.o w' h.2.2.1)|(rintro w' ⟨s1,s2,s3,s4⟩;exact goS))))|(refine yl rfl ?_));try simp only[Act.put,pA,pB,pC])
     (refine yf rfl (λK' hK'=>?_))
     go_simp
     refine(XA (w:=E.drew) (B:=w0.heap.size) (v:=r.pv) (l:=r.ps) (zb ND.o.prow ((frN E).drew) (λ_ _=>id)) aa.o.2.1 (by have:=ax.o;omega) (za ab.o ((frN E).drew) id) aB.o (λj d e=>by have:=Z.o j d;omega) X.o).mono ?_
     rintro e w4 ⟨v4,rfl,I,ad,af⟩
     obtain⟨a4,c4,al⟩:=I.slice.arg.form
     generalize aV:List.length _=bh at al
     subst al
     have F4:=@Hd (Fr (λj=>r.pv.ownBlock=some j) E w4) (((frN E).drew.of0 (W:=λj=>r.pv.ownBlock=some j)).trans ad (λ_ _ h=>h))
     have O4:=Hd I
     have N4:=Hd af
     clear I ad af
     refine hK'.out _ _ (λ_=>?_) (λhS=>?_)
     ·exact KP.o _ F4.o
     try simp only[Act.put,pA,pB,pC]
     repeat((first|(refine yk rfl ?_;constructor;constructor;(focus(first|exact zn0 rfl (λw h=>h.2.1) Y.o|exact λw' h=>zY (t:=176) rfl rfl rfl (LK.o w' h.2.2.1)|(rintro w' ⟨s1,s2,s3,s4⟩;exact goS))))|(refine yl rfl ?_));try simp only[Act.put,pA,pB,pC])
     obtain⟨z1,z2⟩:=FZ.o _ F4.o
     (refine yf rfl (λK' hK'=>?_))
     go_simp
     refine hK'.out _ _ (λh=>absurd rfl h) (λhS=>?_)
     refine xV (hK.out _ _ ?_)
     obtain⟨g5,f5⟩:=c.o.gr.setp F4.o O4.o (λj d=>.inl (N4.o j d)) (λy hy=>aa.o.2.1 y (List.mem_filter.1 hy).1)
     have F5:=Hd f5
     have aA:=Hd (zeN c.o g5 f5 (λj d=>by
      rw[vA] at d⊢
      exact d.imp id (λh=>h.imp (N4.o j) id)) (by rw[R.o];exact QX.o) (step_map (f:=zbg x a.ps (a.ks.take n)) (g:=zbg x a.ps (a.ks.take (n+1))) TN.o (λ_=>rfl) c.o.tri rfl (λt P k C=>by
      simp only[yG.t3,zbg] at C⊢
      rw[k,if_neg QN.o] at C
      rw[k,QT.o,if_pos (by simp)]
      injection C with C e3
      injection e3 with e3 e4
      rw[e3,e4]) (λt P k=>by
      simp only[zbg,QT.o,mem_append,mem_singleton,k,or_false])))
     clear g5 f5 z1 z2
     go_wp2_with fail
     go_roundw
     case rel=>exact⟨n+1,_,by simp,by omega,aA.o,za ab.o F5.o (λe=>by have:=U.o _ e;omega),lt_of_lt_of_le X.o F5.o.size⟩
     case measure=>show a.ks.length-(n+1)<a.ks.length-n;omega
    ·have i1:¬(n:Int)<(a.ks.length:Int):=by omega
     have aC:n=a.ks.length:=by omega
     subst aC
     rw[take_length] at b
     obtain⟨M,hM,aR⟩:=b.gr.map
     obtain⟨w5,M',aT,aQ,ar,aE,-⟩:=(hM.keep (frN wr).drew id).del xT.keyed J9 (λ_ _=>xf) (ym aB.o) 0 45
     obtain⟨A,B,rfl⟩:=List.append_of_mem b.r0
     have G5:=Hd (b.gr.del aR aQ (by rw[R.o];exact ar) (((frN wr).drew.of0 (W:=λj=>j=m)).trans aE.fr (λ_ _ h=>h)))
     have F5:=@Hd (Fr (λj=>j∈yM p m L) w w5) (b.fr.trans (((frN wr).drew.of0 (W:=λj=>j=m)).trans aE.fr (λ_ _ h=>h)) (λi _ e=>b.sub i (by rw[e];simp[yM])))
     have T5:=@Hd ((A++B).map yG.t3=JL (Vj G x)) (by
      rw[aY.o,←b.tri,map_append (l₁:=A) (l₂:=a::B),map_cons,List.filter_append,List.filter_cons_of_neg (by simp[yG.t3,R.o]),map_append]
      have au:=b.gr.idn
      rw[map_append,map_cons] at au
      obtain⟨i1,i2,i3⟩:=List.nodup_append.1 au
      congr 1
      ·refine(List.filter_eq_self.2 λt P=>?_).symm
       obtain⟨r,hr,rfl⟩:=mem_map.1 P
       exact decide_eq_true λ(e:r.id=x)=>i3 r.id (mem_map.2 ⟨r,hr,rfl⟩) a.id (by simp) (by rw[e,R.o])
      ·refine(List.filter_eq_self.2 λt P=>?_).symm
       obtain⟨r,hr,rfl⟩:=mem_map.1 P
       exact decide_eq_true λ(e:r.id=x)=>(List.nodup_cons.1 i2).1 (by rw[R.o,←e];exact mem_map.2 ⟨r,hr,rfl⟩))
     have SB:=@Hd (∀j∈yM p m (A++B),j∈yM p m L) (λj d=>b.sub j (by
      rw[xJ]
      simp only[yM,List.flatMap_append,List.mem_cons,mem_append] at d⊢
      rcases d with h|h|h|h
      ·exact .inl (.inl h)
      ·exact .inl (.inr (.inl h))
      ·exact .inl (.inr (.inr h))
      ·exact .inr (.inr h)))
     have c0:=(VB b.gr.obj).1
     have ba:=Hd D
     have aJ:=Hd aT
     clear b D u hM aR aT aQ ar aE S aM aI
     unfold xL at aJ
     go_wp2_with fail
     refine yw [ff,ff,ff,ff,ff,tt] (λw'=>w'.cell? ⟨p,0,none⟩=some (.map (some m))∧w'.rangeAt bx 0 (zd x)) (by kernel_rfl) (by kernel_rfl) 5 (by kernel_rfl) (by kernel_rfl) ?_ (λK hK=>?_)
     ·exact⟨(frN _).drew.cell c0 id,za ba.o (frN _).drew id⟩
     repeat((first|(refine yk rfl ?_;constructor;constructor;(focus(first|exact zn0 rfl (λw h=>h.2) HX.o|(rintro w' ⟨s1,s2⟩;exact goS))))|(refine yl rfl ?_));try simp only[Act.put,pA,pB,pC])
     (refine yf rfl (λK' hK'=>?_))
     refine yD (J2 rfl rfl rfl aJ.o) ?_
     refine hK'.out _ _ (λh=>absurd rfl h) (λhS=>?_)
     refine xV (hK.out _ _ ?_)
     go_wp2_with fail
     (try simp only[Exit.inBlock,Exit.then])
     refine bodyPost_ret (results_none rfl _ _ _) rfl ?_
     exact⟨rfl,_,GC.of_tri G5.o T5.o SQ.o aG.o aX.o,F5.o,SB.o⟩
end
theorem zeW (w:World) {x:zf} (d:zV x):y4 (w.alloc (.cells (zd x).toArray 45)) (.slice (some ⟨w.heap.size,0,none⟩) 1 1) [x]:=by
 refine⟨λc b=>by rw[mem_singleton.1 b];exact d,.inl (.inr ⟨w.heap.size,0,1,rfl,Nat.le_refl _,by unfold maxLen;omega,λj u a=>?_,by simp⟩)⟩
 rw[List.flatMap_cons,List.flatMap_nil,List.append_nil] at a
 exact zq w (zd x) 45 j u a
theorem zh0 {G:List yL} {x:zf} (h:x∉ids G):y9 G [x]=[]:=by
 refine List.eq_nil_iff_forall_not_mem.2 λy d=>?_
 obtain⟨a,c,b⟩:=qA.1 d
 rw[mem_singleton.1 c] at b
 exact h b.right
theorem zkO {G:List yL} {l:List zf} {q:zf} (a:l.Nodup) (b:∀y∈l,y∈ids G) (h:l[n]? =some q):q∈ids (jB G (l.take n)):=
 jL.2 ⟨b q (mem_of_getElem? h),QG a h⟩
def znB (w0 w:World) (p:Nat) (V:Nat→Prop) (G:List yL) (N:Nat) (x:zf) (e:Ending) (w':World):Prop:=
 e=.returned (.int .i64 (if x∈ids G then 0 else 9))∧∃V',GC w0 w' p V' (jB G [x]) N∧Fr V w w'∧∀j,V' j→V j
def zi1 (w0 w:World) (p:Nat) (V:Nat→Prop) (G:List yL) (N:Nat) (x:zf) (e:Ending) (w':World):Prop:=
 ∃v,e=.returned (.tuple #[v,.int .i64 (if x∈ids G then 0 else 9)])∧∃V',GC w0 w' p V' (jB G (y9 G [x])) N∧Fr V w w'∧(∀j,V' j→V j)∧w'.ownsRow w.heap.size 45 32 v (y9 G [x]).length ((y9 G [x]).flatMap zd)
section
variable {w0 w:World} {p N:Nat} {V:Nat→Prop} {G:List yL}
theorem zjz (h:GC w0 w p V G N) (L:N≤1000) {x:zf} (hx:zV x):Calls prog 67 #[.pointer (some ⟨p,0,none⟩),.agg (zd x).toArray] w (zi1 w0 w p V G N x):=by
 have Y:=Hd (zu hx)
 have I:Fr No w (w.alloc (.cells (zd x).toArray 45)):=(frN w).alloc _
 have Z:=Hd (zq w (zd x) 45)
 have T:=Hd I
 have g:=Hd h
 have E:=@Hd ((w.alloc (.cells (zd x).toArray 45)).heap.size=w.heap.size+1) (by simp)
 have DL:=Hd (le_trans (zjx (G:=G) [x]) (le_trans h.len L))
 have b:=λ(w1:World) (f:Fr No w w1)=>zjw (h.fr0 (f.trans0 ((frN w1).alloc (.cells (zd x).toArray 45)))) L (zeW w1 hx) (by simp)
 have M:=b _ I
 rw[E.o] at M
 have X:=Hd M
 have DN:=@Hd ((y9 G [x]).Nodup) (h.gok.nd.sublist (xh [x]))
 have C:=Hd (zjy (G:=G) [x])
 have d:(x∈ids G∧¬((y9 G [x]).length:Int)=0)∨(x∉ids G∧((y9 G [x]).length:Int)=0):=by
  by_cases a:x∈ids G
  ·obtain⟨r,hr⟩:=zhZ h.gok a
   exact .inl ⟨a,by rw[hr];simp;omega⟩
  ·exact .inr ⟨a,by rw[zh0 a];rfl⟩
 clear h I b M
 unfold zi1
 generalize y9 G [x]=D at*
 go_enter Tryz.func67,Tryz.ntmps67
 go_wp2_with (first|(refine znV rfl rfl rfl Z.o Y.o ?_)|(refine zg rfl (zK (t:=37) rfl rfl y7 xD rfl (by decide) (by decide) Y.o) ?_))
 refine X.o.mono ?_
 rintro e w2 ⟨v2,rfl,S,f2⟩
 obtain⟨va,vc,rfl⟩:=S.slice.arg.form
 have u:=Hd ((T.o.alloc (.cells (zd x).toArray 45)).trans0 f2)
 have O2:=Hd (XX S (show w.heap.size≤_ from(T.o.alloc (.cells (zd x).toArray 45)).size))
 have VW:=@Hd (∀j,V j→j<w.heap.size) (g.o.hi)
 clear S f2 X Z
 rcases d with⟨a,K⟩|⟨a,K⟩
 ·go_wp2_with fail
  rw[show((D.length:Int)==0)=false from by simpa using K]
  have c:=Hd a
  clear K a
  go_loopw [20] (λR wr=>∃(n:Nat) (V':Nat→Prop),R=.int .i64 n∧n≤D.length∧GC w0 wr p V' (jB G (D.take n)) N∧Fr V w wr∧(∀j,V' j→V j)∧wr.ownsRow w.heap.size 45 32 (.slice va D.length vc) D.length (D.flatMap zd)) (λR _=>D.length-(intOf R).toNat)
  case atStart=>exact⟨0,V,rfl,zero_le _,by rw[List.take_zero,VI];exact g.o.fr0 u.o,u.o.of0,λ_ h=>h,O2.o⟩
  case round=>
   obtain⟨n,V',rfl,hn,l,A,B,m⟩:=hrel
   by_cases h:n<D.length
   ·have i1:(n:Int)<(D.length:Int):=by omega
    obtain⟨q,o⟩:∃q,D[n]? =some q:=⟨_,getElem?_eq_getElem h⟩
    have QI:=Hd (zkO DN.o C.o o)
    have QT:=@Hd (jB G (D.take (n+1))=Vj (jB G (D.take n)) q) (by rw[YF o,zc7])
    have i:=Hd (g.o.okId q (C.o q (mem_of_getElem? o)))
    have v:=Hd (zu i.o)
    obtain⟨bq,oq,cq,Q,s,-⟩:=(y4.own m (λy hy=>g.o.okId y (C.o y hy))).at_ o
    cases Q
    have R1:=Hd s
    have W:=Hd ((frN wr).alloc (.cells (zd q).toArray 45))
    have RN:=Hd (zq wr (zd q) 45)
    have H:=Hd l
    have F:=Hd A
    have k:=Hd B
    have z:=Hd m
    have aa:=DL.o
    clear l A B m o s
    go_wp2_with (first|(refine znV rfl rfl rfl R1.o v.o ?_)|(refine zi rfl (zj (w:=wr) (cs:=zd q) (ty:=45) rfl rfl rfl (by rw[v.o];rfl) (by rw[v.o];exact yj) zE) ?_)|(refine znV rfl rfl rfl RN.o v.o ?_)|(go_at_call 104;refine(znc (H.o.fr0 W.o) L i.o QI.o).mono ?_;rintro e w5 ⟨rfl,V5,g5,f5,s5⟩;have G5:=Hd g5;have U:=Hd (W.o.of0.trans f5 (λ_ _ h=>h));have S5:=Hd s5;clear g5 f5 s5))
    go_roundw
    case rel=>exact⟨n+1,V5,by simp,by omega,by rw[QT.o];exact G5.o,F.o.trans U.o (λ_ _ h=>k.o _ h),λj O=>k.o j (S5.o j O),zb z.o U.o (λj O e=>by have:=(z.o.lt j O).1;have:=VW.o j (k.o j e);omega)⟩
    case measure=>show D.length-(n+1)<D.length-n;omega
   ·have i1:¬(n:Int)<(D.length:Int):=by omega
    have P:n=D.length:=by omega
    subst P
    rw[take_length] at l
    have H:=Hd l
    have F:=Hd A
    have k:=Hd B
    have z:=Hd m
    clear l A B m
    go_wp2_with fail
    go_ret2
    exact⟨.slice va D.length vc,by first|rfl|(rw[if_pos c.o];rfl),V',H.o,F.o,k.o,z.o⟩
 ·have h1:D=[]:=List.eq_nil_of_length_eq_zero (by omega)
  subst h1
  have h2:(([]:List zf).length:Int)=0:=rfl
  have c:=Hd a
  clear a
  go_wp2_with fail
  go_ret2
  exact⟨.slice none 0 0,by first|rfl|(rw[if_neg c.o];rfl),V,by rw[VI];exact g.o.fr0 u.o,u.o.of0,λ_ h=>h,World.ownsRow_nil _ _ _ _⟩
end
theorem zfV {G:List yL} {x:zf} {l:List zf} (h:x∈ids G):zbI G x l=10:=by unfold zbI;rw[if_pos h]
theorem zhI {G:List yL} {x:zf} {l:List zf} (h:x∉ids G) (a:∃p∈l,p∉ids G):zbI G x l=9:=by unfold zbI;rw[if_neg h,if_pos a]
theorem zi8 {G:List yL} {x:zf} {l:List zf} (h:x∉ids G) (a:∀p∈l,p∈ids G) (b:¬(upS G l).length<6):zbI G x l=16:=by
 unfold zbI;rw[if_neg h,if_neg (λ⟨p,d,c⟩=>c (a p d)),if_neg b]
theorem zgV {G:List yL} {x:zf} {l:List zf} (h:x∉ids G) (a:∀p∈l,p∈ids G) (b:(upS G l).length<6):zbI G x l=0:=by
 unfold zbI;rw[if_neg h,if_neg (λ⟨p,d,c⟩=>c (a p d)),if_pos b]
def zbJ (x:zf) (done:List zf) (t:Tri):Tri:=(t.1,t.2.1,if t.1∈done then t.2.2++[x] else t.2.2)
theorem zkE {G:List yL} (ok:GOk G) {x:zf} {l:List zf} (c:x∉ids G) (d:∀p∈l,p∈ids G):JL (ZV G x l)=(JL G).map (zbJ x (dedup l))++[(x,dedup l,[])]:=by
 have b:∀y,kid (ZV G x l) y=kid G y++(if y∈dedup l then[x] else[]):=by
  intro y
  unfold kid ZV
  rw[List.filter_append,map_append]
  congr 1
  by_cases h:y∈dedup l
  ·rw[if_pos h,List.filter_cons_of_pos (by simpa using h)];rfl
  ·rw[if_neg h,List.filter_cons_of_neg (by simpa using h)];rfl
 have a:kid (ZV G x l) x=[]:=by
  rw[b,if_neg (λh=>c (d x (qS.1 h))),List.append_nil]
  refine List.eq_nil_iff_forall_not_mem.2 λz e=>?_
  exact c (Xc ok ((V2 ok).1 e).2)
 unfold JL
 conv=>lhs;unfold ZV
 rw[map_append,map_map]
 congr 1
 ·refine map_congr_left λn f=>?_
  simp only[Function.comp,zbJ]
  refine Prod.ext rfl (Prod.ext rfl ?_)
  show kid (ZV G x l) n.id=if n.id∈dedup l then kid G n.id++[x] else kid G n.id
  rw[b]
  split<;>simp
 ·show[(x,dedup l,kid (ZV G x l) x)]=_
  rw[a]
def zcS (w0 w:World) (p:Nat) (V:Nat→Prop) (G:List yL) (N:Nat) (x:zf) (l:List zf) (e:Ending) (w':World):Prop:=
 e=.returned (.int .i64 (zbI G x l))∧∃V',GC w0 w' p V' (if zbI G x l=0 then ZV G x l else G) (N+1)∧Fr V w w'∧∀j,V' j→V j∨w.heap.size≤j
theorem zcS.no {w0 w w':World} {p N:Nat} {V:Nat→Prop} {G:List yL} {x:zf} {l:List zf} {c:Int} (h:GC w0 w p V G N) (f:Fr No w w') (e:zbI G x l=c) (a:c≠0):zcS w0 w p V G N x l (.returned (.int .i64 c)) w':=
 ⟨by rw[e],V,by rw[if_neg (by rw[e];exact a)];exact(h.fr0 f).mono (by omega),f.of0,λ_ h=>.inl h⟩
theorem zbc {w:World} {B n k bx:Nat} {v:Value} {xs:List Value} {c:Array Value} (h:w.ownsRow B 45 k v n xs) (a:w.heap[bx]? =some (.cells c 189 (0,0))):∀j,v.ownBlock=some j→j≠bx:=by
 rcases h.2 with⟨rfl,_⟩|⟨g,cap,d,rfl,_,f,_⟩
 ·intro j b;cases b
 ·intro j b e
  simp[Value.ownBlock] at b
  subst b e
  rw[f] at a
  injection a with a
  injection a with _ a
  revert a
  decide
structure zhF (w wr:World) (G:List yL) (sq nb bx:Nat) (x:zf) (l:List zf) (n:Nat) (nv:Value):Prop where
 le:n≤l.length
 sub:∀y∈l.take n,y∈ids G
 blk:wr.heap[nb]? =some (.cells #[.int .i64 ((sq:Int)+1),nv,.slice none 0 0] 189 (0,0))
 row:wr.ownsRow nb 45 32 nv (dedup (l.take n)).length ((dedup (l.take n)).flatMap zd)
 fr:Fr No w wr
 rx:wr.rangeAt bx 0 (zd x)
theorem zhF.keep {w wr d:World} {G:List yL} {c a bx n:Nat} {x:zf} {l:List zf} {b:Value} (h:zhF w wr G c a bx x l n b) (f:Fr No wr d):zhF w d G c a bx x l n b:=
 ⟨h.le,h.sub,f.obj h.blk id,zb h.row f (λ_ _=>id),h.fr.trans0 f,za h.rx f id⟩
structure zez (w0 w wr:World) (p m sq nb bx:Nat) (x:zf) (L L':List yG) (T:List Tri) (nv:Value) (D:List zf):Prop where
 gr:GR w0 wr p m sq L'
 tri:L'.map yG.t3=T
 sub:∀j∈yM p m L',j∈yM p m L∨(w.heap.size≤j∧j≠nb∧nv.ownBlock≠some j∧j≠bx)
 blk:wr.heap[nb]? =some (.cells #[.int .i64 ((sq:Int)+1),nv,.slice none 0 0] 189 (0,0))
 row:wr.ownsRow nb 45 32 nv D.length (D.flatMap zd)
 fr:Fr (λj=>j∈yM p m L) w wr
 rx:wr.rangeAt bx 0 (zd x)
theorem zez.keep {w0 w wr e:World} {p m d b bx:Nat} {x:zf} {L a:List yG} {T:List Tri} {c:Value} {D:List zf} (h:zez w0 w wr p m d b bx x L a T c D) (f:Fr No wr e):zez w0 w e p m d b bx x L a T c D:=
 ⟨h.gr.fr0 f,h.tri,h.sub,f.obj h.blk id,zb h.row f (λ_ _=>id),h.fr.trans0 f,za h.rx f id⟩
theorem zez.step {w0 w wr o:World} {p m n d bx:Nat} {x:zf} {L A B:List yG} {r k:yG} {T q:List Tri} {g:Value} {D:List zf} (h:zez w0 w wr p m n d bx x L (A++r::B) T g D) (y:GR w0 o p m n (A++k::B)) (f:Fr (λj=>j∈r.blks) wr o) (z:∀j∈k.blks,j∈r.blks∨wr.heap.size≤j) (u:(A++k::B).map yG.t3=q) (l:∀j∈yM p m L,j<w.heap.size) (v:bx<wr.heap.size) (C:w.heap.size≤bx∧bx≠d∧g.ownBlock≠some bx) (E:w.heap.size≤d):zez w0 w o p m n d bx x L (A++k::B) q g D:=by
 have c:∀j∈r.blks,j∈yM p m (A++r::B):=λj a=>by rw[xJ];simp[a]
 have b:∀j∈r.blks,j≠d∧g.ownBlock≠some j∧j≠bx:=λj a=>by
  rcases h.sub j (c j a) with h1|h1
  ·have:=l j h1
   refine⟨by omega,λe=>?_,by omega⟩
   have:=(h.row.lt j e).1
   omega
  ·exact h1.2
 refine⟨y,u,λj a=>?_,f.obj h.blk (λe=>(b _ e).1 rfl),zb h.row f (λj e t=>(b j t).2.1 e),h.fr.trans f (λi hi e=>?_),za h.rx f (λe=>(b _ e).2.2 rfl)⟩
 ·rw[xJ] at a
  simp only[mem_append] at a
  have s:∀j,j∈(p::m::A.flatMap yG.blks)∨j∈r.blks∨j∈B.flatMap yG.blks→j∈yM p m (A++r::B):=λj a=>by rw[xJ];simp only[mem_append];exact a
  rcases a with a|a|a
  ·exact h.sub j (s j (.inl a))
  ·rcases z j a with h3|h3
   ·exact h.sub j (c j h3)
   ·refine .inr ⟨by have:=h.fr.size;omega,λe=>by have:=yr h.blk;omega,λe=>by have:=(h.row.lt j e).2;omega,by omega⟩
  ·exact h.sub j (s j (.inr (.inr a)))
 ·rcases h.sub i (c i e) with h1|h1
  ·exact h1
  ·omega
section
variable {w0 w:World} {p N:Nat} {V:Nat→Prop} {G:List yL}
theorem zm9 (h:GC w0 w p V G N) (hN:N≤900) {x:zf} (hx:zV x) {v:Value} {l:List zf} (hl:y4 w v l) (bp:l.length≤500):
  Calls prog 51 #[.pointer (some ⟨p,0,none⟩),.agg (zd x).toArray,v] w (zcS w0 w p V G N x l):=by
 obtain⟨m,C,L,hr,hV,an,aV⟩:=h.tri
 obtain⟨va,vc,rfl⟩:=hl.2.form
 have HX:=Hd (zu hx)
 have ay:=Hd hx
 have HL:=Hd hl
 have f1:Fr No w (w.alloc (.cells (zd x).toArray 45)):=(frN w).alloc _
 have RB:=Hd (zq w (zd x) 45)
 have c0:=(VB (f1.obj hr.obj id)).1
 have c1:=(VB (f1.obj hr.obj id)).2.1
 obtain⟨k1,k2⟩:=hr.run_look hx false rfl
 have KM:=Hd (λ(w':World) (f:Fr No (w.alloc (.cells (zd x).toArray 45)) w')=>hr.keepM (f1.trans0 f))
 have F1:=Hd f1
 have HI:=@Hd (ids G=L.map (·.id)) (by
  have:=congrArg (List.map Prod.fst) an
  rw[J6,map_map] at this
  exact this.symm)
 have HC:=Hd h
 have HR:=Hd hr
 have HV:=Hd hV
 have HT:=Hd an
 have SQ:=Hd aV
 clear h hr f1 hx hl hV an aV
 by_cases hin:x∈ids G
 ·have D:=Hd (zfV (l:=l) hin)
  rw[HI.o] at hin
  obtain⟨r,hr,rfl⟩:=mem_map.1 hin
  have K1:=Hd (k1 r hr rfl)
  clear k1 k2 hin hr c1
  unfold Vc at K1
  unfold xL at K1
  go_enter Tryz.func51,Tryz.ntmps51
  go_wp2_with fail
  generalize hq:w.heap.size=q at*
  generalize w.alloc (.cells (zd r.id).toArray 45)=w1 at*
  refine wrLx [ff,ff,ff,ff,ff,ff,ff] (λw'=>w'.cell? ⟨p,0,none⟩=some (.map (some m))∧w'.rangeAt q 0 (zd r.id)∧(∀M,qQ w m M→qQ w' m M)) ?_ (λK hK=>?_)
  ·exact⟨(frN _).drew.cell c0 id,za RB.o (frN _).drew id,KM.o _ (frN _).drew⟩
  repeat((first|(refine zk rfl ?_;constructor;constructor;(focus(first|exact zn0 rfl (λw h=>h.2.1) HX.o|exact λw' h=>zY (t:=176) rfl rfl rfl (K1.o w' h.2.2)|(rintro w' ⟨s1,s2,s3⟩;exact goS))))|(refine zl rfl ?_));try simp only[Act.put,pA,pB,pC])
  refine zN (hK.out _ _ ?_)
  go_wp2_with fail
  go_ret
  exact zcS.no HC.o F1.o.drew D.o (by decide)
 ·have XI:=Hd hin
  rw[HI.o] at hin
  have K1:=Hd (k2 hin)
  have bz:C≤900:=le_trans SQ.o hN
  clear k1 k2 hin
  unfold xL at K1
  go_enter Tryz.func51,Tryz.ntmps51
  go_wp2_with fail
  have aE:=@Hd (w.heap.size<(w.alloc (.cells (zd x).toArray 45)).heap.size) (by simp)
  generalize bC:w.heap.size=bx at*
  generalize w.alloc (.cells (zd x).toArray 45)=w1 at*
  refine wrLx [ff,ff,ff,ff,ff,ff,ff] (λw'=>w'.cell? ⟨p,0,none⟩=some (.map (some m))∧w'.rangeAt bx 0 (zd x)∧(∀M,qQ w m M→qQ w' m M)) ?_ (λK hK=>?_)
  ·exact⟨(frN _).drew.cell c0 id,za RB.o (frN _).drew id,KM.o _ (frN _).drew⟩
  repeat((first|(refine zk rfl ?_;constructor;constructor;(focus(first|exact zn0 rfl (λw h=>h.2.1) HX.o|exact λw' h=>zY (t:=176) rfl rfl rfl (K1.o w' h.2.2)|(rintro w' ⟨s1,s2,s3⟩;exact goS))))|(refine zl rfl ?_));try simp only[Act.put,pA,pB,pC])
  refine zN (hK.out _ _ ?_)
  have F2:=Hd (F1.o.drew)
  have bd:=Hd (za RB.o (frN _).drew id)
  have bm:=(frN w1).drew.cell c1 id
  have Z:=@Hd (bx<w1.drew.heap.size) (aE.o)
  clear c0 c1 RB F1 KM aE K1
  generalize w1.drew=w2 at*
  have aT:=ye w2 (.cells #[.int .i64 ((C:Int)+1),.slice none 0 0,.slice none 0 0] 189)
  have FN:=Hd ((frN w2).alloc (.cells #[.int .i64 ((C:Int)+1),.slice none 0 0,.slice none 0 0] 189))
  have bj:=@Hd (zhF w (w2.alloc (.cells #[.int .i64 ((C:Int)+1),.slice none 0 0,.slice none 0 0] 189)) G C w2.heap.size bx x l 0 (.slice none 0 0)) (⟨zero_le _,by simp,aT,World.ownsRow_nil _ _ _ _,F2.o.trans0 FN.o,za bd.o FN.o id⟩)
  clear aT
  go_wp2_with fail
  generalize bE:w2.heap.size=o at*
  generalize w2.alloc (.cells #[.int .i64 ((C:Int)+1),.slice none 0 0,.slice none 0 0] 189)=w3 at*
  clear bm
  go_loopw [30] (λiv wr=>∃(n:Nat) (nv:Value),iv=.int .i64 n∧zhF w wr G C o bx x l n nv) (λiv _=>l.length-(intOf iv).toNat)
  case atStart=>exact⟨0,_,rfl,bj.o⟩
  case round=>
   obtain⟨n,nv,rfl,a⟩:=hrel
   have bD:=a.le
   by_cases h:n<l.length
   ·have i1:(n:Int)<(l.length:Int):=by omega
    obtain⟨q,hq⟩:∃q,l[n]? =some q:=⟨_,getElem?_eq_getElem h⟩
    have QT:=Hd (YF hq)
    have ab:=Hd (HL.o.1 q (mem_of_getElem? hq))
    have QM:=Hd (mem_of_getElem? hq)
    have U:=Hd (zu ab.o)
    obtain⟨bq,oq,cq,aD,T,-⟩:=(HL.o.keep a.fr).at_ hq
    cases aD
    have R1:=Hd T
    have FA:=Hd ((frN wr).alloc (.cells (zd q).toArray 45))
    have RN:=Hd (zq wr (zd q) 45)
    have c:=Hd (a.keep FA.o)
    have bb:=Hd (λj e=>(a.row.lt j e).2)
    have aF:=@Hd (bx<wr.heap.size) (by have:=yr a.blk;have:=Z.o;omega)
    clear a hq T
    go_wp2_with (first|(refine znV rfl rfl rfl R1.o U.o ?_)|(refine zi rfl (zj (w:=wr) (cs:=zd q) (ty:=45) rfl rfl rfl (by rw[U.o];rfl) (by rw[U.o];exact yj) zE) ?_))
    generalize bt:wr.heap.size=q4 at*
    generalize wr.alloc (.cells (zd q).toArray 45)=w4 at*
    have c0:=c.o.fr.cell (VB HR.o.obj).1 id
    have KM:=Hd (λ(w':World) (f:Fr No w4 w')=>HR.o.keepM (c.o.fr.trans0 f))
    obtain⟨k1,k2⟩:=HR.o.run_look ab.o false rfl
    by_cases ae:q∈ids G
    ·have QI:=Hd ae
     have ak:=ae
     rw[HI.o] at ak
     obtain⟨r,hr,T⟩:=mem_map.1 ak
     have K1:=Hd (k1 r hr T)
     clear k1 k2 ae ak hr T
     unfold Vc at K1
     unfold xL at K1
     refine wrLx [ff,ff,ff,ff,ff,ff,ff] (λw'=>w'.cell? ⟨p,0,none⟩=some (.map (some m))∧w'.rangeAt q4 0 (zd q)∧(∀M,qQ w m M→qQ w' m M)) ?_ (λK hK=>?_)
     ·exact⟨(frN _).drew.cell c0 id,za RN.o (frN _).drew id,KM.o _ (frN _).drew⟩
     repeat((first|(refine zk rfl ?_;constructor;constructor;(focus(first|exact zn0 rfl (λw h=>h.2.1) U.o|exact λw' h=>zY (t:=176) rfl rfl rfl (K1.o w' h.2.2)|(rintro w' ⟨s1,s2,s3⟩;exact goS))))|(refine zl rfl ?_));try simp only[Act.put,pA,pB,pC])
     refine zN (hK.out _ _ ?_)
     have u:=Hd (c.o.keep (frN _).drew)
     have ad:=Hd (za RN.o (frN _).drew id)
     have O:=@Hd (∀y∈l.take (n+1),y∈ids G) (λy I=>by
      rw[QT.o] at I
      rcases mem_append.1 I with I|I
      ·exact c.o.sub y I
      ·rw[mem_singleton.1 I];exact QI.o)
     have X:=@Hd ((dedup (l.take n)).length≤500) (by have:=zc8 (l.take n);simp only[List.length_take] at this;omega)
     have Y:=@Hd (∀y∈dedup (l.take n),zV y) (λy I=>HL.o.1 y (List.mem_of_mem_take (qS.1 I)))
     clear c0 KM K1 c RN
     generalize w4.drew=w5 at*
     go_wp2_with fail
     have cn:=(Xq u.o.blk).2.1
     have DS:=Hd (zga (l.take n) q)
     rw[←QT.o] at DS
     by_cases hqd:q∈dedup (l.take n)
     ·have QD:=@Hd (decide (q∈dedup (l.take n))=true) (decide_eq_true hqd)
      rw[if_pos hqd] at DS
      clear hqd
      refine wrLx [ff,ff,ff,ff,ff,tt,ff] (λw'=>w'.cell? ⟨o,1,none⟩=some nv∧w'.rangeAt q4 0 (zd q)) ?_ (λK hK=>?_)
      ·exact⟨(frN _).drew.cell cn id,za ad.o (frN _).drew id⟩
      repeat((first|(refine zk rfl ?_;constructor;constructor;(focus(first|exact zn0 rfl (λw h=>h.2) U.o|(rintro w' ⟨s1,s2⟩;exact goS))))|(refine zl rfl ?_));try simp only[Act.put,pA,pB,pC])
      (refine zM rfl (λK' hK'=>?_))
      go_simp
      refine(YS _ (y4.own (zb u.o.row (frN w5).drew (λ_ _=>id)) Y.o) (by have:=X.o;omega) q ab.o).mono ?_
      rintro e w6 ⟨rfl,f6⟩
      rw[QD.o]
      have F6:=Hd ((frN w5).drew.trans0 f6)
      refine nXt hK' ?_ λhS=>?_
      ·exact⟨F6.o.cell cn id,za ad.o F6.o id⟩
      try simp only[Act.put,pA,pB,pC]
      repeat((first|(refine zk rfl ?_;constructor;constructor;(focus(rintro w' ⟨s1,s2⟩;exact goS)))|(refine zl rfl ?_));try simp only[Act.put,pA,pB,pC])
      refine zN (hK.out _ _ ?_)
      go_wp2_with fail
      go_roundw
      case rel=>exact⟨n+1,nv,by simp,by omega,O.o,(u.o.keep F6.o).blk,by rw[DS.o];exact(u.o.keep F6.o).row,(u.o.keep F6.o).fr,(u.o.keep F6.o).rx⟩
      case measure=>show l.length-(n+1)<l.length-n;omega
     ·have QD:=@Hd (decide (q∈dedup (l.take n))=false) (decide_eq_false hqd)
      rw[if_neg hqd] at DS
      clear hqd
      refine wrLx [ff,ff,ff,ff,ff,tt,ff] (λw'=>w'.cell? ⟨o,1,none⟩=some nv∧w'.rangeAt q4 0 (zd q)) ?_ (λK hK=>?_)
      ·exact⟨(frN _).drew.cell cn id,za ad.o (frN _).drew id⟩
      repeat((first|(refine zk rfl ?_;constructor;constructor;(focus(first|exact zn0 rfl (λw h=>h.2) U.o|(rintro w' ⟨s1,s2⟩;exact goS))))|(refine zl rfl ?_));try simp only[Act.put,pA,pB,pC])
      (refine zM rfl (λK' hK'=>?_))
      go_simp
      refine(YS _ (y4.own (zb u.o.row (frN w5).drew (λ_ _=>id)) Y.o) (by have:=X.o;omega) q ab.o).mono ?_
      rintro e w6 ⟨rfl,f6⟩
      rw[QD.o]
      have F6:=Hd ((frN w5).drew.trans0 f6)
      refine nXt hK' ?_ λhS=>?_
      ·exact⟨F6.o.cell cn id,za ad.o F6.o id⟩
      try simp only[Act.put,pA,pB,pC]
      repeat((first|(refine zk rfl ?_;constructor;constructor;(focus(rintro w' ⟨s1,s2⟩;exact goS)))|(refine zl rfl ?_));try simp only[Act.put,pA,pB,pC])
      refine zN (hK.out _ _ ?_)
      have H:=Hd (u.o.keep F6.o)
      have aL:=Hd (za ad.o F6.o id)
      clear f6 F6 u ad cn
      go_wp2_with fail
      have cn:=(Xq H.o.blk).2.1
      have aK:=Hd (zbc H.o.row H.o.blk)
      obtain⟨v7,w7,F,Q,f7,-,aj⟩:=yA (P:=prog) w6.drew o 37 37 45 32 32 _ y7 xA rfl (by decide) (zb H.o.row (frN w6).drew (λ_ _=>id)) (zd q) U.o zE (by have:=X.o;omega) (by have:=X.o;unfold maxLen;omega) (by have:=yr H.o.blk;exact Nat.le_of_lt this)
      obtain⟨a7,c7,aq⟩:=Q.slice.arg.form
      subst aq
      have af:=Hd F
      have F7:=@Hd (Fr (λj=>nv.ownBlock=some j) w6 w7) (((frN w6).drew.of0 (W:=λj=>nv.ownBlock=some j)).trans f7 (λ_ _ h=>h))
      have O7:=@Hd (w7.ownsRow o 45 32 (.slice a7 ((dedup (l.take n)).length+1) c7) (dedup (l.take (n+1))).length ((dedup (l.take (n+1))).flatMap zd)) (by rw[DS.o,List.length_append,List.flatMap_append];simpa using Q)
      have B7:=F7.o.obj H.o.blk (λe=>aK.o _ e rfl)
      have ba:=@Hd (∀j,(Value.slice a7 ((dedup (l.take n)).length+1) c7).ownBlock=some j→j≠o) (λj e e2=>(aj j e).elim (λh=>aK.o j h e2) (λh=>by have:=yr H.o.blk;have e3:w6.drew.heap.size=w6.heap.size:=rfl;omega))
      obtain⟨-,z1,-,-,z2,-⟩:=Xq B7
      have KS:=Hd (λ(w':World) (f:Fr No w6 w')=>(⟨f.cell cn id,za aL.o f id⟩:w'.cell? ⟨o,1,none⟩=some nv∧w'.rangeAt q4 0 (zd q)))
      have K7:=@Hd (w7.cell? ⟨o,1,none⟩=some nv∧w7.rangeAt q4 0 (zd q)) (⟨z1,za aL.o F7.o (λe=>by have:=bb.o _ e;omega)⟩)
      clear F Q f7 aj
      generalize aS:(dedup (l.take n)).length+1=dl at*
      refine yw [ff,ff,ff,ff,ff,ff,tt,tt,ff,ff,tt] (λw'=>w'.cell? ⟨o,1,none⟩=some nv∧w'.rangeAt q4 0 (zd q)) (by kernel_rfl) (by kernel_rfl) 10 (by kernel_rfl) (by kernel_rfl) ?_ (λK hK=>?_)
      ·exact KS.o _ (frN _).drew
      repeat((first|(refine yk rfl ?_;constructor;constructor;(focus(first|exact zn0 rfl (λw h=>h.2) U.o|(rintro w' ⟨s1,s2⟩;exact goS))))|(refine yl rfl ?_));try simp only[Act.put,pA,pB,pC])
      (refine yf rfl (λK' hK'=>?_))
      refine yD (zK (t:=37) rfl rfl y7 xD rfl (by decide) (by decide) U.o) ?_
      refine hK'.out _ _ (λ_=>?_) (λhS=>?_)
      ·exact KS.o _ ((frN w6).drew.alloc _)
      try simp only[Act.put,pA,pB,pC]
      (refine yf rfl (λK' hK'=>?_))
      refine yE rfl rfl rfl af.o ?_
      refine hK'.out _ _ (λ_=>?_) (λhS=>?_)
      ·exact K7.o
      try simp only[Act.put,pA,pB,pC]
      repeat((first|(refine yk rfl ?_;constructor;constructor;(focus(first|(rintro w' ⟨s1,s2⟩;exact goS))))|(refine yl rfl ?_));try simp only[Act.put,pA,pB,pC])
      (refine yf rfl (λK' hK'=>?_))
      go_simp
      refine hK'.out _ _ (λh=>absurd rfl h) (λhS=>?_)
      refine xV (hK.out _ _ ?_)
      have f8:Fr (λj=>j=o) w7 (w7.setCell ⟨o,1,none⟩ (.slice a7 dl c7)):=(Fr.refl (λj=>j=o) w7).setCell ⟨o,1,none⟩ (.inr rfl) _
      have F8:=@Hd (Fr (λj=>o≤j) w6 (w7.setCell ⟨o,1,none⟩ (.slice a7 dl c7))) ((F7.o.mono (λj e=>(H.o.row.lt j e).1)).trans f8 (λj _ e=>by omega))
      have ax:=@Hd (zhF w (w7.setCell ⟨o,1,none⟩ (.slice a7 dl c7)) G C o bx x l (n+1) (.slice a7 dl c7)) (⟨h,O.o,by
       have:=heap_setCell_same w7 o 1 _ _ (.slice a7 dl c7) B7
       simpa using this,zb O7.o f8 ba.o,H.o.fr.trans F8.o (λj d e=>by have:=Z.o;omega),za H.o.rx F8.o (λe=>by have:=Z.o;omega)⟩)
      clear f8 B7 z1 z2 cn
      go_wp2_with fail
      go_roundw
      case rel=>exact⟨n+1,_,by simp,ax.o⟩
      case measure=>show l.length-(n+1)<l.length-n;omega
    ·have K1:=Hd (k2 (by rw[←HI.o];exact ae))
     have E9:=Hd (zhI XI.o ⟨q,QM.o,ae⟩)
     clear k1 k2 ae
     unfold xL at K1
     refine wrLx [ff,ff,ff,ff,ff,ff,ff] (λw'=>w'.cell? ⟨p,0,none⟩=some (.map (some m))∧w'.rangeAt q4 0 (zd q)∧(∀M,qQ w m M→qQ w' m M)) ?_ (λK hK=>?_)
     ·exact⟨(frN _).drew.cell c0 id,za RN.o (frN _).drew id,KM.o _ (frN _).drew⟩
     repeat((first|(refine zk rfl ?_;constructor;constructor;(focus(first|exact zn0 rfl (λw h=>h.2.1) U.o|exact λw' h=>zY (t:=176) rfl rfl rfl (K1.o w' h.2.2)|(rintro w' ⟨s1,s2,s3⟩;exact goS))))|(refine zl rfl ?_));try simp only[Act.put,pA,pB,pC])
     refine zN (hK.out _ _ ?_)
     go_wp2_with fail
     go_ret
     exact zcS.no HC.o c.o.fr.drew E9.o (by decide)
   ·have i1:¬(n:Int)<(l.length:Int):=by omega
    have aB:n=l.length:=by omega
    subst aB
    have al:=a.sub
    have S:=a.row
    rw[take_length] at al S
    obtain⟨na,nc,bs⟩:=S.slice.arg.form
    subst bs
    have Y:=@Hd (∀y∈dedup l,zV y) (λy I=>HL.o.1 y (qS.1 I))
    have X:=@Hd ((dedup l).length≤500) (le_trans (zc8 l) bp)
    have a1:=Hd (Xz l)
    have UE:=@Hd (zeh true G (dedup l)=upS G l) (zlJ λy=>qS)
    have O:=Hd al
    have c:=Hd a
    have cn:=(Xq a.blk).2.1
    have HW:=Hd (λ(wz:World) (f:Fr No wr wz)=>zgQ (HC.o.fr0 (c.o.fr.trans0 f)) (by omega) (y4.own (zb S f (λ_ _=>id)) Y.o) (by have:=X.o;omega) true)
    have aM:=Hd S
    have aP:=@Hd ((upS G l).Nodup) (HC.o.gok.nd.sublist (qk l))
    clear a al S
    by_cases hU:(upS G l).length<6
    ·have E0:=Hd (zgV XI.o O.o hU)
     go_wp2_with (first|(go_at_call 92;refine(HW.o _ (frN wr)).mono ?_;rintro e w5 ⟨b,M,rfl,hm,hs,hb,f5⟩;rw[UE.o] at hs;have aA:M.length=(upS G l).length:=(by rw[(keys_perm hm.nodup hs aP.o).length_eq,length_map]);have j6:¬(6:Int)≤(M.length:Int):=(by omega);have HM:=Hd hm;have F5:=Hd f5;have bn:=f5.cell cn id;clear hm hs aA f5)|(refine zg rfl (jr rfl rfl (HM.o.lenRun Ji _)) ?_))
     have u:=Hd (c.o.keep F5.o)
     have ah:=Hd (zb aM.o F5.o (λ_ _=>id))
     clear c aM HM F5 cn HW j6 bn
     have aw:=@Hd (∀j∈yM p m L,j<w.heap.size) (HR.o.hi)
     have WB:=@Hd (w.heap.size≤bx∧bx≠o∧(Value.slice na (dedup l).length nc).ownBlock≠some bx) (⟨by omega,by have:=Z.o;omega,λe=>by have:=(ah.o.lt bx e).1;have:=Z.o;omega⟩)
     have WN:=@Hd (w.heap.size≤o) (by have:=Z.o;omega)
     have bh:=@Hd (zez w0 w w5 p m C o bx x L L ((JL G).map (zbJ x ((dedup l).take 0))) (.slice na (dedup l).length nc) (dedup l)) (⟨HR.o.fr0 u.o.fr,by
      rw[HT.o]
      conv=>lhs;rw[←List.map_id (JL G)]
      exact map_congr_left λt _=>by simp[zbJ],λj d=>.inl d,u.o.blk,ah.o,u.o.fr.of0,u.o.rx⟩)
     have DI:=@Hd (∀y∈dedup l,y∈ids G) (λy I=>O.o y (qS.1 I))
     have TN:=@Hd (((JL G).map (·.1)).Nodup) (by rw[J6];exact HC.o.gok.nd)
     have bk:=@Hd (∀t∈JL G,t.2.2.length≤1000) (λt ht=>by
      obtain⟨n,hn,rfl⟩:=mem_map.1 ht
      have h2:=zbu (G:=G) n.id
      have:=HC.o.len
      exact le_trans h2 (by omega))
     have G3:=Hd (zkE HC.o.gok XI.o O.o)
     clear u ah
     generalize bB:dedup l=D at*
     go_loopw [72] (λiv wr=>∃(n:Nat) (L':List yG),iv=.int .i64 n∧n≤D.length∧zez w0 w wr p m C o bx x L L' ((JL G).map (zbJ x (D.take n))) (.slice na D.length nc) D) (λiv _=>D.length-(intOf iv).toNat)
     case atStart=>exact⟨0,L,rfl,zero_le _,bh.o⟩
     case round=>
      obtain⟨n,L',rfl,hn,a⟩:=hrel
      by_cases h:n<D.length
      ·have i1:(n:Int)<(D.length:Int):=by omega
       obtain⟨q,hq⟩:∃q,D[n]? =some q:=⟨_,getElem?_eq_getElem h⟩
       have QM:=Hd (mem_of_getElem? hq)
       obtain⟨A,r,B,rfl,aU,t,ht,aX,aW⟩:=VR (f:=zbJ x (D.take n)) (λ_=>rfl) a.tri (q:=q) (by rw[J6];exact DI.o q QM.o)
       obtain⟨bq,oq,cq,aD,T,-⟩:=(y4.own a.row Y.o).at_ hq
       cases aD
       have ab:=Hd (Y.o q QM.o)
       have U:=Hd (zu ab.o)
       have R1:=Hd T
       have FA:=Hd ((frN wr).alloc (.cells (zd q).toArray 45))
       have RN:=Hd (zq wr (zd q) 45)
       have c:=Hd (a.keep FA.o)
       have QT:=Hd (YF hq)
       have QN:=Hd (QG a1.o hq)
       have aa:=Hd (λj (d:r.cv.ownBlock=some j)=>a.gr.dis (A:=A) (B:=B) (j:=j) (.inr d))
       have aF:=@Hd (bx<wr.heap.size) (by have:=yr a.blk;have:=Z.o;omega)
       have bc:=@Hd (∀j,r.cv.ownBlock=some j→j≠bx) (λj d=>by
        have E:j∈yM p m (A++r::B):=by rw[xJ];have h2:j∈r.blks:=vA.2 (.inr (.inr d));simp[h2]
        rcases a.sub j E with h3|h3
        ·have:=aw.o j h3;omega
        ·exact h3.2.2.2)
       have aH:=@Hd (r.ks.length≤1000) (by
        have E:=bk.o t ht
        have e1:=congrArg (λz:Tri=>z.2.2) aW
        simp only[zbJ,yG.t3] at e1
        rw[aX,if_neg QN.o] at e1
        rw[←e1]
        exact E)
       have bw:=X.o
       clear a hq T aW ht aX
       subst aU
       go_wp2_with (first|(refine znV rfl rfl rfl R1.o U.o ?_)|(refine zi rfl (zj (w:=wr) (cs:=zd r.id) (ty:=45) rfl rfl rfl (by rw[U.o];rfl) (by rw[U.o];exact yj) zE) ?_))
       generalize bt:wr.heap.size=q4 at*
       generalize wr.alloc (.cells (zd r.id).toArray 45)=w4 at*
       have RM:=@Hd (r∈A++r::B) (by simp)
       have ND:=Hd (c.o.gr.node r RM.o)
       have bf:=@Hd (zV r.id∧(∀y∈r.ps,zV y)∧∀y∈r.ks,zV y) (c.o.gr.ok r RM.o)
       have LK:=Hd (c.o.gr.lookR RM.o)
       have KP:=Hd (λ(w':World) (f:Fr (λj=>r.cv.ownBlock=some j) w4 w')=>(⟨f.cell (VB c.o.gr.obj).1 (λe=>(aa.o _ e).1 rfl),za RN.o f (λe=>by have:=(aa.o _ e).2.2.2;omega),λM hM=>hM.keep f (λe=>(aa.o _ e).2.1 rfl),f.cell (Xq ND.o.blk).2.2.1 (λe=>(aa.o _ e).2.2.1 rfl),za c.o.rx f (λe=>bc.o _ e rfl)⟩:w'.cell? ⟨p,0,none⟩=some (.map (some m))∧w'.rangeAt q4 0 (zd r.id)∧(∀M,qQ w4 m M→qQ w' m M)∧w'.cell? ⟨r.b,2,none⟩=some r.cv∧w'.rangeAt bx 0 (zd x)))
       obtain⟨v7,w7,F,Q,f7,-,aj⟩:=yA (P:=prog) w4.drew w0.heap.size 37 37 45 32 32 _ y7 xA rfl (by decide) (zb ND.o.crow (frN w4).drew (λ_ _=>id)) (zd x) HX.o zE (by have:=aH.o;omega) (by have:=aH.o;unfold maxLen;omega) (by have:=c.o.gr.fr.size;exact this)
       obtain⟨a7,c7,aq⟩:=Q.slice.arg.form
       generalize aS:r.ks.length+1=dl at aq F Q
       subst aq
       have af:=Hd F
       have F7:=@Hd (Fr (λj=>r.cv.ownBlock=some j) w4 w7) (((frN w4).drew.of0 (W:=λj=>r.cv.ownBlock=some j)).trans f7 (λ_ _ h=>h))
       have O7:=@Hd (w7.ownsRow w0.heap.size 45 32 (.slice a7 dl c7) (r.ks++[x]).length ((r.ks++[x]).flatMap zd)) (by rw[List.length_append,List.flatMap_append,show[x].length=1 from rfl,aS];simpa using Q)
       have N7:=@Hd (∀j,(Value.slice a7 dl c7).ownBlock=some j→r.cv.ownBlock=some j∨w4.heap.size≤j) (aj)
       have FZ:=@Hd (w7.cell? ⟨r.b,2,none⟩=some r.cv∧w7.frozen? ⟨r.b,2,none⟩=false) (⟨(Xq (F7.o.obj ND.o.blk (λe=>(aa.o _ e).2.2.1 rfl))).2.2.1,(Xq (F7.o.obj ND.o.blk (λe=>(aa.o _ e).2.2.1 rfl))).2.2.2.2.2⟩)
       clear F Q f7 aj
       refine yw [ff,ff,ff,ff,ff,ff,ff,ff,ff,ff,ff,ff,ff,ff,ff,ff,tt,tt,ff,ff,tt] (λw'=>w'.cell? ⟨p,0,none⟩=some (.map (some m))∧w'.rangeAt q4 0 (zd r.id)∧(∀M,qQ w4 m M→qQ w' m M)∧w'.cell? ⟨r.b,2,none⟩=some r.cv∧w'.rangeAt bx 0 (zd x)) (by kernel_rfl) (by kernel_rfl) 20 (by kernel_rfl) (by kernel_rfl) ?_ (λK hK=>?_)
       ·exact KP.o _ (frN _).drew.of0
       repeat((first|(refine yk rfl ?_;constructor;constructor;(focus(first|exact zn0 rfl (λw h=>h.2.1) U.o|exact zn0 rfl (λw h=>h.2.2.2.2) HX.o|exact λw' h=>zY (t:=176) rfl rfl rfl (LK.o w' h.2.2.1)|(rintro w' ⟨s1,s2,s3,s4,s5⟩;exact goS))))|(refine yl rfl ?_));try simp only[Act.put,pA,pB,pC])
       (refine yf rfl (λK' hK'=>?_))
       refine yD (zK (t:=37) rfl rfl y7 xD rfl (by decide) (by decide) HX.o) ?_
       refine hK'.out _ _ (λ_=>?_) (λhS=>?_)
       ·exact KP.o _ ((frN w4).drew.alloc _).of0
       try simp only[Act.put,pA,pB,pC]
       repeat((first|(refine yk rfl ?_;constructor;constructor;(focus(first|(rintro w' ⟨s1,s2,s3,s4,s5⟩;exact goS))))|(refine yl rfl ?_));try simp only[Act.put,pA,pB,pC])
       (refine yf rfl (λK' hK'=>?_))
       refine yE rfl rfl rfl af.o ?_
       refine hK'.out _ _ (λ_=>?_) (λhS=>?_)
       ·exact KP.o _ F7.o
       try simp only[Act.put,pA,pB,pC]
       repeat((first|(refine yk rfl ?_;constructor;constructor;(focus(first|exact zn0 rfl (λw h=>h.2.1) U.o|exact λw' h=>zY (t:=176) rfl rfl rfl (LK.o w' h.2.2.1)|(rintro w' ⟨s1,s2,s3,s4,s5⟩;exact goS))))|(refine yl rfl ?_));try simp only[Act.put,pA,pB,pC])
       obtain⟨z1,z2⟩:=FZ.o
       (refine yf rfl (λK' hK'=>?_))
       go_simp
       refine hK'.out _ _ (λh=>absurd rfl h) (λhS=>?_)
       refine xV (hK.out _ _ ?_)
       obtain⟨g8,f8⟩:=c.o.gr.setc F7.o O7.o N7.o (λy I=>(mem_append.1 I).elim (bf.o.2.2 y) (λe=>by rw[mem_singleton.1 e];exact ay.o))
       have ax:=Hd (c.o.step g8 f8 (λj d=>by
        rw[vA] at d⊢
        rcases d with E|E|E
        ·exact .inl (.inl E)
        ·exact .inl (.inr (.inl E))
        ·exact(N7.o j E).imp (λe=>.inr (.inr e)) id) (step_map (f:=zbJ x (D.take n)) (g:=zbJ x (D.take (n+1))) TN.o (λ_=>rfl) c.o.tri rfl (λt ht e1 e2=>by
        simp only[yG.t3,zbJ] at e2⊢
        rw[e1,if_neg QN.o] at e2
        rw[e1,QT.o,if_pos (by simp)]
        injection e2 with e2 e3
        injection e3 with e3 e4
        rw[e3,e4]) (λt ht e1=>by
        simp only[zbJ,QT.o,mem_append,mem_singleton,e1,or_false])) aw.o (lt_of_lt_of_le aF.o (by have:=FA.o.size;omega)) WB.o WN.o)
       clear g8 f8 z1 z2
       go_wp2_with fail
       go_roundw
       case rel=>exact⟨n+1,_,by simp,by omega,ax.o⟩
       case measure=>show D.length-(n+1)<D.length-n;omega
      ·have i1:¬(n:Int)<(D.length:Int):=by omega
       have aB:n=D.length:=by omega
       subst aB
       have aC:=a.tri
       rw[take_length] at aC
       have c1:=(VB a.gr.obj).2.1
       have fz:=(VB a.gr.obj).2.2.2
       have ai:=a.gr.count (s:=C+1) (by omega)
       rw[show((C+1:Nat):Int)=(C:Int)+1 by omega] at ai
       have ao:p∈yM p m L':=by simp[yM]
       have br:m∈yM p m L':=by simp[yM]
       have R:∀j∈yM p m L',j≠o∧j≠bx∧(Value.slice na D.length nc).ownBlock≠some j:=λj d=>by
        rcases a.sub j d with E|E
        ·have:=aw.o j E
         refine⟨by have:=WN.o;omega,by omega,λe=>?_⟩
         have:=(a.row.lt j e).1
         have:=WN.o
         omega
        ·exact⟨E.2.1,E.2.2.2,E.2.2.1⟩
       have fc:Fr (λj=>j=p) wr (wr.setCell ⟨p,1,none⟩ (.int .i64 ((C:Int)+1))):=(Fr.refl (λj=>j=p) wr).setCell ⟨p,1,none⟩ (.inr rfl) _
       have aN:=Hd a.sub
       have au:=Hd R
       have aO:=Hd aC
       have bl:=Hd a.gr.top
       have G6:=Hd ai
       have ar:=Hd (fc.obj a.blk (λe=>(R p ao).1 e.symm))
       have ag:=Hd (zb a.row fc (λj e e2=>(R p ao).2.2 (by rw[←e2];exact e)))
       have bg:=Hd (za a.rx fc (λe=>(R p ao).2.1 e.symm))
       have a8:=@Hd (Fr (λj=>j∈yM p m L) w (wr.setCell ⟨p,1,none⟩ (.int .i64 ((C:Int)+1)))) (a.fr.trans fc (λi _ e=>by subst e;simp[yM]))
       clear a ai aC R fc ao br
       go_wp2_with fail
       generalize wr.setCell ⟨p,1,none⟩ (.int .i64 ((C:Int)+1))=w6 at*
       clear c1 fz
       have c0:=(VB G6.o.obj).1
       have aI:=@Hd (L'.map (·.id)=ids G) (by
        have E:=congrArg (List.map Prod.fst) aO.o
        rw[map_map,map_map] at E
        refine E.trans ?_
        rw[←J6]
        rfl)
       obtain⟨M,hM,az⟩:=G6.o.map
       have bo:M.length≤1000:=by
        have E:=xB (m:=ids G) hM.nodup (λy I=>by
         obtain⟨⟨k,b'⟩,bu,rfl⟩:=mem_map.1 I
         obtain⟨r,hr,e,-⟩:=(az k b').1 bu
         rw[←aI.o,←e]
         exact mem_map.2 ⟨r,hr,rfl⟩)
        have h2:=HC.o.len
        simp only[ids,length_map] at E
        omega
       obtain⟨w8,M',aZ,aQ,av,aY,-⟩:=(hM.keep (frN w6).drew id).upd xT.keyed J9 (λ_ _=>xf) (ym ay.o) (by unfold maxLen;omega) o
       have f8:Fr (λj=>j=m) w6 w8:=((frN w6).drew.of0 (W:=λj=>j=m)).trans aY.fr (λ_ _ h=>h)
       have bA:=HR.o.fr.size
       have aJ:=zbc ag.o ar.o
       have aR:(yG.mk x (C+1) D [] o (.slice na D.length nc) (.slice none 0 0)).blks.Nodup:=zdS (λe=>aJ o e rfl) (λe=>by cases e) (λj _ e=>by cases e)
       have F:∀j∈(yG.mk x (C+1) D [] o (.slice na D.length nc) (.slice none 0 0)).blks,j∉yM p m L'∧w.heap.size≤j:=λj d=>by
        rw[vA] at d
        rcases d with d|d|d
        ·have d:j=o:=d
         exact⟨λe=>(au.o j e).1 d,by have:=WN.o;omega⟩
        ·exact⟨λe=>(au.o j e).2.2 d,by have:=(ag.o.lt j d).1;have:=WN.o;omega⟩
        ·cases d
       have af:=Hd F
       have G8:=Hd (G6.o.ins (r:=⟨x,C+1,D,[],o,.slice na D.length nc,.slice none 0 0⟩) az aQ av f8 ⟨by rw[show((C+1:Nat):Int)=(C:Int)+1 by omega];exact ar.o,XX ag.o (by have:=WN.o;omega),World.ownsRow_nil _ _ _ _⟩ (by rw[aI.o];exact XI.o) aR (λj d=>⟨(F j d).1,by have:=(F j d).2;omega⟩) (λy I=>by have:=bl.o y I;show y.seq<C+1;omega) (Nat.le_refl _) ⟨ay.o,Y.o,by simp⟩)
       have F8:=@Hd (Fr V w w8) (by
        rw[HV.o]
        exact a8.o.trans f8 (λi _ e=>by subst e;simp[yM]))
       have T8:=@Hd ((L'++[(⟨x,C+1,D,[],o,.slice na D.length nc,.slice none 0 0⟩:yG)]).map yG.t3=JL (ZV G x l)) (by rw[map_append,aO.o,G3.o];rfl)
       have VJ:=@Hd (∀j,j∈yM p m (L'++[(⟨x,C+1,D,[],o,.slice na D.length nc,.slice none 0 0⟩:yG)])→V j∨w.heap.size≤j) (λj d=>by
        have e:yM p m (L'++[(⟨x,C+1,D,[],o,.slice na D.length nc,.slice none 0 0⟩:yG)])=yM p m L'++(yG.mk x (C+1) D [] o (.slice na D.length nc) (.slice none 0 0)).blks:=by simp[yM]
        rw[e] at d
        rcases mem_append.1 d with d|d
        ·rcases aN.o j d with E|E
         ·exact .inl (by rw[HV.o];exact E)
         ·exact .inr E.1
        ·exact .inr (af.o j d).2)
       have aG:=Hd aZ
       clear hM az bo aZ aQ av aY f8 aJ aR F
       unfold xL Vc at aG
       refine yw [ff,ff,ff,ff,ff,ff,tt] (λw'=>w'.cell? ⟨p,0,none⟩=some (.map (some m))∧w'.rangeAt bx 0 (zd x)) (by kernel_rfl) (by kernel_rfl) 6 (by kernel_rfl) (by kernel_rfl) ?_ (λK hK=>?_)
       ·exact⟨(frN _).drew.cell c0 id,za bg.o (frN _).drew id⟩
       repeat((first|(refine yk rfl ?_;constructor;constructor;(focus(first|exact zn0 rfl (λw h=>h.2) HX.o|(rintro w' ⟨s1,s2⟩;exact goS))))|(refine yl rfl ?_));try simp only[Act.put,pA,pB,pC])
       (refine yf rfl (λK' hK'=>?_))
       refine xp (xK rfl rfl rfl rfl aG.o) ?_
       refine hK'.out _ _ (λh=>absurd rfl h) (λhS=>?_)
       refine xV (hK.out _ _ ?_)
       go_wp2_with fail
       go_ret
       refine⟨by rw[E0.o];rfl,_,?_,F8.o,VJ.o⟩
       rw[if_pos E0.o]
       exact GC.of_tri G8.o T8.o (by have:=SQ.o;omega) (zbn HC.o.gok XI.o O.o) (by have:=HC.o.len;unfold ZV;simp;omega)
    ·have a6:=Hd (zi8 XI.o O.o hU)
     go_wp2_with (first|(go_at_call 92;refine(HW.o _ (frN wr)).mono ?_;rintro e w5 ⟨b,M,rfl,hm,hs,hb,f5⟩;rw[UE.o] at hs;have aA:M.length=(upS G l).length:=(by rw[(keys_perm hm.nodup hs aP.o).length_eq,length_map]);have j6:(6:Int)≤(M.length:Int):=(by omega);have HM:=Hd hm;have F5:=Hd f5;clear hm hs aA f5)|(refine zg rfl (jr rfl rfl (HM.o.lenRun Ji _)) ?_))
     go_ret
     exact zcS.no HC.o (c.o.fr.trans0 F5.o) a6.o (by decide)
end
end Go.Proofs.YtbcllfjmabiafaaGreatDoor
