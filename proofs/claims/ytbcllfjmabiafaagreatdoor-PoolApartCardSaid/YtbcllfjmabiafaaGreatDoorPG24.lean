/- pool: Best. -/
import Derived.Test.YtbcllfjmabiafaaGreatDoorPG22
import Derived.Test.YtbcllfjmabiafaaGreatDoorPG23
import Derived.Test.YtbcllfjmabiafaaGreatDoorPG8
import Derived.Test.YtbcllfjmabiafaaGreatDoorPG16
import Derived.Test.YtbcllfjmabiafaaGreatDoorPG21
import Derived.Test.YtbcllfjmabiafaaGreatDoorPG10
import Derived.Test.YtbcllfjmabiafaaGreatDoorPG4
set_option linter.unusedVariables false
set_option linter.unusedSimpArgs false
set_option linter.unnecessarySimpa false
set_option linter.all false
set_option maxRecDepth 20000
set_option maxHeartbeats 16000000
namespace Go.Proofs.YtbcllfjmabiafaaGreatDoor
open Go Go.RowKit Go.Maps Go.MapKept
open Go.Proofs.Tryz(prog)
open List(mem_map getElem?_eq_getElem mem_append mem_cons length_map take_length nil_append)
open Nat(le_refl zero_le le_trans)
variable {X:Nat→Prop} {a b n:Nat} {cs:List Value} {w:World}
theorem zh4 (T:List zL) (e:zL):zR (T++[e])=zR T++[e.id]:=by simp[zR]
theorem zfg (w:World):Za (w.alloc (.map #[] 0)) w.heap.size []:=⟨[],yI.made w,by simp⟩
theorem Za.keep {w w':World} {T:List zf} (h:Za w b T) {U:Nat→Prop} (f:Fr U w w') (d:¬U b):Za w' b T:=by
 obtain⟨M,a,c⟩:=h
 exact⟨M,a.keep f d,c⟩
theorem Za.lt {w:World} {T:List zf} (h:Za w b T):b<w.heap.size:=by
 obtain⟨M,a,c⟩:=h
 exact a.lt
theorem Za.put {w:World} {T:List zf} (h:Za w b T) {x:zf} (t:zV x) (v:T.length<1000):∃w',(Instr.mapUpdate 129 (.map (some b)) (.agg (zd x).toArray) (.int .i64 1)).run prog w=.ok () w'∧Za w' b (T++[x])∧Fr (λj=>j=b) w w':=by
 obtain⟨M,i,l⟩:=h
 have q:M.length<maxLen:=by
  have:=xB (m:=T) i.nodup (λk o=>by
   obtain⟨⟨u,c⟩,f,rfl⟩:=mem_map.1 o
   exact((l u c).1 f).2)
  rw[length_map] at this
  unfold maxLen
  omega
 obtain⟨w',M',s,f,a,r,-⟩:=i.upd xT.keyed Ji (λ_ _=>xf) (ym t) q 1
 refine⟨w',s,⟨M',f,λk c=>?_⟩,r.fr⟩
 rw[a,l,mem_append,List.mem_singleton]
 constructor
 ·rintro(⟨rfl,rfl⟩|⟨_,d,n⟩)
  ·exact⟨rfl,.inr rfl⟩
  ·exact⟨d,.inl n⟩
 ·rintro⟨rfl,d⟩
  by_cases e:k=x
  ·exact .inl ⟨e,rfl⟩
  ·exact .inr ⟨e,rfl,d.resolve_right e⟩
def zfT (w:World) (L:List zL) (n:Nat) (e:Ending) (w':World):Prop:=
 ∃v css,e=.returned v∧vl w.heap.size 27 3 TxQ (λj=>j<w.heap.size) w' v ((yz L n).map (·.tx)) css∧Fr No w w'
section
variable {w0 w:World} {p ma ms g N:Nat} {VG X:Nat→Prop} {C:zf→List Value} {L:List zL}
theorem zme (h:yn w0 w p ma ms g VG X C L N) (hN:N≤800) (ax:L.length≤32) (hI:∀e∈L,e.tx.ins.length≤1000∧e.tx.outs.length≤1000∧∀x∈e.tx.ins,x.key.length≤1000) (aN:∀e∈L,WOk (wgt e)) (bm:GOk (gOf L)) (hn:n≤1000):
  Calls prog 21 #[.pointer (some ⟨p,0,none⟩),.int .i64 n] w (zfT w L n):=by
 obtain⟨dH,uH,rH⟩:=jq
 have zh:=yJ
 have E:=Hd h
 have HI:=Hd hI
 have WO:=Hd aN
 have bb:=Hd ax
 have m1:=zaV w
 have OM:=Hd (zfg w)
 have F1:=Hd ((frN w).alloc (.map #[] 0))
 have bk:=@Hd ((w.alloc (.map #[] 0)).heap.size=w.heap.size+1) (by simp)
 clear h hI aN bm ax
 unfold zfT
 go_enter Tryz.func21,Tryz.ntmps21
 go_wp2_with fail
 clear m1
 generalize bl:w.heap.size=B at*
 generalize w.alloc (.map #[] 0)=w1 at*
 have B1:=@Hd (B+1≤w1.heap.size) (OM.o.lt)
 go_loopw [5] (λlv wr=>∃(k:Nat) (css:List (List Value)),k≤n∧(yz L k).length=k∧vl (B+1) 27 3 TxQ (λj=>j<B+1) wr lv ((yz L k).map (·.tx)) css∧Za wr B (zR (yz L k))∧Fr (λj=>j=B) w1 wr) (λlv _=>n-(match lv with|.slice _ k _=>k|_=>0))
 case atStart=>exact⟨0,[],zero_le _,rfl,vl.nil _ _ _ _ _ _,OM.o,Fr.refl _ _⟩
 case round=>
  obtain⟨k,css,hk,ad,ae,aI,aA⟩:=hrel
  have KR:=Hd ae
  have aq:=Hd aI
  have FR:=Hd aA
  have I:=Hd ad
  have B0:=Hd bl
  obtain⟨la,lc,aG⟩:=ae.form
  rw[length_map,ad] at aG
  subst aG
  clear ae aI aA ad
  have FW:=@Hd (Fr No w wr) (F1.o.trans FR.o (λj o e=>by have:=B0.o;omega))
  have HR:=Hd (E.o.fr0 FW.o)
  by_cases hlt:k<n
  ·have i1:(k:Int)<(n:Int):=by omega
   have RK:=Hd (zlj HR.o (by omega) aq.o)
   have s:=@Hd (∀e∈YB L (zR (yz L k)),e∈L) (λe l=>(List.mem_filter.1 l).1)
   have bj:=@Hd ((YB L (zR (yz L k))).length≤32) (le_trans (List.length_filter_le _ _) bb.o)
   have aS:=@Hd (Zi L (yz L k)=(YB L (zR (yz L k)))[Ym ((YB L (zR (yz L k))).map wgt) ((YB L (zR (yz L k))).length-1)]?) (rfl)
   have aR:=Hd (zbM (L:=L) (T:=yz L k))
   generalize YB L (zR (yz L k))=R at*
   by_cases hR:R=[]
   ·subst hR
    have aT:=@Hd (yz L n=yz L k) (by have:=zbK (aR.o.2 rfl) (n-k);rw[show k+(n-k)=n by omega] at this;exact this)
    go_wp2_with (go_at_call 54;refine RK.o.mono ?_;rintro e V ⟨rv,rfl,q,f3⟩;have F3:=Hd f3;obtain⟨ra,rc,af⟩:=q.slice.arg.form;subst af;clear q f3)
    go_ret
    exact⟨_,css,by rfl,by rw[aT.o,B0.o];exact((KR.o.fr0 F3.o).base (Nat.le_succ _)).vary (λj _ e=>by omega),FW.o.trans0 F3.o⟩
   ·have RP:=Hd (List.length_pos_iff.2 hR)
    have j1:¬(R.length:Int)=0:=by have:=RP.o;omega
    have j2:((R.length:Int)==0)=false:=by simp;exact hR
    have rl:=bj.o
    have HD:=@Hd (∀e∈R,e.id∈zR L) (λe l=>mem_map.2 ⟨e,s.o e l,rfl⟩)
    obtain⟨iK,aD,hz,aL,ay⟩:=info_parts ze0
    have MK:=Hd (λ(V:World)=>run_makeSlice_full (P:=prog) (w:=V) V.heap.size 131 118 iK _ 2 zeu aD hz aL .i64 .i64 R.length (by omega) (by rw[ay];omega) (by unfold maxLen;omega) (le_refl _))
    clear aD hz aL ay hR
    go_wp2_with (go_at_call 54;refine RK.o.mono ?_;rintro e V ⟨rv,rfl,q,f3⟩;rw[xd] at q;have O3:=Hd q;have F3:=Hd f3;obtain⟨ra,rc,af⟩:=q.slice.arg.form;subst af;obtain⟨w4,bo,aH,aB⟩:=MK.o V;have F4:=Hd (Fr.of_grown (W:=No) aB (λk e=>by cases e));have O4:=Hd aH;clear aB aH q f3)
    clear bo
    have aZ:=Hd (FW.o.trans0 (F3.o.trans0 F4.o))
    have Z3:=@Hd (B+1≤wr.heap.size) (le_trans B1.o FR.o.size)
    have Z4:=@Hd (wr.heap.size≤V.heap.size∧V.heap.size<w4.heap.size) (⟨F3.o.size,(O4.o.lt _ rfl).2⟩)
    generalize aC:V.heap.size=H at*
    go_loopw [30] (λiv u=>∃(i:Nat) (xs:List Value),iv=.int .i64 i∧i≤R.length∧u.ownsRow H 118 2 (.slice (some ⟨H,0,none⟩) R.length R.length) R.length xs∧xs.take (i*2)=((R.take i).map wgt).flatMap y6∧Fr (λj=>j=H) w4 u) (λiv _=>R.length-(intOf iv).toNat)
    case atStart=>exact⟨0,_,rfl,zero_le _,O4.o,by simp,Fr.refl _ _⟩
    case round=>
     obtain⟨i,xs,rfl,hi,aJ,aO,az⟩:=hrel
     rename World=>u
     have OQ:=Hd aJ
     have XS:=Hd aO
     have FQ:=Hd az
     clear aJ aO az
     have ah:=@Hd (Fr No w u) (aZ.o.trans FQ.o (λj o e=>by have:=FW.o.size;have:=Z4.o;omega))
     have HQ:=Hd (E.o.fr0 ah.o)
     by_cases aE:i<R.length
     ·have i2:(i:Int)<(R.length:Int):=by omega
      obtain⟨e,l⟩:∃e,R[i]? =some e:=⟨_,getElem?_eq_getElem aE⟩
      have F:(zR R)[i]? =some e.id:=by unfold zR;rw[List.getElem?_map,l];rfl
      have v:=Hd (s.o e (List.mem_of_getElem? l))
      have z:=Hd (E.o.ids e.id (mem_map.2 ⟨e,v.o,rfl⟩))
      have S:=Hd (zu z.o)
      have ho:=zb (zb O3.o F4.o (λ_ _=>id)) FQ.o (λj o e=>by have:=(O3.o.lt j o).2;have:=aC;omega)
      obtain⟨b,cap,hv,hr,-⟩:=yZ (f:=zd) (by decide) (λy hy=>zu (E.o.ids y (by obtain⟨a,ha,ab⟩:=mem_map.1 hy;rw[←ab];exact HD.o a ha))) ho F
      cases hv
      have R1:=Hd hr
      have FA:=Hd ((frN u).alloc (.cells (zd e.id).toArray 45))
      have RN:=Hd (zq u (zd e.id) 45)
      have HA:=Hd (HQ.o.fr0 FA.o.drew)
      obtain⟨M,hM,hm⟩:=HA.o.am
      obtain⟨ia,ic,oa,oc,d,-⟩:=VF HA.o v.o
      have LK:=Hd (λw' (h':xR w' ma M)=>Jw (w:=w') z.o h' hm d)
      have Z:=Hd hM
      have GQ:=@Hd (H<u.heap.size) ((OQ.o.lt _ rfl).2)
      have NE:=@Hd (p≠H∧ma≠H) (by have h1:=E.o.hi p (.inl rfl);have h2:=E.o.hi ma (.inr (.inl rfl));have:=FW.o.size;have:=Z4.o;omega)
      have HE:=Hd l
      clear F ho hr hM hm d l
      have⟨K0,K1⟩:=tZ2
      go_wp2_with ((first|((with_reducible refine zt ?_);clear K0;refine znV rfl rfl rfl R1.o S.o ?_)|((with_reducible refine zr ?_);clear K1;refine zn3 (w:=u) (cs:=zd e.id) rfl rfl rfl rfl S.o zE ?_));go_frame)
      generalize bw:u.heap.size=qn at*
      have ar:=Hd (zb OQ.o FA.o.drew (λ_ _=>id))
      have aU:=Hd (FQ.o.trans0 FA.o.drew)
      generalize u.alloc (.cells (zd e.id).toArray 45)=wa at*
      have RD:=Hd (za RN.o (frN wa).drew id)
      refine wrLx [ff,ff,ff,ff,ff,ff,ff,ff,ff,ff,tt] (λw'=>w'.cell? ⟨p,0,none⟩=some (.map (some ma))∧w'.rangeAt qn 0 (zd e.id)∧xR w' ma M) ?_ (λK hK=>?_)
      ·exact⟨HA.o.cells.1,RD.o,Z.o⟩
      generalize wa.drew=wd at*
      repeat((first|(refine zk rfl ?_;constructor;constructor;(focus(first|exact zn0 rfl (λw h=>h.2.1) S.o|exact λw' h=>zY (t:=113) rfl rfl rfl (LK.o w' h.2.2)|exact λw' _=>qX (t:=120) (f:=1) rfl rfl (zjF e.tx.ver ia oa e.tx.ins.length ic e.tx.outs.length oc e.fee e.size e.added w')|(rintro w' ⟨s1,s2,s3⟩;exact goS))))|(refine zl rfl ?_));try simp only[Act.put,pA,pB,pC])
      (refine zM rfl (λK' hK'=>?_))
      have bn:xs.length=R.length*2:=OQ.o.1
      have bp:=vP ar.o (i*2) (cs:=y6 (wgt e)) (by show i*2+2≤R.length*2;omega)
      have OS:=Hd bp
      have XT:=@Hd ((setM xs (i*2) (y6 (wgt e))).take ((i+1)*2)=((R.take (i+1)).map wgt).flatMap y6) (by
       have:=zam xs (y6 (wgt e)) (i*2) (by show i*2+2≤xs.length;omega)
       rw[show(i+1)*2=i*2+(y6 (wgt e)).length by show _=i*2+2;omega,this,XS.o,List.take_add_one,HE.o,List.map_append,List.flatMap_append]
       simp)
      have TH:=@Hd (wd.there H (i*2) 2) (Jx ar.o aE)
      have FS:=Hd (zy H (y6 (wgt e)) (i*2) wd)
      refine xp (zU (ty:=118) (b:=H) (off:=i*2) (cs:=y6 (wgt e)) rfl rfl rfl TH.o xU Qe) ?_
      refine nXt hK' ?_ λhS=>?_
      ·exact⟨FS.o.cell HA.o.cells.1 (λe=>NE.o.1 e),za RD.o FS.o (λe=>by have:=GQ.o;omega),Z.o.keep FS.o (λe=>NE.o.2 e)⟩
      try simp only[Act.put,pA,pB,pC]
      repeat((first|(refine zk rfl ?_;constructor;constructor;(focus(first|(rintro w' ⟨s1,s2,s3⟩;exact goS))))|(refine zl rfl ?_));try simp only[Act.put,pA,pB,pC])
      refine zN (hK.out _ _ ?_)
      go_wp2_with fail
      go_roundw
      case rel=>exact⟨i+1,_,by go_num,by omega,OS.o,XT.o,aU.o.trans FS.o (λ_ _ h=>h)⟩
      case measure=>simp[intOf];omega
     ·have i2:¬(i:Int)<(R.length:Int):=by omega
      have WI:=@Hd (Zz u (.slice (some ⟨H,0,none⟩) R.length R.length) (R.map wgt)) (by
       refine⟨λx hx=>?_,?_⟩
       ·obtain⟨e,l,rfl⟩:=mem_map.1 hx
        exact WO.o e (s.o e l)
       ·have ho:=OQ.o
        have hx:=XS.o
        have bn:xs.length=R.length*2:=OQ.o.1
        rw[show i=R.length by omega,List.take_of_length_le (by omega),take_length] at hx
        rw[hx] at ho
        rw[length_map]
        exact ho.slice.arg)
      have au:=Hd (zit u WI.o (by rw[length_map];omega))
      rw[length_map] at au
      obtain⟨rl1,hrl⟩:∃m,R.length=m+1:=⟨R.length-1,by have:=RP.o;omega⟩
      have ai:=Hd hrl
      obtain⟨e,l⟩:∃e,R[Ym (R.map wgt) rl1]? =some e:=⟨_,getElem?_eq_getElem (by have:=QH (R.map wgt) rl1;omega)⟩
      have BE:=@Hd (yz L (k+1)=yz L k++[e]) (Jo (by rw[aS.o,show R.length-1=rl1 by omega];exact l))
      have F:(zR R)[Ym (R.map wgt) rl1]? =some e.id:=by unfold zR;rw[List.getElem?_map,l];rfl
      have v:=Hd (s.o e (List.mem_of_getElem? l))
      have z:=Hd (E.o.ids e.id (mem_map.2 ⟨e,v.o,rfl⟩))
      have S:=Hd (zu z.o)
      have a6:=Hd F
      have TL:=@Hd (Ym (R.map wgt) rl1<R.length) (by have:=QH (R.map wgt) rl1;omega)
      have i3:(0:Int)<(R.length:Int):=by omega
      have D:=@Hd (Fr No wr u) ((F3.o.trans0 F4.o).trans FQ.o (λj o e=>by have:=Z4.o;omega))
      have bc:=Hd (aq.o.keep D.o id)
      have al:=Hd (KR.o.fr0 D.o)
      have aV:=Hd (FR.o.trans0 D.o)
      have O5:=Hd (zb (zb O3.o F4.o (λ_ _=>id)) FQ.o (λj o e=>by have:=(O3.o.lt j o).2;have:=aC;omega))
      obtain⟨b5,bs,bq,aK,-⟩:=yZ (f:=zd) (by decide) (λy hy=>zu (E.o.ids y (by obtain⟨a,ha,ab⟩:=mem_map.1 hy;rw[←ab];exact HD.o a ha))) O5.o a6.o
      cases bq
      have bh:=Hd aK
      clear aK
      clear l F hrl
      generalize hW:R.map wgt=W at*
      have xl:((Ym W rl1:Nat):Int)<(R.length:Int):=by have:=TL.o;omega
      have bA:(0:Int)≤((Ym W rl1:Nat):Int):=by omega
      have⟨K0,K1,K2,K3,K4⟩:=tZ5
      go_wp2_with ((first|(clear K0;go_at_call 55;refine au.o.mono ?_;rintro e7 w7 ⟨g7,M,rfl,aQ,Q,aP,f7⟩;have F7:=Hd f7;have c0:w7.cell? ⟨g7,0,none⟩=some (.int .i64 (Ym W rl1:Int)):=(by cases M with|nil=>(have:=Q.length_eq;rw[ai.o] at this;simp at this)|cons x r=>(rw[ai.o] at Q;rw[←zkv aQ Q];exact aP.at_ (i:=0) rfl));clear aQ Q aP f7)|((with_reducible refine zt ?_);first|(clear K1;refine zg rfl (zX (ty:=45) rfl rfl (za bh.o F7.o id) uH rH (by rw[S.o];exact yj)) ?_)|(clear K3;refine znV rfl rfl rfl av.o S.o ?_)|(clear K4;refine zi rfl (xK rfl rfl rfl rfl aM) ?_))|((with_reducible refine zr ?_);clear K2;refine zn3 (w:=w7) (cs:=zd e.id) rfl rfl rfl rfl S.o zE ?_;have av:=Hd (zq w7 (zd e.id) 45);have ag:=Hd ((frN w7).alloc (.cells (zd e.id).toArray 45));have bd:=Hd (bc.o.keep (F7.o.trans0 ag.o) id);obtain⟨w9,aM,U,f9⟩:=bd.o.put z.o (by rw[xd];have:=I.o;omega);have ao:=Hd U;have F9:=Hd f9;clear U f9));go_frame)
      generalize bu:w7.heap.size=q7 at*
      have Q7:=@Hd (B+1≤q7) (by have:=Z3.o;have:=D.o.size;have:=F7.o.size;omega)
      have R9:=Hd (za av.o F9.o (λe=>by have:=Q7.o;omega))
      have Y:=@Hd (Fr (λj=>j=B) u w9) ((F7.o.trans0 ag.o).of0.trans F9.o (λ_ _ h=>h))
      have ba:=Hd (al.o.fr Y.o (λj o e=>by omega) (λj o e=>by have:=(al.o.lt j o).1;omega))
      have a1:=@Hd (Fr No w w9) (ah.o.trans Y.o (λj o e=>by have:=B0.o;omega))
      have aW:=Hd (aV.o.trans Y.o (λ_ _ h=>h))
      generalize w7.alloc (.cells (zd e.id).toArray 45)=bz at*
      clear aM
      have FD:=Hd ((frN w9).drew)
      have A:=Hd (E.o.fr0 (a1.o.trans0 FD.o))
      obtain⟨M,hM,hm⟩:=A.o.am
      obtain⟨ia,ic,oa,oc,d,aF⟩:=VF A.o v.o
      have LK:=Hd (λw' (h':xR w' ma M)=>Jw (w:=w') z.o h' hm d)
      have Z:=Hd hM
      have OW:=Hd (zaT w9.drew (t:=e.tx) aF.now (HI.o e v.o))
      have RD:=Hd (za R9.o FD.o id)
      have aa:=Hd (ba.o.fr0 FD.o)
      have bf:=Hd (ao.o.keep FD.o id)
      have aX:=Hd (aW.o.trans0 FD.o)
      have aw:=@Hd (B+1≤w9.drew.heap.size) (ao.o.lt)
      clear hM hm d aF
      refine wrLx [ff,ff,ff,ff,ff,ff,ff,ff,tt,tt,tt,ff] (λw'=>w'.cell? ⟨p,0,none⟩=some (.map (some ma))∧w'.rangeAt q7 0 (zd e.id)∧xR w' ma M) ?_ (λK hK=>?_)
      ·exact⟨A.o.cells.1,RD.o,Z.o⟩
      generalize w9.drew=wd at*
      repeat((first|(refine zk rfl ?_;constructor;constructor;(focus(first|exact zn0 rfl (λw h=>h.2.1) S.o|exact λw' h=>zY (t:=113) rfl rfl rfl (LK.o w' h.2.2)|exact λw' _=>qX (t:=120) (f:=0) rfl rfl (zeR e.tx.ver ia oa e.tx.ins.length ic e.tx.outs.length oc e.fee e.size e.added w')|(rintro w' ⟨s1,s2,s3⟩;exact goS))))|(refine zl rfl ?_));try simp only[Act.put,pA,pB,pC])
      (refine zM rfl (λK' hK'=>?_))
      go_simp
      refine OW.o.mono ?_
      rintro e' bx ⟨bt,rfl,O,G⟩
      obtain⟨ja,jc,ka,kc,e5⟩:=(G (λ_=>False) (λ_ h=>h.elim)).now.form
      subst e5
      have c:=Hd O
      have a7:=Hd (G (λj=>j<B+1∨(Value.slice la k lc).ownBlock=some j) (λj o=>o.elim (λe=>by have:=aw.o;omega) (λe=>(aa.o.lt j e).2)))
      have ak:=Hd (aa.o.fr0 O)
      obtain⟨v8,w8,b1,b2,b3,-⟩:=ak.o.append (P:=prog) (t:=50) (ty2:=50) zet zhg rfl (by decide) a7.o rfl (jC rfl rfl rfl) (by rw[length_map];have:=I.o;omega) (by rw[length_map];unfold maxLen;have:=I.o;omega) (le_trans aw.o O.size)
      have B1:=Hd b1
      have a8:=Hd b2
      have F8:=Hd b3
      clear O G b1 b2 b3
      refine nXt hK' ?_ λhS=>?_
      ·exact⟨c.o.cell A.o.cells.1 id,za RD.o c.o id,Z.o.keep c.o id⟩
      try simp only[Act.put,pA,pB,pC]
      repeat((first|(refine zk rfl ?_;constructor;constructor;(focus(first|(rintro w' ⟨s1,s2,s3⟩;exact goS))))|(refine zl rfl ?_));try simp only[Act.put,pA,pB,pC])
      (refine zM rfl (λK' hK'=>?_))
      refine yD (zK (t:=50) (cs:=[.int .u32 e.tx.ver,.slice ja e.tx.ins.length jc,.slice ka e.tx.outs.length kc]) rfl rfl zet zeZ rfl (by decide) (by decide) rfl) ?_
      have FB:=Hd (c.o.alloc (.cells #[.int .u32 e.tx.ver,.slice ja e.tx.ins.length jc,.slice ka e.tx.outs.length kc] 27))
      refine nXt hK' ?_ λhS=>?_
      ·exact⟨FB.o.cell A.o.cells.1 id,za RD.o FB.o id,Z.o.keep FB.o id⟩
      try simp only[Act.put,pA,pB,pC]
      repeat((first|(refine zk rfl ?_;constructor;constructor;(focus(first|(rintro w' ⟨s1,s2,s3⟩;exact goS))))|(refine zl rfl ?_));try simp only[Act.put,pA,pB,pC])
      (refine zM rfl (λK' hK'=>?_))
      refine yE rfl rfl rfl B1.o ?_
      have NE:=@Hd (∀j,(Value.slice la k lc).ownBlock=some j→j≠p∧j≠ma∧j≠q7) (λj o=>by have h1:=E.o.hi p (.inl rfl);have h2:=E.o.hi ma (.inr (.inl rfl));have h3:=(KR.o.lt j o);have h4:=D.o.size;have h5:=F7.o.size;have h6:=B0.o;omega)
      refine nXt hK' ?_ λhS=>?_
      ·exact⟨F8.o.cell (c.o.cell A.o.cells.1 id) (λe=>(NE.o _ e).1 rfl),za (za RD.o c.o id) F8.o (λe=>(NE.o _ e).2.2 rfl),(Z.o.keep c.o id).keep F8.o (λe=>(NE.o _ e).2.1 rfl)⟩
      try simp only[Act.put,pA,pB,pC]
      repeat((first|(refine zk rfl ?_;constructor;constructor;(focus(first|(rintro w' ⟨s1,s2,s3⟩;exact goS))))|(refine zl rfl ?_));try simp only[Act.put,pA,pB,pC])
      refine zN (hK.out _ _ ?_)
      have an:=@Hd (vl (B+1) 27 3 TxQ (λj=>j<B+1) w8 v8 ((yz L (k+1)).map (·.tx)) _) (by rw[BE.o,List.map_append];exact a8.o)
      have bg:=@Hd (Za w8 B (zR (yz L (k+1)))) (by rw[BE.o,zh4];exact(bf.o.keep c.o id).keep F8.o (λe=>by have:=(aa.o.lt _ e).1;omega))
      have aY:=Hd ((aX.o.trans0 c.o).trans F8.o (λj o e=>by have h3:=(KR.o.lt j e).1;have h4:=bk.o;omega))
      have aj:=@Hd ((yz L (k+1)).length=k+1) (by rw[BE.o,List.length_append,I.o];rfl)
      go_wp2_with fail
      go_roundw
      case rel=>exact⟨k+1,_,by omega,aj.o,an.o,bg.o,aY.o⟩
      case measure=>
       obtain⟨va,vc,br⟩:=an.o.form
       rw[br]
       simp only[length_map,aj.o]
       show n-(k+1)<n-k
       omega
  ·have i1:¬(k:Int)<(n:Int):=by omega
   obtain rfl:k=n:=by omega
   go_wp2_with fail
   go_ret
   exact⟨_,by rfl,⟨css,(KR.o.base (Nat.le_succ _)).vary (λj _ e=>by omega)⟩,FW.o⟩
end
def hvT (t:TxD):Bool:=decide (30<t.ins.length)||(decide (30<t.outs.length)||t.ins.any λx=>decide (100<x.key.length))
def zl8 (w:World) (t:TxD) (e:Ending) (w':World):Prop:=e=.returned (.bool (hvT t))∧Fr No w w'
theorem Z9 (w:World) {t:TxD} (O:TxQ w t cs):
  Calls prog 13 #[.agg cs.toArray] w (zl8 w t):=by
 obtain⟨o,q,r,s,rfl,-,I,-⟩:=O
 have Y:=Yc
 have d:=Hd ((frN w).alloc (.cells #[.int .u32 t.ver,.slice o t.ins.length q,.slice r t.outs.length s] 27))
 have L:=Hd (I.keep0 d.o)
 obtain⟨-,c1,c2,-⟩:=qI w t.ver (.slice o t.ins.length q) (.slice r t.outs.length s)
 clear I
 show Calls prog 13 #[.agg #[.int .u32 t.ver,.slice o t.ins.length q,.slice r t.outs.length s]] w _
 by_cases h1:30<t.ins.length
 ·have Q:(30:Int)<(t.ins.length:Int):=by omega
  have e:=@Hd (hvT t=true) (by simp[hvT,h1])
  clear h1
  go_enter Tryz.func13,Tryz.ntmps13
  go_wp2_with fail
  go_ret
  exact⟨by rw[e.o];rfl,d.o⟩
 have Q:¬(30:Int)<(t.ins.length:Int):=by omega
 by_cases h2:30<t.outs.length
 ·have R:(30:Int)<(t.outs.length:Int):=by omega
  have e:=@Hd (hvT t=true) (by simp[hvT,h2])
  clear h1 h2
  go_enter Tryz.func13,Tryz.ntmps13
  go_wp2_with fail
  go_ret
  exact⟨by rw[e.o];rfl,d.o⟩
 have R:¬(30:Int)<(t.outs.length:Int):=by omega
 have T:t.ins.length≤30:=by omega
 have M:=@Hd (∀x∈t.ins,100<x.key.length→hvT t=true) (λx a h=>by
  have:t.ins.any (λx=>decide (100<x.key.length))=true:=List.any_eq_true.2 ⟨x,a,by simpa using h⟩
  simp[hvT,this])
 have K:=@Hd ((∀x∈t.ins,¬100<x.key.length)→hvT t=false) (λh=>by
  have:t.ins.any (λx=>decide (100<x.key.length))=false:=List.any_eq_false.2 (λx a=>by simpa using h x a)
  simp only[hvT,this]
  simp
  omega)
 clear h1 h2
 go_enter Tryz.func13,Tryz.ntmps13
 go_wp2_with fail
 generalize w.alloc (.cells #[.int .u32 t.ver,.slice o t.ins.length q,.slice r t.outs.length s] 27)=U at*
 clear c1 c2
 go_loopw [18] (λD wr=>∃n:Nat,D=.int .i64 n∧n≤t.ins.length∧(∀x∈t.ins.take n,¬100<x.key.length)∧Fr No U wr) (λD _=>t.ins.length-(intOf D).toNat)
 case atStart=>exact⟨0,rfl,zero_le _,by simp,Fr.refl _ _⟩
 case round=>
  obtain⟨n,rfl,W,f,fr⟩:=hrel
  have E:=Hd f
  clear f
  have l:=Hd fr
  clear fr
  by_cases B:n<t.ins.length
  ·have P:(n:Int)<(t.ins.length:Int):=by omega
   obtain⟨x,a⟩:∃x,t.ins[n]? =some x:=⟨_,getElem?_eq_getElem B⟩
   obtain⟨bx,X,V,xs,C,i,j,k,rfl,c,A⟩:=(L.o.keep0 l.o).at_ a
   cases C
   have m:=Hd (jf c (.slice j x.key.length k))
   have H:=Hd i
   have F:=Hd ((frN wr).alloc (.cells (inC x.from_ (.slice j x.key.length k)).toArray 112))
   have N:=(XF wr (p:=x.from_) (kv:=.slice j x.key.length k) c).2
   have G:=Hd a
   clear i A a c
   by_cases hk:100<x.key.length
   ·have S:(100:Int)<(x.key.length:Int):=by omega
    have⟨v,z⟩:=tZ2
    go_wp2_with ((first|((with_reducible refine zt ?_);clear v;refine znS rfl rfl rfl H.o m.o ?_)|((with_reducible refine zr ?_);clear z;refine zn1 (w:=wr) (cs:=inC x.from_ (.slice j x.key.length k)) rfl rfl rfl rfl m.o Jm ?_));go_frame)
    go_ret
    exact⟨by rw[M.o x (List.mem_of_getElem? G.o) hk];rfl,(d.o.trans0 l.o).trans0 F.o⟩
   ·have S:¬(100:Int)<(x.key.length:Int):=by omega
    have u:=@Hd (∀y∈t.ins.take (n+1),¬100<y.key.length) (λy b=>by
     rw[List.take_add_one,G.o] at b
     rcases mem_append.1 b with b|b
     ·exact E.o y b
     ·simp at b;subst b;exact hk)
    have⟨v,z⟩:=tZ2
    go_wp2_with ((first|((with_reducible refine zt ?_);clear v;refine znS rfl rfl rfl H.o m.o ?_)|((with_reducible refine zr ?_);clear z;refine zn1 (w:=wr) (cs:=inC x.from_ (.slice j x.key.length k)) rfl rfl rfl rfl m.o Jm ?_));go_frame)
    go_roundw
    case rel=>exact⟨n+1,by go_num,by omega,u.o,l.o.trans0 F.o⟩
    case measure=>simp[intOf];omega
  ·have g:n=t.ins.length:=by omega
   have P:¬(n:Int)<(t.ins.length:Int):=by omega
   have e:=Hd (K.o (λx a=>E.o x (by rw[g,take_length];exact a)))
   clear g
   go_wp2_with fail
   go_ret
   exact⟨by rw[e.o];rfl,d.o.trans0 l.o⟩
def zcG:List Value:=[.int .u32 0,.slice none 0 0,.slice none 0 0]
theorem Zp (w:World):(zeroValue 27).run prog w=.ok (.agg zcG.toArray) w:=by kernel_rfl
theorem zeq {t:TxD} (h:TxQ w t cs):cs.length=3∧∀v∈cs,v.oneCell'=true:=by
 obtain⟨a,b,c,d,rfl⟩:=h.form
 exact⟨rfl,jC rfl rfl rfl⟩
theorem zc9:∃d,prog.underlying 91=some d∧d.isRow=true:=jR (by kernel_rfl)
theorem vN:(prog.info? 91).map (·.size)=some 8:=by kernel_rfl
theorem zdK (w:World):(zeroValue 91).run prog w=.ok (.agg (Yf 0 zcG JC 0).toArray) w:=by kernel_rfl
theorem zcV {a:vm} (h:vW w a cs):∀v∈cs,v.oneCell'=true:=by
 obtain⟨t,b,rfl,f,d,e⟩:=h
 obtain⟨g,i,j,k,rfl⟩:=e.form
 intro v c
 unfold Yf at c
 rcases mem_cons.1 c with rfl|c
 ·rfl
 rcases mem_append.1 c with c|c
 ·exact(zeq d).2 v c
 rcases mem_append.1 c with c|c
 ·exact jC rfl rfl rfl v c
 ·rw[List.mem_singleton.1 c];rfl
theorem J0 {q:Nat} {k n:Int} {t b:List Value} (h:w.rangeAt q 0 (Yf k t b n)) (e:t.length=3) (d:b.length=3):
  w.cell? ⟨q,0,none⟩=some (.int .i64 k)∧w.rangeAt q 1 t∧w.rangeAt q 4 b∧w.cell? ⟨q,7,none⟩=some (.int .u64 n):=by
 refine⟨by simpa using h 0 _ rfl,λj v c=>?_,λj v c=>?_,?_⟩
 ·have a:=(List.getElem?_eq_some_iff.1 c).1
  have:=h (1+j) v (by rw[show 1+j=j+1 by omega];simp only[Yf,List.getElem?_cons_succ];rw[List.getElem?_append_left a];exact c)
  rwa [Nat.zero_add] at this
 ·have a:=(List.getElem?_eq_some_iff.1 c).1
  have:=h (4+j) v (by rw[show 4+j=(3+j)+1 by omega];simp only[Yf,List.getElem?_cons_succ];rw[List.getElem?_append_right (by omega),show 3+j-t.length=j by omega,List.getElem?_append_left a];exact c)
  rwa [Nat.zero_add] at this
 ·have:=h 7 (.int .u64 n) (by simp only[Yf,List.getElem?_cons_succ];rw[List.getElem?_append_right (by omega),List.getElem?_append_right (by omega)];simp[e,d])
  simpa using this
def zav (w:World) (F:List yC) (L:List vm) (e:Ending) (w':World):Prop:=
 (∃g:Int,e=.returned (.int .i64 g)∧(g=0∨g=1)∧(g=0→F.length≤300∧L.length≤80∧∀a∈L,a.blk.txs.length≤20))∧Fr No w w'
theorem xC (w:World) {fv lv:Value} {F:List yC} {L:List vm} (hf:xg w fv F) (hl:vK w lv L):
  Calls prog 12 #[fv,lv] w (zav w F L):=by
 have HL:=Hd hl
 obtain⟨fa,fc,rfl⟩:=hf.2.form
 obtain⟨va,vc,rfl⟩:=hl.form
 obtain⟨dA,Z,Y⟩:=zc9
 have zA:=zdK
 have zT:=show ∀w,(zeroValue 27).run prog w=.ok (.agg zcG.toArray) w from Zp
 have T1:=@Hd (∀w',Fr No w w'→zav w F L (.returned (.int .i64 1)) w') (λw' f=>⟨⟨1,rfl,.inr rfl,λh=>by cases h⟩,f⟩)
 clear hf hl
 by_cases h1:300<F.length
 ·have j1:decide ((300:Int)<(F.length:Int))=true:=by simp;omega
  clear h1
  go_enter Tryz.func12,Tryz.ntmps12
  go_wp2
  go_ret
  exact T1.o _ (Fr.refl _ _)
 have j1:decide ((300:Int)<(F.length:Int))=false:=by simp;omega
 by_cases h2:80<L.length
 ·have j2:decide ((80:Int)<(L.length:Int))=true:=by simp;omega
  clear h1 h2
  go_enter Tryz.func12,Tryz.ntmps12
  go_wp2
  go_ret
  exact T1.o _ (Fr.refl _ _)
 have j2:decide ((80:Int)<(L.length:Int))=false:=by simp;omega
 have af:L.length≤80:=by omega
 have T0:=@Hd ((∀a∈L,a.blk.txs.length≤20)→∀w',Fr No w w'→zav w F L (.returned (.int .i64 0)) w') (λh w' f=>⟨⟨0,rfl,.inl rfl,λ_=>⟨by omega,af,h⟩⟩,f⟩)
 clear h1 h2
 go_enter Tryz.func12,Tryz.ntmps12
 go_wp2
 clear j1 j2
 go_loopw [19] (λC wr=>∃n:Nat,C=.int .i64 n∧n≤L.length∧(∀a∈L.take n,a.blk.txs.length≤20)∧Fr No w wr) (λC _=>L.length-(intOf C).toNat)
 case atStart=>exact⟨0,rfl,zero_le _,by simp,Fr.refl _ _⟩
 case round=>
  obtain⟨n,rfl,hn,G,fr⟩:=hrel
  have FR:=Hd fr
  have HK:=Hd G
  clear fr G
  by_cases ab:n<L.length
  ·have i1:(n:Int)<(L.length:Int):=by omega
   obtain⟨a,I⟩:∃x,L[n]? =some x:=⟨_,getElem?_eq_getElem ab⟩
   obtain⟨bb,off,cap,cs,hv,hr,T⟩:=(HL.o.keep0 FR.o).at_ I
   cases hv
   have Q:=Hd hr
   have c:=Hd T.len
   have M:=Hd (zcV T)
   have FA:=Hd ((frN wr).alloc (.cells cs.toArray 91))
   have HQ:=Hd (T.keep FA.o)
   obtain⟨ao,bcs,E,-,r,p⟩:=HQ.o
   have P:=Hd (J0 (q:=wr.heap.size) (by rw[←E];exact zq wr cs 91) (zeq r).1 p.len3)
   obtain⟨pa,pc,ta,tc,rfl⟩:=p.form
   have u:=Hd P.o.2.1
   have R:=Hd (zeq r).1
   have d:=P.o.2.2.1 1 _ rfl
   have g:=P.o.2.2.1 2 _ rfl
   have aa:=Hd r
   have v:=@Hd (j7 (wr.alloc (.cells cs.toArray 91)) (.slice ta a.blk.txs.length tc) a.blk.txs) (by
    obtain⟨ai,aj,al,an,e,_,_,I⟩:=p
    simp only[VD,List.cons.injEq,and_true] at e
    obtain⟨-,-,e2⟩:=e
    injection e2 with e21 _ e23
    subst e21;subst e23
    exact I)
   have HX:=Hd I
   clear hr T I E r p P HQ
   have z:=Hd (Z9 _ aa.o)
   have O:=Hd (FR.o.trans0 FA.o)
   unfold zl8 at z
   cases hh:hvT a.tx with
   |true=>
    rw[hh] at z
    clear hh
    have⟨j,k,l,o⟩:=tZ4
    go_wp2_with ((first|((with_reducible refine zt ?_);first|(clear j;refine zg rfl (zX (ty:=91) rfl rfl Q.o Z Y (by rw[c.o];exact vN)) ?_)|(clear l;refine znT rfl rfl rfl u.o R.o ?_))|((with_reducible refine zr ?_);clear k;refine zi rfl (zj (w:=wr) (ty:=91) (cs:=cs) rfl rfl rfl (by rw[c.o];rfl) (by rw[c.o];exact vN) M.o) ?_;generalize wr.heap.size=q at u d g⊢;generalize wr.alloc (.cells cs.toArray 91)=wA at*)|(clear o;go_at_call 13;refine z.o.mono ?_;rintro e w5 ⟨rfl,b⟩;have y:=Hd (O.o.trans0 b);have S:=Hd (v.o.keep0 b);clear v;have d1:=b.cell d id;have d2:=b.cell g id;clear b d g));go_frame)
    go_ret
    exact T1.o _ y.o
   |false=>
    rw[hh] at z
    clear hh
    by_cases h3:20<a.blk.pay.length
    ·have k1:(20:Int)<(a.blk.pay.length:Int):=by omega
     clear h3
     have⟨j,k,l,o⟩:=tZ4
     go_wp2_with ((first|((with_reducible refine zt ?_);first|(clear j;refine zg rfl (zX (ty:=91) rfl rfl Q.o Z Y (by rw[c.o];exact vN)) ?_)|(clear l;refine znT rfl rfl rfl u.o R.o ?_))|((with_reducible refine zr ?_);clear k;refine zi rfl (zj (w:=wr) (ty:=91) (cs:=cs) rfl rfl rfl (by rw[c.o];rfl) (by rw[c.o];exact vN) M.o) ?_;generalize wr.heap.size=q at u d g⊢;generalize wr.alloc (.cells cs.toArray 91)=wA at*)|(clear o;go_at_call 13;refine z.o.mono ?_;rintro e w5 ⟨rfl,b⟩;have y:=Hd (O.o.trans0 b);have S:=Hd (v.o.keep0 b);clear v;have d1:=b.cell d id;have d2:=b.cell g id;clear b d g));go_frame)
     go_ret
     exact T1.o _ y.o
    have k1:¬(20:Int)<(a.blk.pay.length:Int):=by omega
    by_cases h4:20<a.blk.txs.length
    ·have k2:(20:Int)<(a.blk.txs.length:Int):=by omega
     clear h3 h4
     have⟨j,k,l,o⟩:=tZ4
     go_wp2_with ((first|((with_reducible refine zt ?_);first|(clear j;refine zg rfl (zX (ty:=91) rfl rfl Q.o Z Y (by rw[c.o];exact vN)) ?_)|(clear l;refine znT rfl rfl rfl u.o R.o ?_))|((with_reducible refine zr ?_);clear k;refine zi rfl (zj (w:=wr) (ty:=91) (cs:=cs) rfl rfl rfl (by rw[c.o];rfl) (by rw[c.o];exact vN) M.o) ?_;generalize wr.heap.size=q at u d g⊢;generalize wr.alloc (.cells cs.toArray 91)=wA at*)|(clear o;go_at_call 13;refine z.o.mono ?_;rintro e w5 ⟨rfl,b⟩;have y:=Hd (O.o.trans0 b);have S:=Hd (v.o.keep0 b);clear v;have d1:=b.cell d id;have d2:=b.cell g id;clear b d g));go_frame)
     go_ret
     exact T1.o _ y.o
    have k2:¬(20:Int)<(a.blk.txs.length:Int):=by omega
    have AN:=@Hd (∀s∈L.take (n+1),s.blk.txs.length≤20) (λs B=>by
     rw[List.take_add_one,HX.o] at B
     rcases mem_append.1 B with B|B
     ·exact HK.o s B
     ·simp at B;subst B;omega)
    have ak:a.blk.txs.length≤20:=by omega
    clear h3 h4
    have⟨j,k,l,o⟩:=tZ4
    go_wp2_with ((first|((with_reducible refine zt ?_);first|(clear j;refine zg rfl (zX (ty:=91) rfl rfl Q.o Z Y (by rw[c.o];exact vN)) ?_)|(clear l;refine znT rfl rfl rfl u.o R.o ?_))|((with_reducible refine zr ?_);clear k;refine zi rfl (zj (w:=wr) (ty:=91) (cs:=cs) rfl rfl rfl (by rw[c.o];rfl) (by rw[c.o];exact vN) M.o) ?_;generalize wr.heap.size=q at u d g⊢;generalize wr.alloc (.cells cs.toArray 91)=wA at*)|(clear o;go_at_call 13;refine z.o.mono ?_;rintro e w5 ⟨rfl,b⟩;have y:=Hd (O.o.trans0 b);have S:=Hd (v.o.keep0 b);clear v;have d1:=b.cell d id;have d2:=b.cell g id;clear b d g));go_frame)
    go_loopw [44] (λC wr=>∃m:Nat,C=.int .i64 m∧m≤a.blk.txs.length∧j7 wr (.slice ta a.blk.txs.length tc) a.blk.txs∧Fr No w wr) (λC _=>a.blk.txs.length-(intOf C).toNat)
    case atStart=>exact⟨0,rfl,zero_le _,S.o,y.o⟩
    case round=>
     obtain⟨m,rfl,hm,K,fr⟩:=hrel
     rename World=>wq
     have XQ:=Hd K
     have FQ:=Hd fr
     clear K fr
     by_cases ad:m<a.blk.txs.length
     ·have i2:(m:Int)<(a.blk.txs.length:Int):=by omega
      obtain⟨t,ht⟩:∃t,a.blk.txs[m]? =some t:=⟨_,getElem?_eq_getElem ad⟩
      obtain⟨b2,ah,ag,ts,ae,H,A⟩:=XQ.o.at_ ht
      cases ae
      obtain⟨U,V,W,X,rfl⟩:=A.form
      have R2:=Hd H
      have FB:=Hd ((frN wq).alloc (.cells #[.int .u32 t.ver,.slice U t.ins.length V,.slice W t.outs.length X] 27))
      have RN:=Hd (qI wq t.ver (.slice U t.ins.length V) (.slice W t.outs.length X)).2.2.2
      have i:=Hd (Z9 _ (A.keep FB.o))
      clear ht H A
      unfold zl8 at i
      cases hh2:hvT t with
      |true=>
       rw[hh2] at i
       clear hh2
       have⟨j,k,l,o⟩:=tZ4
       go_wp2_with ((first|((with_reducible refine zt ?_);first|(clear j;refine znT rfl rfl rfl R2.o rfl ?_)|(clear l;refine znT rfl rfl rfl RN.o rfl ?_))|((with_reducible refine zr ?_);clear k;refine zi rfl (zj (w:=wq) (ty:=27) (cs:=[.int .u32 t.ver,.slice U t.ins.length V,.slice W t.outs.length X]) rfl rfl rfl rfl xt (jC rfl rfl rfl)) ?_)|(clear o;go_at_call 13;refine i.o.mono ?_;rintro e w4 ⟨rfl,D⟩;have N:=Hd (FB.o.trans0 D);clear D));go_frame)
       go_ret
       exact T1.o _ (FQ.o.trans0 N.o)
      |false=>
       rw[hh2] at i
       clear hh2
       have⟨j,k,l,o⟩:=tZ4
       go_wp2_with ((first|((with_reducible refine zt ?_);first|(clear j;refine znT rfl rfl rfl R2.o rfl ?_)|(clear l;refine znT rfl rfl rfl RN.o rfl ?_))|((with_reducible refine zr ?_);clear k;refine zi rfl (zj (w:=wq) (ty:=27) (cs:=[.int .u32 t.ver,.slice U t.ins.length V,.slice W t.outs.length X]) rfl rfl rfl rfl xt (jC rfl rfl rfl)) ?_)|(clear o;go_at_call 13;refine i.o.mono ?_;rintro e w4 ⟨rfl,D⟩;have N:=Hd (FB.o.trans0 D);clear D));go_frame)
       go_roundw
       case rel=>exact⟨m+1,by go_num,by omega,XQ.o.keep0 N.o,FQ.o.trans0 N.o⟩
       case measure=>simp[intOf];omega
     ·have i2:¬(m:Int)<(a.blk.txs.length:Int):=by omega
      go_wp2
      go_roundw
      case rel=>exact⟨n+1,by go_num,by omega,AN.o,FQ.o⟩
      case measure=>simp[intOf];omega
  ·have i1:¬(n:Int)<(L.length:Int):=by omega
   have HP:=Hd (T0.o (by
    have:=HK.o
    rw[show n=L.length by omega,take_length] at this
    exact this))
   go_wp2
   go_ret
   exact HP.o _ FR.o
def xM (pc pp:Nat):List Value:=[.pointer (some ⟨pc,0,none⟩),.pointer (some ⟨pp,0,none⟩)]
theorem jZ (w:World):(zeroValue 34).run prog w=.ok (.agg #[.pointer none,.pointer none]) w:=by kernel_rfl
theorem zjf (a b:Option Addr) (w:World):(Instr.build 34 #[(0,.pointer a),(1,.pointer b)]).run prog w=.ok (.agg [.pointer a,.pointer b].toArray) w:=by kernel_rfl
theorem qR:(prog.info? 34).map (·.size)=some 2:=by kernel_rfl
theorem zhV:∃d,prog.underlying 34=some d∧d.isRow=true:=jR (by kernel_rfl)
def znb (first:List yC):List zn:=jQ [] (Zn yT first)
theorem zfq {w0 wb r l:World} {pc pp f k g:Nat} {n b:Nat→Prop} {m:List zn} (c:Gd wb r pc n m m []) (F:Fr No w0 wb) (x:Fr No r l) (q:∀j,poV pp f k b j→r.heap.size≤j) (p:∀X:Nat→Prop,(∀j,poV pp f k b j→X j)→∀C,yn w0 l pp f k g b X C [] 0):
  ∃T:Nat→Prop,(∀X:Nat→Prop,(∀j,T j→X j)→(∀j,X j→j<l.heap.size)→PS w0 l pc pp T X 0 ⟨m,m,[],[]⟩)∧∀j,T j→wb.heap.size≤j∧j<l.heap.size:=by
 obtain⟨css,B⟩:=c.x
 have u:=B.cl
 have t:css=[]:=List.eq_nil_of_length_eq_zero u
 subst t
 have E:=p (poV pp f k b) (λ_ h=>h) (λ_=>[])
 have v:∀j,poV pp f k b j→j<l.heap.size:=E.hi
 have a:∀j,n j→j<r.heap.size:=c.hi
 refine⟨qT n pp f k b,λX z H=>⟨n,[],f,k,g,b,λ_=>[],?_,rfl⟩,λj o=>?_⟩
 ·have D:CX w0 l pc n X m m [] []:=zmi ⟨B.fr0 x,c.srt0,c.ok0,c.len0,λi d cs s y=>by simp at s⟩ F
  exact
   {ch:=D
    po:=p X (λj o=>z j (.inr o)) _
    cp:=λj s y=>by have:=a j s;have:=q j y;omega
    cx:=λj o=>z j (.inl o)
    xl:=H
    val:=.nil
    l32:=by simp
    ad:=λe G=>by cases G}
 ·rcases o with e|e
  ·have:=a j e;have:=x.size
   exact⟨c.lo j e,by omega⟩
  ·have:=v j e;have:=q j e;have:=c.fr.size
   exact⟨by omega,by omega⟩
theorem JS {w0 w:World} (E:Fr No w0 w) {v:Value} {first:List yC} (G:xg w v first) (Z:first.length≤256):
  Calls prog 14 #[v] w λe w'=>∃pc pp T,e=.returned (.agg (xM pc pp).toArray)∧(∀X:Nat→Prop,(∀j,T j→X j)→(∀j,X j→T j∨j<w.heap.size)→PS w0 w' pc pp T X 0 ⟨znb first,znb first,[],[]⟩)∧(∀j,T j→w.heap.size≤j)∧Fr No w w':=by
 have zw:=jZ
 have r:=Hd E
 have s:=Hd ((frN w).alloc (.cells #[.pointer none,.pointer none] 34))
 have B1:=Hd (ye w (.cells #[.pointer none,.pointer none] 34))
 have L:=Hd (zlX _ (G.keep s.o) Z)
 clear G E
 go_enter Tryz.func14,Tryz.ntmps14
 have⟨O,Q,R,S⟩:=tZ4
 go_wp2_with ((first|(clear O;go_at_call 44;generalize y:w.heap.size=c at*;generalize m:w.alloc (.cells #[.pointer none,.pointer none] 34)=w1 at*;have W:=@Hd (w1.heap.size=c+1) (by rw[←m,←y];simp);clear m;refine L.o.mono ?_;rintro e H ⟨pc,rfl,VC,p⟩;have GC:=Hd p;have B:=Hd (s.o.trans0 p.fr);have I:=Hd (p.fr.obj B1.o id);clear p)|(clear Q;go_at_call 46;refine(zlW w0 H (r.o.trans0 B.o)).mono ?_;rintro e z ⟨rfl,o,ma,ms,g,VG,l,k⟩;have C:=Hd (B.o.trans0 o);obtain⟨T,n,f⟩:=zfq GC.o (r.o.trans0 s.o) o (λj a=>l j a) k;have u:=Hd n;have d:=Hd f;have q:=Hd (o.obj I.o id);have Y:=@Hd (c<z.heap.size) (yr q.o);clear l k o n f;generalize aa:H.heap.size=pp at*)|((with_reducible refine zt ?_);clear R;refine zg rfl (yv (t:=34) rfl rfl (zjf _ _ _)) ?_)|((with_reducible refine zr ?_);clear S;refine zi rfl (zU (ty:=34) (b:=c) (off:=0) (cs:=[.pointer (some ⟨pc,0,none⟩),.pointer (some ⟨pp,0,none⟩)]) rfl rfl rfl (yb q.o (le_refl 2)) qR (XV rfl rfl)) ?_));go_frame)
 have K:=zcQ (cs:=[.pointer (some ⟨pc,0,none⟩),.pointer (some ⟨pp,0,none⟩)]) q.o rfl
 have x:=zy c [.pointer (some ⟨pc,0,none⟩),.pointer (some ⟨pp,0,none⟩)] 0 z
 have M:=u.o
 have D:∀j,T j→c+1≤j:=λj a=>by have:=(d.o j a).1;have:=W.o;omega
 have U:w0.heap.size≤c:=by have:=r.o.size;omega
 have V:=λ(X:Nat→Prop) (h1:∀j,T j→X j) (h2:∀j,X j→T j∨j<w.heap.size)=>
  have F:∀j,X j→j<z.heap.size:=λj a=>(h2 j a).elim (λe=>(d.o j e).2) (λe=>by have:=C.o.size;omega)
  (M (λj=>X j∨j=c) (λj h=>.inl (h1 j h)) (λj a=>a.elim (F j) (λe=>by rw[e];exact Y.o))).frV (X':=X) x (λj a e=>by have:=D j a;omega) (λj e=>by omega) (λj e=>.inr e) (λj _ e=>.inl e) h1 (λj a=>Nat.lt_of_lt_of_le (F j a) x.size)
 refine bodyPost_ret (v:=.agg [.pointer (some ⟨pc,0,none⟩),.pointer (some ⟨pp,0,none⟩)].toArray) (results_cell_row (P:=prog) (fn:=Tryz.f14) rfl _ _ c 34 _ (0,0) _ rfl K Tryz.underlying34 rfl qR) rfl ⟨pc,pp,T,rfl,V,λj a=>by have:=D j a;omega,C.o.trans x (λi hi e=>by omega)⟩
section
variable {w0 wb w w':World} {pc pp N:Nat} {T X X1:Nat→Prop} {A:PB}
theorem zgm {t:TxD} (h:yR t=0):t.ins.length≤1000∧t.outs.length≤1000∧∀x∈t.ins,x.key.length≤1000:=by
 obtain⟨a,c,d⟩:=xe.1 (jd h).1
 exact⟨by omega,by omega,λx b=>by have:=a x b;omega⟩
theorem PS.small (h:PS w0 w pc pp T X N A):∀e∈A.L,e.tx.ins.length≤1000∧e.tx.outs.length≤1000∧∀x∈e.tx.ins,x.key.length≤1000:=λe a=>zgm (h.facts.2.2.2.1.ent e a).1
theorem PS.txok (h:PS w0 w pc pp T X N A):∀e∈A.L,(∀x∈e.tx.ins,x.from_.ok)∧∀x∈e.tx.outs,x.ok:=λe j=>by
 obtain⟨m,css,v,y,g,n,l,h,rfl⟩:=h
 obtain⟨t,-,q,r,z,B,-,-,d,f⟩:=(h.po.data e j).now
 refine⟨λx k=>?_,f.1⟩
 obtain⟨i,hi⟩:=List.getElem?_of_mem k
 obtain⟨b,off,cap,cs,p,o,s,u,rfl,a,c⟩:=d.at_ hi
 exact a
theorem PS.wok (h:PS w0 w pc pp T X N A):∀e∈A.L,WOk (wgt e):=h.facts.2.2.2.1.wok h.facts.2.2.2.2.2.1 (λe a=>(h.txok e a).2)
theorem zno (h:PS w0 w pc pp T X N A) {e:zL} (b:e∈A.L):
  Calls prog 38 #[.pointer (some ⟨pp,0,none⟩),.agg (zd e.id).toArray] w λa w'=>a=.returned (.tuple #[.int .u64 e.fee,.bool true])∧Fr No w w':=by
 obtain⟨d,css,i,j,g,f,c,h,rfl⟩:=h
 exact znp h.po b
theorem zha (h:PS w0 w pc pp T X N A) {e:zL} (a:e∈A.L):
  Calls prog 28 #[.pointer (some ⟨pp,0,none⟩),.agg (zd e.id).toArray] w λb w'=>∃cs,b=.returned (.tuple #[.agg cs.toArray,.bool true])∧Fr No w w'∧∀V:Nat→Prop,(∀j,V j→j<w.heap.size)→Kept V w' (λw=>TxQ w e.tx cs):=by
 have c:=h.small e a
 obtain⟨f,css,k,l,g,i,d,h,rfl⟩:=h
 exact znt h.po a c
theorem zlC (h:PS w0 w pc pp T X N A) {q:zx} (a:q.ok):Calls prog 31 #[.pointer (some ⟨pp,0,none⟩),.agg (zm q).toArray] w λe w'=>e=.returned (.bool (qN A.L q))∧Fr No w w':=by
 obtain⟨c,css,f,i,g,d,b,h,rfl⟩:=h
 exact zhy h.po a
theorem zmw (h:PS w0 w pc pp T X N A) {q:zx} (a:q.ok):Calls prog 32 #[.pointer (some ⟨pp,0,none⟩),.agg (zm q).toArray] w λe w'=>e=.returned (.tuple #[.agg (zF ((yS A.L q).getD xN)).toArray,.bool (yS A.L q).isSome])∧Fr No w w':=by
 obtain⟨c,css,f,i,g,d,b,h,rfl⟩:=h
 exact zjD h.po a
theorem zaD (h:PS w0 w pc pp T X N A) (b:N≤800) (d:n≤1000):
  Calls prog 21 #[.pointer (some ⟨pp,0,none⟩),.int .i64 n] w (zfT w A.L n):=by
 have e:=h.small
 have f:=h.wok
 have c:=h.facts.2.2.2.1.gok
 have a:=h.facts.2.2.2.2.1
 obtain⟨j,css,l,m,g,k,i,h,rfl⟩:=h
 exact zme h.po b a e f c d
theorem YR (h:PS w0 w pc pp T X N A) {q:zx} (a:q.ok):Calls prog 23 #[.pointer (some ⟨pc,0,none⟩),.agg (zm q).toArray] w λe w'=>e=.returned (.tuple #[.agg (zF (zZ A.S q)).toArray,.bool (yV A.S q)])∧Fr No w w':=by
 obtain⟨c,css,f,i,g,d,b,h,rfl⟩:=h
 exact zdf h.ch.g.cn a
theorem XE (h:PS w0 w pc pp T X N A) (k:N≤800) {now:Nat} (a:now<18446744073709551616):
  Calls prog 33 #[.pointer (some ⟨pp,0,none⟩),.int .u64 now] w λe w'=>∃b,e=.returned b∧w'.ownsRow w.heap.size 45 32 b (Zc A.L now).length ((Zc A.L now).flatMap zd)∧∃i X',xO w0 w w' pc pp T X N {A with L:=J4 A.L now} i X':=by
 have l:=h.small
 obtain⟨n,css,p,q,g,o,m,h,rfl⟩:=h
 refine(zjC h.po k h.val.apart (λe c=>(l e c).1) h.ad a).mono λe w' ⟨b,c,⟨VG',hp,hv⟩,f,hr⟩=>⟨b,c,hr,_,X,zht h f hp (λj d=>?_) (λ_ h=>h) (λ_ h=>.inl h) (λj d=>Nat.lt_of_lt_of_le (h.xl j d) f.size) (h.val.exp now) (le_trans (zda _ _) h.l32) (zkU h.ad now)⟩
 rcases d with e|e|e|e
 ·exact .inl (.inl e)
 ·exact .inl (.inr (.inl e))
 ·exact .inl (.inr (.inr (.inl e)))
 ·exact .inl (.inr (.inr (.inr (hv j e))))
end
section
variable {S S':List zn} {I I':List zf} {L R:List zL}
theorem xy.split (h:xy S I L):∀ {A:List zL} {e:zL} {C:List zL},L=A++e::C→xy S I A∧yR e.tx=0∧xX S I A e.tx=0∧e=mkE S A e.tx e.added:=by
 induction h with
 |nil=>intro A e C c;simp at c
 |@snoc B x hB hc hl c ih=>
  intro A e C d
  rcases List.append_eq_append_iff.1 d with⟨k,b,a⟩|⟨k,b,a⟩
  ·rcases k with _|⟨y,k⟩
   ·simp only[nil_append,List.append_nil] at b a
    injection a with h3 h4
    subst h3
    rw[b]
    exact⟨hB,hc,hl,c⟩
   ·simp at a
  ·rcases k with _|⟨y,k⟩
   ·simp only[List.append_nil,nil_append] at b a
    injection a with h3 h4
    subst h3
    rw[←b]
    exact⟨hB,hc,hl,c⟩
   ·rw[List.cons_append] at a
    injection a with h3 h4
    subst h3
    exact ih b
def qW (L:List zL):List (zf×TxD):=L.map λe=>(e.id,e.tx)
theorem zbP (A:List zL) (e:zL):qW (A++[e])=qW A++[(e.id,e.tx)]:=by simp[qW]
theorem zaF {A B:List zL} (h:qW A=qW B):zR A=zR B:=by
 have:=congrArg (List.map Prod.fst) h
 simpa[qW,zR,Function.comp_def] using this
theorem zc0 {A B:List zL} (h:qW A=qW B):A.length=B.length:=by
 have:=congrArg List.length h
 simpa[qW] using this
theorem zcZ:∀ {A B:List zL},qW A=qW B→∀x,(YV A x).map (·.tx)=(YV B x).map (·.tx)
 |[],[],_,x=>rfl
 |[],b::B,h,_=>by simp[qW] at h
 |a::A,[],h,_=>by simp[qW] at h
 |a::A,b::B,h,x=>by
  simp only[qW,List.map_cons,List.cons.injEq,Prod.mk.injEq] at h
  obtain⟨⟨c,d⟩,e⟩:=h
  have ih:=zcZ (A:=A) (B:=B) e x
  unfold YV at*
  by_cases hx:a.id=x
  ·rw[List.find?_cons_of_pos (by simpa using hx),List.find?_cons_of_pos (by simpa using(c▸hx))]
   simp[d]
  ·rw[List.find?_cons_of_neg (by simpa using hx),List.find?_cons_of_neg (by simpa using(c▸hx))]
   exact ih
theorem zbO {A B:List zL} (h:qW A=qW B) (q:zx):yS A q=yS B q:=by
 have:=zcZ h q.tx
 unfold yS
 cases h1:YV A q.tx<;>cases h2:YV B q.tx<;>rw[h1,h2] at this<;>simp_all
theorem zf0 {A B:List zL} (h:qW A=qW B) (q:zx):xF S A q=xF S B q:=by
 unfold xF
 rw[zbO h]
theorem zeH {A B:List zL} (h:qW A=qW B) {q:zx} (g:qN A q=true):qN B q=true:=by
 obtain⟨e,d,f⟩:=vk.1 g
 have:(e.id,e.tx)∈qW B:=by rw[←h];exact mem_map.2 ⟨e,d,rfl⟩
 obtain⟨b,c,a⟩:=mem_map.1 this
 injection a with h3 h4
 exact vk.2 ⟨b,c,by rw[h4];exact f⟩
theorem xq (A B:List zL):zR (A++B)=zR A++zR B:=by simp[zR]
def zcT (R L:List zL):Prop:=∀x y,Anc (gOf R) x y→Anc (gOf L) x y
theorem zcT.nil (L:List zL):zcT [] L:=λx y h=>by
 have:x∈ids (gOf []):=h.left
 simp[gOf,ids] at this
theorem zdQ (c:GOk (gOf L)) {A C:List zL} {e:zL} (d:L=A++e::C) {p:zf} (f:p∈e.ps):Anc (gOf L) e.id p:=by
 have b:(⟨e.id,e.ps⟩:yL)∈gOf L:=mem_map.2 ⟨e,by rw[d];simp,rfl⟩
 have a:p∈par (gOf L) e.id:=by
  have:=vC c b
  rw[this]
  exact f
 exact .step (jh.2 ⟨_,b,rfl⟩) a (.refl (Xc c a))
theorem zli (W:xy S I L) (hR:xy S' I' R) {k A C:List zL} {e:zL} (F:qW R=qW k) (i:zcT R L) (U:∀a∈k,a∈L) (hl:R.length<32)
  (t:L=A++e::C) (hi:e.id∉I') (hn:e.id∉zR k) (hq:∀q∈z6 e.tx,xF S' k q=xF S A q∧((yS k q).isSome=true→(yS A q).isSome=true)) (now:Int):
  jj S' I' R e.tx=0∧jo S' I' R e.tx=[]∧qM S' I' R e.tx now=R++[mkE S' R e.tx now]∧qW (R++[mkE S' R e.tx now])=qW (k++[e])∧zcT (R++[mkE S' R e.tx now]) L:=by
 obtain⟨hA,hc,h0,he⟩:=W.split t
 obtain⟨r,e2,e3,e4⟩:=Y8 he
 obtain⟨l1,l2,l3,l4,l5,l6⟩:=XK h0
 obtain⟨l7,l8⟩:=zbd.1 l3
 have K:e∈L:=by rw[t];simp
 have Q:zR R=zR k:=zaF F
 have f:∀q∈z6 e.tx,xF S' R q=xF S A q:=λq h=>by rw[zf0 F];exact(hq q h).1
 have g:xj S' R e.tx=xj S A e.tx:=List.map_congr_left λq h=>by rw[f q h]
 have j:∀p∈xz R e.tx,p∈xz A e.tx:=λp m=>by
  obtain⟨q,b,s,h3⟩:=XM.1 m
  rw[zbO F] at s
  exact XM.2 ⟨q,b,(hq q b).2 s,h3⟩
 have G:GOk (gOf A):=hA.gok
 have H:GOk (gOf L):=W.gok
 have l:∀y,y∈upS (gOf R) (xz R e.tx)→y∈upS (gOf A) (xz A e.tx):=λy hy=>by
  obtain⟨p,m,hr⟩:=Y7.1 hy
  have n:=j p m
  have b:Anc (gOf L) p y:=i p y hr
  obtain⟨x,hx,ah⟩:=mem_map.1 (Jg n)
  obtain⟨A1,A2,v⟩:=List.append_of_mem hx
  have ag:gOf L=gOf A1++⟨x.id,x.ps⟩::gOf (A2++e::C):=by
   rw[t,v]
   simp[gOf]
  have V:∀z w,Anc (gOf L) z w→z∈zR A→Anc (gOf A) z w:=by
   intro z w h
   induction h with
   |refl _=>exact λhz=>.refl (by rw[yO];exact hz)
   |@step z u w hz hu hr ih=>
    intro P
    obtain⟨a,B,aa⟩:=mem_map.1 P
    have Y:(⟨a.id,a.ps⟩:yL)∈gOf A:=mem_map.2 ⟨a,B,rfl⟩
    have Z:(⟨a.id,a.ps⟩:yL)∈gOf L:=mem_map.2 ⟨a,by rw[t];simp[B],rfl⟩
    have p1:=vC G Y
    have T:=vC H Z
    simp only at p1 T
    rw[aa] at p1 T
    rw[T] at hu
    have N:u∈par (gOf A) z:=by rw[p1];exact hu
    have af:u∈zR A:=by rw[←yO];exact Xc G N
    exact .step (by rw[yO];exact P) N (ih af)
  exact Y7.2 ⟨p,n,V p y b (Jg n)⟩
 have ab:xX S' I' R e.tx=0:=by
  refine V6 (by rw[Q,←r];exact hn) (by rw[←r];exact hi) (zbd.2 ⟨λq h=>?_,λq h=>by rw[f q h];exact l8 q h⟩) (by rw[g];exact l4) (by rw[g];exact l5) ?_
  ·cases hsp:qN R q with
   |false=>rfl
   |true=>
    exfalso
    obtain⟨a,B,M⟩:=vk.1 (zeH F hsp)
    have ad:a≠e:=λc=>hn (by rw[←c];exact mem_map.2 ⟨a,B,rfl⟩)
    have E:=W.apart
    have D:=U a B
    rw[t] at D E
    obtain⟨-,T,p3⟩:=List.pairwise_append.1 E
    rcases mem_append.1 D with b|b
    ·exact p3 a b e (by simp) q M h
    ·rcases mem_cons.1 b with b|b
     ·exact ad b
     ·exact(List.pairwise_cons.1 T).1 a b q h M
  ·have:=xB (hR.gok.nd.sublist (qk (xz R e.tx))) l
   omega
 have d:=Vy (S:=S') (I:=I') (L:=R) (e:=mkE S' R e.tx now) hl hc ab rfl
 have X:qM S' I' R e.tx now=R++[mkE S' R e.tx now]:=d.2.2
 refine⟨d.1,d.2.1,X,by rw[zbP,zbP,F,r];rfl,?_⟩
 have hg:gOf (R++[mkE S' R e.tx now])=ZV (gOf R) (idH e.tx) (xz R e.tx):=by rw[VT];rfl
 intro x y O
 rw[hg] at O
 rcases(zkF hR.gok (by rw[yO,Q,←r];exact hn) (λp m=>by rw[yO];exact Jg m)).1 O with b|⟨b,s⟩
 ·exact i x y b
 ·have o:Anc (gOf L) e.id e.id:=.refl (by rw[yO];exact mem_map.2 ⟨e,K,rfl⟩)
  rw[←r] at b
  rcases s with s|⟨p,m,ae⟩
  ·rw[b,s,←r];exact o
  ·rw[b]
   exact(zdQ H t (by rw[e2];exact qS.2 (j p m))).trans (i p y ae)
end
def Yv:zf:=qE []
def exA:TxD:=⟨0,[⟨⟨yT,0⟩,[]⟩],[⟨400,Yv⟩]⟩
def exB:TxD:=⟨1,[⟨⟨yT,0⟩,[]⟩],[⟨400,yT⟩]⟩
def exD:TxD:=⟨0,[⟨⟨idH exA,0⟩,[]⟩],[⟨300,yT⟩]⟩
def exS:List zn:=jQ [] (Zn yT [⟨500,Yv⟩])
def eA:zL:=mkE exS [] exA 5
def eD:zL:=mkE exS [eA] exD 6
set_option maxRecDepth 100000
theorem zni:yR exA=0:=by decide+kernel
theorem znM:yR exB=0:=by decide+kernel
theorem znj:yR exD=0:=by decide+kernel
theorem znN:idE exA=0:=by decide+kernel
theorem zmu:Jy exS [] exA=0∧Jc exA (xj exS [] exA)=0∧Jq (vF exA)≤Jp exA (xj exS [] exA):=by decide+kernel
theorem znn:idH exB∉zR [eA]∧Jy exS [eA] exB=14:=by decide+kernel
theorem zkT:idH exD∉zR [eA]∧Jy exS [eA] exD=0∧Jc exD (xj exS [eA] exD)=0∧Jq (vF exD)≤Jp exD (xj exS [eA] exD):=by decide+kernel
theorem znO:eD.ps=[idH exA]:=by decide+kernel
theorem zfN {L:List zL} (l:List zf) (h:L.length<6):(upS (gOf L) l).length<6:=by
 have:=(qk (G:=gOf L) l).length_le
 rw[yO,xd] at this
 omega
theorem znk:xX exS [] [] exA=0:=V6 (by simp[zR]) (by simp) zmu.1 zmu.2.1 zmu.2.2 (zfN _ (by decide))
theorem znl:xX exS [] [eA] exD=0:=V6 zkT.1 (by simp) zkT.2.1 zkT.2.2.1 zkT.2.2.2 (zfN _ (by decide))
theorem zmt:jj exS [] [] exA=0∧jo exS [] [] exA=[]∧qM exS [] [] exA 5=[eA]:=Vy (L:=[]) (e:=eA) (by decide) zni znk rfl
theorem zng:jj exS [] [eA] exB=14∧qM exS [] [eA] exB 5=[eA]:=by
 have b:xX exS [] [eA] exB=14:=by
  unfold xX
  rw[if_neg znn.1,if_neg (by simp),znn.2]
  rfl
 have a:jj exS [] [eA] exB=14:=by
  unfold jj
  rw[if_neg (by rw[znM];decide),b]
  rfl
 refine⟨a,?_⟩
 unfold qM
 rw[if_neg (by rw[a];decide)]
theorem znh:jj exS [] [eA] exD=0∧qM exS [] [eA] exD 6=[eA,eD]:=by
 have:=Vy (S:=exS) (I:=[]) (L:=[eA]) (e:=eD) (by decide) znj znl rfl
 exact⟨this.1,this.2.2⟩
theorem znP:xy exS [] [eA,eD]:=.snoc (A:=[eA]) (.snoc (A:=[]) .nil zni znk rfl) znj znl rfl
theorem znm:zd8 [eA,eD] 7205=[idH exA]:=rfl
theorem exG:Zc [eA,eD] 7205=zR [eA,eD]:=by
 have b:=znP.gok
 unfold Zc
 rw[znm]
 unfold y9
 rw[yO,List.filter_eq_self]
 intro x a
 simp only[decide_eq_true_eq]
 refine⟨idH exA,by simp,?_⟩
 rcases mem_cons.1 a with rfl|a
 ·exact .refl (by rw[yO];simp[zR])
 ·obtain rfl:=List.mem_singleton.1 a
  exact zdQ b (A:=[eA]) (C:=[]) rfl (by rw[znO];simp)
theorem exX:J4 [eA,eD] 7205=[]:=by
 unfold J4
 rw[exG]
 unfold xb
 rw[List.filter_eq_nil_iff]
 intro e a
 simp only[decide_eq_true_eq,Decidable.not_not]
 exact mem_map.2 ⟨e,a,rfl⟩
theorem za4 {P:Program} {t:TypeId} {b:List (Nat×Nat)} {vs:List (Nat×Value)} {z:Value} (h:qP P t=some (n,b)) (a:(P.info? t).bind (·.zero)=some z) (c:Zx (b.toArray[·]?) 0 vs) (e:(qC vs).length≤z.cells.size):P.built t vs=some (qC vs++z.cells.toList.drop (qC vs).length).toArray:=by
 unfold qP at h
 unfold Program.built
 cases hi:P.info? t with
 |none=>simp[hi] at h
 |some it=>
  cases hu:P.underlying t with
  |none=>simp[hi,hu] at h
  |some d=>
   cases d<;>try(simp[hi,hu] at h;done)
   rename_i fs
   rw[hi] at a
   simp only[Option.bind_some] at a
   cases hp:fs.toList.mapM (λf=>(P.info? f.type).map λi=>(f.offset,i.size)) with
   |none=>simp[hi,hu,a,hp] at h
   |some places=>
    simp[hi,hu,a,hp] at h
    obtain⟨rfl,rfl⟩:=h
    simp only[a,hp]
    have:=VP (places.toArray[·]?) vs [] z.cells.toList c (by rw[Array.length_toList];exact e)
    simp only[nil_append,Array.toArray_toList] at this
    rw[this]
theorem zjc (w:World):(Instr.build 112 #[]).run prog w=.ok (.agg (inC vi (.slice none 0 0)).toArray) w:=by kernel_rfl
theorem zkJ (w:World):(Instr.build 58 #[(0,.int .u64 400)]).run prog w=.ok (.agg (zF ⟨400,yT⟩).toArray) w:=by kernel_rfl
theorem zkI (w:World):(Instr.build 58 #[(0,.int .u64 300)]).run prog w=.ok (.agg (zF ⟨300,yT⟩).toArray) w:=by kernel_rfl
theorem zje (a b:Option Addr) (n c m d:Nat) (w:World):(Instr.build 27 #[(1,.slice a n c),(2,.slice b m d)]).run prog w=.ok (.agg [.int .u32 0,.slice a n c,.slice b m d].toArray) w:=by kernel_rfl
theorem zmg (a b:Option Addr) (n c m d:Nat) (w:World):(Instr.build 27 #[(0,.int .u32 1),(1,.slice a n c),(2,.slice b m d)]).run prog w=.ok (.agg [.int .u32 1,.slice a n c,.slice b m d].toArray) w:=by kernel_rfl
theorem ziA:qP prog 56=some (33,[(0,32),(32,1)]):=by kernel_rfl
theorem zlQ:(prog.info? 56).bind (·.zero)=some (.agg (zm vi).toArray):=by kernel_rfl
theorem zjk {x:zf} (h:zV x):prog.built 56 [(0,.agg (zd x).toArray)]=some (zm ⟨x,0⟩).toArray:=by
 have a:(Value.agg (zd x).toArray).cells.size=32:=by show(zd x).toArray.size=32;simpa using zu h
 have e:qC [(0,.agg (zd x).toArray)]=zd x:=by simp[qC,Value.cells]
 have:=za4 (P:=prog) (t:=56) (vs:=[(0,.agg (zd x).toArray)]) ziA zlQ ⟨by rw[a];rfl,trivial⟩ (by rw[e,zu h];decide)
 rw[this,e,zu h]
 rfl
theorem ziz:qP prog 112=some (34,[(0,33),(33,1)]):=by kernel_rfl
theorem zlO:(prog.info? 112).bind (·.zero)=some (.agg (inC vi (.slice none 0 0)).toArray):=by kernel_rfl
theorem zji {q:zx} (h:q.ok):prog.built 112 [(0,.agg (zm q).toArray)]=some (inC q (.slice none 0 0)).toArray:=by
 have a:(Value.agg (zm q).toArray).cells.size=33:=by show(zm q).toArray.size=33;simpa using zW h
 have e:qC [(0,.agg (zm q).toArray)]=zm q:=by simp[qC,Value.cells]
 have:=za4 (P:=prog) (t:=112) (vs:=[(0,.agg (zm q).toArray)]) ziz zlO ⟨by rw[a];rfl,trivial⟩ (by rw[e,zW h];decide)
 rw[this,e,zW h]
 rfl
theorem zdw {o:yC} (h:w.heap[b]? =some (.cells (zF o).toArray 58 (0,0))) (ok:o.ok):xg w (.slice (some ⟨b,0,none⟩) 1 1) [o]:=
 ⟨λx a=>by simp at a;subst a;exact ok,.inl (.inr ⟨b,0,1,rfl,le_refl _,by decide,λj u c=>by
  have:=zv h j u (by simpa using c)
  simpa using this,yr h⟩)⟩
theorem zjB {v:Int} {p:zx} {o:yC} (c:w.heap[a]? =some (.cells (inC p (.slice none 0 0)).toArray 112 (0,0))) (e:w.heap[b]? =some (.cells (zF o).toArray 58 (0,0))) (g:p.ok) (f:o.ok) (h:0≤v∧v≤4294967295):TxQ w ⟨v,[⟨p,[]⟩],[o]⟩ [.int .u32 v,.slice (some ⟨a,0,none⟩) 1 1,.slice (some ⟨b,0,none⟩) 1 1]:=by
 refine⟨some ⟨a,0,none⟩,1,some ⟨b,0,none⟩,1,rfl,h,?_,zdw e f⟩
 refine⟨some ⟨a,0,none⟩,1,rfl,by unfold maxLen;simp,λi d hi=>?_⟩
 cases i with
 |zero=>
  simp at hi
  subst hi
  refine⟨a,0,inC p (.slice none 0 0),rfl,by have:=zv c;simpa using this,none,0,rfl,g,by simp,?_⟩
  exact .inl (.inl ⟨rfl,rfl,rfl⟩)
 |succ i=>simp at hi
theorem zd0 {v:Int} {p:zx} {o:yC} (c:w.heap[a]? =some (.cells (inC p (.slice none 0 0)).toArray 112 (0,0))) (d:w.heap[b]? =some (.cells (zF o).toArray 58 (0,0))) (g:p.ok) (e:o.ok) (h:0≤v∧v≤4294967295) (i:¬X a) (j:¬X b):Kept X w (λw=>TxQ w ⟨v,[⟨p,[]⟩],[o]⟩ [.int .u32 v,.slice (some ⟨a,0,none⟩) 1 1,.slice (some ⟨b,0,none⟩) 1 1]):=
 λ_ f=>zjB (f.obj c i) (f.obj d j) g e h
theorem J7 (w:World) (b a:Obj):((w.alloc b).alloc a).heap[w.heap.size]? =some b∧((w.alloc b).alloc a).heap[w.heap.size+1]? =some a∧Fr No w ((w.alloc b).alloc a)∧((w.alloc b).alloc a).heap.size=w.heap.size+2:=
 ⟨Zm (ye w b) a,yU _ a (by simp),((frN w).alloc b).alloc a,by simp⟩
theorem jH {X:Nat→Prop} {w:World} {a:vm} (k:Kept X w (λw=>vW w a cs)):∃c bcs,cs=Yf a.kind c bcs a.now∧(0≤a.now∧a.now<18446744073709551616)∧c.length=3∧bcs.length=3∧Kept X w (λw=>TxQ w a.tx c)∧Kept X w (λw=>vG w a.blk bcs):=by
 obtain⟨t,b,rfl,n,i,o⟩:=k.now
 have g:∀w',Fr X w w'→TxQ w' a.tx t∧vG w' a.blk b:=λw' f=>by
  obtain⟨q,p,e,-,d,h⟩:=k w' f
  simp only[Yf,List.cons.injEq,true_and] at e
  obtain⟨j,l⟩:=List.append_inj e (by rw[i.len3,d.len3])
  have m:=List.append_cancel_right l
  subst j
  subst m
  exact⟨d,h⟩
 exact⟨t,b,rfl,n,i.len3,o.len3,λw' f=>(g w' f).1,λw' f=>(g w' f).2⟩
theorem Kept.on {X:Nat→Prop} {w w':World} {Q:World→Prop} (k:Kept X w Q) (f:Fr No w w'):Kept X w' Q:=k.step f.of0 (λ_ _ h=>h)
section
variable {w0 wb w w':World} {pc pp N:Nat} {T X X1 T' X':Nat→Prop} {A A':PB} {S1:List zn} {bs1:List yx}
theorem xO.more (n:xO w0 w w' pc pp T X N A' T' X') (h:N≤a):xO w0 w w' pc pp T X a A' T' X':={n with ws:=n.ws.more h}
theorem xO.from_ (n:xO w0 wb w' pc pp T X N A' T' X') (f:Fr No w wb):xO w0 w w' pc pp T X N A' T' X':=
 ⟨n.ws,f.of0.trans n.fr (λ_ _ h=>h),λj a=>(n.tn j a).imp_right (le_trans f.size),λj a=>(n.xn j a).imp_right (le_trans f.size),n.xx⟩
theorem xO.to_ (n:xO w0 w wb pc pp T X N A' T' X') (f:Fr No wb w'):xO w0 w w' pc pp T X N A' T' X':=
 ⟨n.ws.fr0 f,n.fr.trans0 f,n.tn,n.xn,n.xx⟩
theorem PM.fr0 (h:PM w0 wb w pc pp T X N A S1 bs1 X1) (f:Fr No w w'):PM w0 wb w' pc pp T X N A S1 bs1 X1:=by
 obtain⟨b,css,e,i,g,c,a,h⟩:=h
 exact⟨b,css,e,i,g,c,a,
  {h with
   ch:=h.ch.frV f (λ_ _=>id) (λ_ h=>h.elim) (λ_ h=>h.elim) (λ_ _ h=>h)
   po:=h.po.frV f (λ_ _=>id) (λ_ h=>h.elim) (λ_ h=>h.elim) (λ_ _ h=>h) h.po.sub
   xl:=λj d=>Nat.lt_of_lt_of_le (h.xl j d) f.size
   fr:=h.fr.trans (f.of0:Fr T w w') (λ_ _ h=>h)}⟩
theorem zg1 {b:qf} {t:Int} {v:Value} {a:Option Addr} {c:Nat} (h:vG w b [.int .u64 t,v,.slice a b.txs.length c]):j7 w (.slice a b.txs.length c) b.txs:=by
 obtain⟨g,i,j,k,e,_,_,f⟩:=h
 simp only[VD,List.cons.injEq,and_true] at e
 obtain⟨-,-,d⟩:=e
 injection d with e21 _ e23
 subst e21;subst e23
 exact f
end
noncomputable def XU (A:PB) (b:qf) (now:Int):PB:=
 if qs (zS A.bs) A.S A.bs b=0 then {A with S:=(doR (zS A.bs) A.S b).S,bs:=A.bs++[(doR (zS A.bs) A.S b).d],L:=Zo (doR (zS A.bs) A.S b).S (zS (A.bs++[(doR (zS A.bs) A.S b).d])) A.L [] now} else A
noncomputable def za9 (A:PB) (b:qf) (now:Int):List zf:=
 if qs (zS A.bs) A.S A.bs b=0 then XY (doR (zS A.bs) A.S b).S (zS (A.bs++[(doR (zS A.bs) A.S b).d])) A.L [] now else[]
noncomputable def Yo (A:PB) (n:Nat) (tag:Int):qf:=⟨tag,[],(yz A.L n).map (·.tx)⟩
noncomputable def doA (A:PB) (a:vm):PB:=
 if a.kind=0 then {A with L:=qM A.S (zS A.bs) A.L a.tx a.now}
 else if a.kind=1 then {A with L:=J4 A.L a.now}
 else if a.kind=2 then XU A a.blk a.now
 else if a.kind=4 then XU A (Yo A 16 a.now) a.now
 else if a.kind=3 then(match A.bs.getLast? with
  |none=>A
  |some d=>{A with S:=xP d.chg A.S,bs:=A.bs.dropLast,L:=Zo (xP d.chg A.S) (zS A.bs.dropLast) A.L d.blk.txs a.now})
 else A
noncomputable def doE (A:PB) (a:vm):Int:=
 if a.kind=0 then jj A.S (zS A.bs) A.L a.tx
 else if a.kind=1 then 0
 else if a.kind=2 then qs (zS A.bs) A.S A.bs a.blk
 else if a.kind=4 then qs (zS A.bs) A.S A.bs (Yo A 16 a.now)
 else if a.kind=3 then(if A.bs=[] then 9 else 0)
 else 0
noncomputable def doG (A:PB) (a:vm):List zf:=
 if a.kind=0 then jo A.S (zS A.bs) A.L a.tx
 else if a.kind=1 then Zc A.L a.now
 else if a.kind=2 then za9 A a.blk a.now
 else if a.kind=4 then za9 A (Yo A 16 a.now) a.now
 else if a.kind=3 then(match A.bs.getLast? with
  |none=>[]
  |some d=>XY (xP d.chg A.S) (zS A.bs.dropLast) A.L d.blk.txs a.now)
 else[]
def za1 (w0 w:World) (pc pp:Nat) (T X:Nat→Prop) (N:Nat) (E:Int) (G:List zf) (A':PB) (e:Ending) (w':World):Prop:=
 ∃gv,e=.returned (.tuple #[gv,.int .i64 E])∧w'.ownsRow w.heap.size 45 32 gv G.length (G.flatMap zd)∧∃T' X',xO w0 w w' pc pp T X (N+1) A' T' X'
section
variable {w0 w:World} {pc pp N:Nat} {T X:Nat→Prop} {A:PB}
theorem znG (r:vp w0) (h:PS w0 w pc pp T X N A) (P:N≤800) {a:vm} (p:Kept X w (λw=>vW w a cs)) (s:a.kind=0):
  Calls prog 35 #[.agg (xM pc pp).toArray,.agg cs.toArray] w (za1 w0 w pc pp T X N (jj A.S (zS A.bs) A.L a.tx) (jo A.S (zS A.bs) A.L a.tx) {A with L:=qM A.S (zS A.bs) A.L a.tx a.now}):=by
 obtain⟨m,o,i,v⟩:=J7 w (.cells (xM pc pp).toArray 34) (.cells cs.toArray 91)
 obtain⟨R,bcs,g,b,c,f,kt,Q⟩:=jH p
 obtain⟨now,hnw⟩:∃now:Nat,a.now=now:=Int.eq_ofNat_of_zero_le b.1
 have k:=@Hd (now<18446744073709551616) (by omega)
 have n:=Hd (h.fr0 i)
 have C:=Hd (kt.on i)
 obtain⟨M,d,l,O⟩:=J0 (q:=w.heap.size+1) (by rw[←g];exact zv o) c f
 rw[hnw] at O
 have F:=Hd d
 have U:((w.alloc (.cells (xM pc pp).toArray 34)).alloc (.cells cs.toArray 91)).cell? ⟨w.heap.size,0,none⟩=some (.pointer (some ⟨pc,0,none⟩)):=by simpa using zv m 0 _ rfl
 have V:((w.alloc (.cells (xM pc pp).toArray 34)).alloc (.cells cs.toArray 91)).cell? ⟨w.heap.size,1,none⟩=some (.pointer (some ⟨pp,0,none⟩)):=by simpa using zv m 1 _ rfl
 have x:=Hd i
 have K:=Hd v
 have H:=Hd c
 have j:=Hd hnw
 have y:=Hd (r.keep0 n.o.facts.2.2.1)
 clear h r p g b c f kt Q m o i v d l hnw
 rw[s] at M
 rw[j.o]
 clear s
 go_enter Tryz.func35,Tryz.ntmps35
 have⟨z,B⟩:=tZ2
 go_wp2_with ((first|((with_reducible refine zt ?_);clear z;refine znT rfl rfl rfl F.o H.o ?_)|(clear B;go_at_call 17;refine(ZB y.o n.o P C.o k.o).mono ?_;rintro e W ⟨S,rfl,t,G,I,u⟩;have D:=Hd u;have E:=Hd t;clear u t));go_frame)
 go_ret2
 exact⟨_,rfl,yu E.o (by have:=K.o;omega),G,I,D.o.from_ x.o⟩
theorem do_1 (H:vp w0) (h:PS w0 w pc pp T X N A) (G:N≤800) {a:vm} (o:Kept X w (λw=>vW w a cs)) (p:a.kind=1):
  Calls prog 35 #[.agg (xM pc pp).toArray,.agg cs.toArray] w (za1 w0 w pc pp T X N 0 (Zc A.L a.now) {A with L:=J4 A.L a.now}):=by
 obtain⟨l,n,m,t⟩:=J7 w (.cells (xM pc pp).toArray 34) (.cells cs.toArray 91)
 obtain⟨K,bcs,d,b,f,c,kt,I⟩:=jH o
 obtain⟨now,hnw⟩:∃now:Nat,a.now=now:=Int.eq_ofNat_of_zero_le b.1
 have i:=@Hd (now<18446744073709551616) (by omega)
 have z:=Hd (h.fr0 m)
 obtain⟨E,k,j,F⟩:=J0 (q:=w.heap.size+1) (by rw[←d];exact zv n) f c
 rw[hnw] at F
 have O:((w.alloc (.cells (xM pc pp).toArray 34)).alloc (.cells cs.toArray 91)).cell? ⟨w.heap.size,0,none⟩=some (.pointer (some ⟨pc,0,none⟩)):=by simpa using zv l 0 _ rfl
 have P:((w.alloc (.cells (xM pc pp).toArray 34)).alloc (.cells cs.toArray 91)).cell? ⟨w.heap.size,1,none⟩=some (.pointer (some ⟨pp,0,none⟩)):=by simpa using zv l 1 _ rfl
 have u:=Hd m
 have D:=Hd t
 have g:=Hd hnw
 clear h H o d b f c kt I l n m t k j hnw
 rw[p] at E
 rw[g.o]
 clear p
 go_enter Tryz.func35,Tryz.ntmps35
 have v:=tru
 go_wp2_with (clear v;go_at_call 33;refine(XE z.o G i.o).mono ?_;rintro e Q ⟨M,rfl,r,B,C,s⟩;have x:=Hd s;have y:=Hd r;clear s r;go_frame)
 go_ret2
 exact⟨_,rfl,yu y.o (by have:=D.o;omega),B,C,(x.o.from_ u.o).more (Nat.le_succ _)⟩
theorem znL (r:vp w0) (h:PS w0 w pc pp T X N A) {a:vm} (m:Kept X w (λw=>vW w a cs)) (s:a.kind≠0) (t:a.kind≠1) (u:a.kind≠2) (v:a.kind≠3) (x:a.kind≠4):
  Calls prog 35 #[.agg (xM pc pp).toArray,.agg cs.toArray] w (za1 w0 w pc pp T X N 0 [] A):=by
 obtain⟨i,j,l,B⟩:=J7 w (.cells (xM pc pp).toArray 34) (.cells cs.toArray 91)
 obtain⟨z,bcs,d,b,e,c,kt,y⟩:=jH m
 obtain⟨now,hnw⟩:∃now:Nat,a.now=now:=Int.eq_ofNat_of_zero_le b.1
 obtain⟨C,g,f,p⟩:=J0 (q:=w.heap.size+1) (by rw[←d];exact zv j) e c
 rw[hnw] at p
 have I:((w.alloc (.cells (xM pc pp).toArray 34)).alloc (.cells cs.toArray 91)).cell? ⟨w.heap.size,0,none⟩=some (.pointer (some ⟨pc,0,none⟩)):=by simpa using zv i 0 _ rfl
 have K:((w.alloc (.cells (xM pc pp).toArray 34)).alloc (.cells cs.toArray 91)).cell? ⟨w.heap.size,1,none⟩=some (.pointer (some ⟨pp,0,none⟩)):=by simpa using zv i 1 _ rfl
 have n:=Hd l
 have o:=Hd h
 clear h r m d b e c kt y i j l B g f hnw
 generalize a.kind=k at*
 have D:(k==0)=false:=by simp;exact s
 have E:(k==1)=false:=by simp;exact t
 have F:(k==2)=false:=by simp;exact u
 have G:(k==3)=false:=by simp;exact v
 have H:(k==4)=false:=by simp;exact x
 go_enter Tryz.func35,Tryz.ntmps35
 go_wp2_with fail
 go_ret2
 exact⟨_,rfl,World.ownsRow_nil _ _ _ _,T,X,(o.o.idle n.o).more (Nat.le_succ _)⟩
end
end Go.Proofs.YtbcllfjmabiafaaGreatDoor
