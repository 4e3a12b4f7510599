/- StemSeen: the walk. -/
import Derived.Test.YtdkkjchclkjleaaGreatDoorSB12
import Derived.Test.YtdkkjchclkjleaaGreatDoorSB11
set_option linter.unusedVariables false
set_option linter.unusedSimpArgs false
set_option linter.unnecessarySimpa false
set_option linter.all false
set_option maxRecDepth 20000
set_option maxHeartbeats 16000000
namespace Go.Proofs.YtdkkjchclkjleaaGreatDoor
open Go Go.RowKit Go.Maps Go.MapKept
open Go.Proofs.Tryz(prog)
open Nat(le_refl zero_le)
open List(mem_of_getElem?)
section
variable {w0 w w':World} {c7 pc pp ps N N' c5:Nat} {T X T' X':Nat→Prop} {A A':WA} {x y:zd}
structure FlI (w0 w:World) (c7 pc pp ps:Nat) (T X:Nat→Prop) (N:Nat) (A:WA) (c5:Nat) (x:zd):Prop where
 fl:FlA w0 w c7 pc pp ps T X N A
 t5:¬T c5
 x5:X c5
 n7:c7≠c5
 ob:w.heap[c5]? =some (.cells (zf x).toArray 41 (0,0))
 ok:zW x
theorem FlI.fr0 (h:FlI w0 w c7 pc pp ps T X N A c5 x) (f:Fr No w w'):FlI w0 w' c7 pc pp ps T X N A c5 x:={h with fl:=h.fl.fr0 f,ob:=f.obj h.ob id}
theorem FlI.next (h:FlI w0 w c7 pc pp ps T X N A c5 x) (n:xL w0 w w' pc pp ps T X N' A' T' X'):FlI w0 w' c7 pc pp ps T' X' N' A' c5 x:=
 {h with fl:=h.fl.next n,t5:=n.out h.t5 (yr h.ob),x5:=n.xx _ h.x5,ob:=n.fr.obj h.ob h.t5}
theorem FlI.put (h:FlI w0 w c7 pc pp ps T X N A c5 x) (b:zW y):FlI w0 (w.setCells c5 0 (zf y)) c7 pc pp ps T X N A c5 y:=by
 have f:=zv c5 (zf y) 0 w
 exact⟨⟨h.fl.1.frV f (λj a e=>h.t5 (by rw[←e];exact a)) (λj e=>by rw[e];exact h.fl.2.1 c5 h.x5) (λj e=>by rw[e];exact h.x5) (λ_ _ e=>e) (λj a=>(h.fl.1.facts.1 j a).2.2) (λj a=>Nat.lt_of_lt_of_le (h.fl.1.facts.2.1 j a) f.size),h.fl.2.1,h.fl.2.2.1,f.obj h.fl.2.2.2 h.n7⟩,h.t5,h.x5,h.n7,ZP h.ob (by rw[zu h.ok,zu b]),b⟩
theorem FlI.range (h:FlI w0 w c7 pc pp ps T X N A c5 x):w.rangeAt c5 0 (zf x):=zq h.ob
end
theorem zlR (w:World):(zeroValue 63).run prog w=.ok (.agg (Vv RZ0).toArray) w:=by kernel_rfl
def Zc (Q:StQ) (x:zd) (i m:Nat):List Nat:=xT Q x i++if x∈yv ((Q i).take m) then[i] else[]
def j9 (Q:StQ) (x:zd) (i m:Nat):Nat→List zd:=λj=>if j<i then yv (J4 (Q j) x) else if j=i then yv (J4 ((Q i).take m) x) else[]
theorem zcg (Q:StQ) (x:zd) (i:Nat):Zc Q x i 0=xT Q x i:=by simp[Zc,yv]
theorem zdf (Q:StQ) (x:zd) (i:Nat) {m:Nat} (h:(Q i).length≤m):Zc Q x i m=xT Q x (i+1):=by
 unfold Zc
 rw[List.take_of_length_le h]
 by_cases hx:x∈yv (Q i)
 ·rw[if_pos hx,zc5 hx]
 ·rw[if_neg hx,zff hx,List.append_nil]
theorem X9 {l:List StE} {m:Nat} {e:StE} (h:l[m]? =some e):yv (l.take (m+1))=yv (l.take m)++[e.id]:=by
 unfold yv
 rw[List.take_add_one,h,List.map_append]
 rfl
theorem zjJ {l:List StE} (d:(yv l).Nodup) {m:Nat} {e:StE} (h:l[m]? =some e):e.id∉yv (l.take m):=λc=>by
 have b:=d.sublist ((List.take_sublist (m+1) l).map _)
 have a:(yv (l.take (m+1))).Nodup:=b
 rw[X9 h,List.nodup_append] at a
 exact a.2.2 _ c _ (List.mem_singleton.2 rfl) rfl
theorem ziD {Q:StQ} {x:zd} {i m:Nat} (c:(yv (Q i)).Nodup) {e:StE} (h:(Q i)[m]? =some e) (b:e.id=x):Zc Q x i (m+1)=Zc Q x i m++[i]:=by
 unfold Zc
 have a:=zjJ c h
 rw[b] at a
 rw[X9 h,if_neg a,if_pos (by rw[b];simp),List.append_nil]
theorem zku {Q:StQ} {x:zd} {i m:Nat} {e:StE} (h:(Q i)[m]? =some e) (a:e.id≠x):Zc Q x i (m+1)=Zc Q x i m:=by
 unfold Zc
 rw[X9 h]
 congr 1
 by_cases hm:x∈yv ((Q i).take m)
 ·rw[if_pos hm,if_pos (List.mem_append_left _ hm)]
 ·rw[if_neg hm,if_neg]
  intro c
  rcases List.mem_append.1 c with c|c
  ·exact hm c
  ·exact a (List.mem_singleton.1 c).symm
theorem zcC {l:List StE} {x:zd} {m:Nat} {e:StE} (h:l[m]? =some e):yv (J4 (l.take (m+1)) x)=yv (J4 (l.take m) x)++if e.id=x then[] else[e.id]:=by
 rw[Yj,Yj,X9 h,List.filter_append]
 by_cases hx:e.id=x
 ·rw[if_pos hx];simp[hx]
 ·rw[if_neg hx];simp[hx]
theorem zjZ {Q:StQ} {x:zd} {i m:Nat} {e:StE} (h:(Q i)[m]? =some e) (a:e.id=x):j9 Q x i (m+1)=j9 Q x i m:=by
 funext j
 unfold j9
 rw[zcC h,if_pos a,List.append_nil]
theorem zb2 (Q:StQ) (x:zd) (i m:Nat):j9 Q x i m i=yv (J4 ((Q i).take m) x):=by
 unfold j9
 rw[if_neg (by omega),if_pos rfl]
theorem zie {Q:StQ} {x:zd} {i m:Nat} {e:StE} (h:(Q i)[m]? =some e) (a:e.id≠x):zkr (j9 Q x i m) i (j9 Q x i m i++[e.id])=j9 Q x i (m+1):=by
 funext j
 unfold zkr
 by_cases c:j=i
 ·rw[if_pos c,c,zb2,zb2,zcC h,if_neg a]
 ·rw[if_neg c]
  unfold j9
  rw[if_neg c,if_neg c]
theorem zid (Q:StQ) (x:zd) (i:Nat) {m:Nat} (h:(Q i).length≤m):j9 Q x i m=j9 Q x (i+1) 0:=by
 funext j
 unfold j9
 rw[List.take_of_length_le h]
 by_cases c:j<i
 ·rw[if_pos c,if_pos (by omega)]
 ·rw[if_neg c]
  by_cases c2:j=i
  ·rw[if_pos c2,if_pos (by omega),c2]
  ·rw[if_neg c2,if_neg (by omega)]
   by_cases c3:j=i+1
   ·rw[if_pos c3];rfl
   ·rw[if_neg c3]
theorem zgh (Q:StQ) (x:zd):j9 Q x 0 0=λ_=>[]:=by
 funext j
 unfold j9
 rw[if_neg (by omega)]
 by_cases c:j=0
 ·rw[if_pos c];rfl
 ·rw[if_neg c]
theorem zic (Q:StQ) (x:zd) {j:Nat} (h:j<65):j9 Q x 65 0 j=yv (J4 (Q j) x):=by
 unfold j9
 rw[if_pos h]
theorem zmX (Q:StQ) (x:zd) {i:Nat} (h:i<65):yv (jF (jF Q x 65) x 65 i)=yv (J4 (Q i) x):=by
 unfold jF
 rw[if_pos h,if_pos h,Yj,Yj,List.filter_filter]
 congr 1
 funext y
 simp
theorem zmY (Q:StQ) (x:zd):xT (jF Q x 65) x 65=[]:=by
 unfold xT
 rw[List.filter_eq_nil_iff]
 intro i hi
 have:jF Q x 65 i=J4 (Q i) x:=if_pos (List.mem_range.1 hi)
 rw[this,Yj]
 simp
theorem zka {w:World} (hg:qR w) {v1 v2:Value} {first:List yI} {l:List vI} {x0:zd} (aX:zW x0) (hl:xj w v1 first) (hx:Yf w v2 l):
  Calls prog 4 #[v1,v2,.agg (zf x0).toArray] w λe w'=>e=.returned (.bool true)∧Fr No w w':=by
 obtain⟨dH,uH,rH⟩:=JP
 obtain⟨dA,uA,rA⟩:=zcE
 obtain⟨dW,uW,rW⟩:=zhB
 have zh:=yP
 have zw:=zdi
 have zA:=zdh
 obtain⟨fa,fc,rfl⟩:=hl.2.form
 obtain⟨la,lc,rfl⟩:=hx.form
 have HG:=J hg
 have HL:=J hl
 have HX:=J hx
 have FB:=J ((frN w).alloc (.cells (zf x0).toArray 41))
 have BO:=J (ye w (.cells (zf x0).toArray 41))
 have bc:=J (zed (hg.keep0 FB.o))
 have bm:=J aX
 clear hg hl hx aX
 go_enter Tryz.func4,Tryz.ntmps4
 have⟨D,U⟩:=tZ2
 go_wp2_with ((first|(clear D;go_at_call 9;generalize aT:w.heap.size=c5 at BO⊢;have C5:=J aT;clear aT;generalize w.alloc (.cells (zf x0).toArray 41)=wa at*;refine bc.o.mono ?_;rintro e w1 ⟨rfl,f1⟩;have F1:=J (FB.o.trans0 f1);have B1:=J (f1.obj BO.o id);clear f1)|(clear U;go_at_call 19;refine(zex w1 (HL.o.keep F1.o) (HX.o.keep0 F1.o)).mono ?_;rintro e w2 ⟨⟨g,rfl,aP,hz⟩,f2⟩;have ba:=J aP;have GZ:=J hz;have F2:=J (F1.o.trans0 f2);have B2:=J (f2.obj B1.o id);clear aP hz f2));go_frame)
 ·go_ret
  exact⟨rfl,F2.o⟩
 have aj:=J (GZ.o (by rcases ba.o with h|h;exact h;exfalso;omega))
 clear GZ
 have bF:=aj.o.2.1
 have⟨D,U⟩:=tZ2
 go_wp2_with ((first|(clear D;go_at_call 10;refine(zfG F2.o (HL.o.keep F2.o) aj.o.1).mono ?_;rintro e w3 ⟨pc,pp,ps,T,rfl,aW,az,f2⟩;have W2:=J (aW (λj=>T j∨j=c5) (λ_ h=>.inl h) (λj hj=>hj.imp_right (λe=>by rw[e];exact yr B2.o)));have aN:=J az;have T5:=@J (¬T c5) (λh=>by have:=az _ h;have:=yr B2.o;omega);have B3:=J (f2.obj B2.o id);clear aW az f2)|((with_reducible refine zx ?_);clear U;refine zi rfl (zj (w:=w3) (ty:=29) (cs:=jf pc pp ps) rfl rfl rfl rfl XT (qX rfl rfl rfl)) ?_;generalize bp:w3.heap.size=c7 at*;have BW:=J (yL w3 (.cells (jf pc pp ps).toArray 29) bp.symm);have FF:=J ((frN w3).alloc (.cells (jf pc pp ps).toArray 29));generalize w3.alloc (.cells (jf pc pp ps).toArray 29)=w4 at*;have aH:=@J (FlI w w4 c7 pc pp ps T (λj=>T j∨j=c5) 52 ⟨ziQ first,ziQ first,[],[],λ_=>[]⟩ c5 x0) (⟨⟨(W2.o.fr0 FF.o).more (by decide),λj hj=>hj.elim (λe=>by have:=aN.o j e;have:=F2.o.size;omega) (λe=>by have:=C5.o;omega),λe=>by have:=(W2.o.facts.1 _ e).2.1;omega,BW.o⟩,T5.o,.inr rfl,by have:=yr B3.o;omega,FF.o.obj B3.o id,bm.o⟩)));go_frame)
 generalize ziQ first=S at*
 clear W2 aN T5 B3 BW FF B2 BO B1
 go_loopw [28] (λM wr=>∃(k:Nat) (T X:Nat→Prop) (A:WA),M=.int .i64 k∧k≤l.length∧FlI w wr c7 pc pp ps T X (52+k) A c5 x0∧A.bs.length≤k∧∀d∈A.bs,d.blk.txs.length≤20) (λM _=>l.length-(intOf M).toNat)
 case atStart=>exact⟨0,_,_,_,rfl,zero_le _,aH.o,le_refl _,λd hd=>by cases hd⟩
 case round=>
  clear aH
  obtain⟨k,T,X,A,rfl,hk,I,aR,aS⟩:=hrel
  have z:=J I
  have an:=J aR
  have ao:=J aS
  clear I aR aS
  by_cases Y:k<l.length
  ·have i1:(k:Int)<(l.length:Int):=by omega
   obtain⟨a,hx⟩:∃a,l[k]? =some a:=⟨_,List.getElem?_eq_getElem Y⟩
   have a6:=J (aj.o.2.2 a (mem_of_getElem? hx))
   obtain⟨bb,off,bB,cs,bx,hr,hq⟩:=HX.o.at_ hx
   cases bx
   have R1:=J (za hr z.o.fl.fr id)
   have CL:=J hq.len
   have C1:=J (zcs hq)
   have QK:=@J (∀w',Fr No w w'→qJ w' a cs) (λw' f=>hq.keep f)
   have FA:=J ((frN wr).alloc (.cells cs.toArray 57))
   have RN:=J (zy wr cs 57)
   have ai:=J (z.o.fr0 FA.o)
   have RW:=J (zq ai.o.fl.2.2.2)
   have aI:=@J (k<60) (by have:=aj.o.2.1;omega)
   clear hx hr hq
   have⟨D,U,K2,K3,K4⟩:=tZ5
   go_wp2_with ((first|((with_reducible refine zt ?_);first|(clear D;refine zg rfl (ya (ty:=57) rfl rfl R1.o uA rA (by rw[CL.o];exact vy)) ?_)|(clear K2;refine zg rfl (ya (ty:=29) (cs:=jf pc pp ps) rfl rfl RW.o uW rW XT) ?_)|(clear K3;refine zg rfl (ya (ty:=57) rfl rfl RN.o uA rA (by rw[CL.o];exact vy)) ?_))|((with_reducible refine zx ?_);clear U;refine zi rfl (zj (w:=wr) (ty:=57) (cs:=cs) rfl rfl rfl (by rw[CL.o];rfl) (by rw[CL.o];exact vy) C1.o) ?_;generalize wr.heap.size=q7 at RN⊢;generalize wr.alloc (.cells cs.toArray 57)=w1 at*)|(clear K4;go_at_call 20;refine(znV HG.o ai.o.fl.1 (by have:=aI.o;omega) (by omega) (by have:=an.o;have:=aI.o;omega) ao.o (ai.o.fl.keptQ QK.o)).mono ?_;rintro e w5 ⟨tv,lv,rfl,T5,X5,n5,-⟩;have a8:=J (ai.o.next n5);clear n5));go_frame)
   go_roundw
   case rel=>exact⟨k+1,_,_,_,by go_num,by omega,a8.o,by have:=(zjf A a).1;have:=an.o;omega,λd hd=>((zjf A a).2 d hd).elim (ao.o d) (λe=>by rw[e];exact a6.o)⟩
   case measure=>simp[intOf];omega
  ·have i1:¬(k:Int)<(l.length:Int):=by omega
   have c2:=z.o.fl.cells.2.2
   generalize 52+k=NN at*
   clear an ao
   have aL:=J (λ(j s:Nat) (h:(jH A.Q)[j]? =some s)=>zkf (mem_of_getElem? h))
   go_upto_if 41 with(go_at_call 21;refine(zc8 z.o.fl.1).mono ?_;rintro e w6 ⟨lv,rfl,r,f6⟩;have C:=J (z.o.fr0 f6);have aM:=J r;obtain⟨sa,sc,bu⟩:=r.slice.arg.form;subst bu;clear r f6 c2)
   generalize bo:jH A.Q=SS at*
   clear bo z
   go_cut [10] from 36 to 53 (λ_ wc=>∃x,FlI w wc c7 pc pp ps T X NN A c5 x)
   case first=>
    by_cases hz:SS.length=0
    ·have j1:¬(0:Int)<(SS.length:Int):=by omega
     go_wp2_with fail
     go_meet
     case rel=>exact⟨x0,C.o⟩
    ·have j1:(0:Int)<(SS.length:Int):=by omega
     have j2:0<SS.length:=by omega
     obtain⟨s,hs⟩:∃s,SS[0]? =some s:=⟨_,List.getElem?_eq_getElem j2⟩
     obtain⟨aZ,a1⟩:=aL.o 0 s hs
     have ro:=aM.o
     rw[List.map_eq_flatMap] at ro
     obtain⟨g2,bz,bw,aU,-⟩:=vU (f:=λi=>[iV i]) (by decide) (λ_ _=>rfl) ro hs
     cases bw
     have cs:w6.cell? ⟨g2,0,none⟩=some (.int .i64 s):=by simpa[iV] using aU 0 _ rfl
     obtain⟨m,hm⟩:∃m,(A.Q s).length=m+1:=⟨(A.Q s).length-1,by have:=List.length_pos_iff.2 a1;omega⟩
     have ak:=J (C.o.fl.1.facts.2.2.2.2.2.2 s)
     have H:=J (C.o.fl.1.ids s)
     have c2:=C.o.fl.cells.2.2
     have Z:=J ((frN w6).drew)
     have bj:=J aZ
     have HM:=J hm
     clear hs ro aU a1 aZ hm hz
     go_wp2_with fail
     refine wrLx [ff,ff,ff,ff,ff,tt,ff] (λW=>W.cell? ⟨c7,2,none⟩=some (.pointer (some ⟨ps,0,none⟩))∧W.cell? ⟨g2,0,none⟩=some (.int .i64 s)) ?_ (λK hK=>?_)
     ·exact⟨Z.o.cell c2 id,Z.o.cell cs id⟩
     repeat((first|(refine zl rfl ?_;constructor;constructor;(focus(rintro w' ⟨s1,s2⟩;go_simp;(try with_reducible rfl);done)))|(refine zm rfl ?_));try simp only[Act.put,pA,pB,pC])
     (refine zJ rfl (λK' hK'=>?_))
     go_simp
     refine(zgG (C.o.fl.fr0 Z.o).1 bj.o).mono ?_
     rintro e w7 ⟨av,rfl,r,f7⟩
     rw[jG,HM.o] at r
     obtain⟨aa,ac,ae⟩:=r.slice.arg.form
     subst ae
     have F7:=J (Z.o.trans0 f7)
     have HO:=J r
     clear r f7
     refine nXt hK' ?_ λhS=>?_
     ·exact⟨F7.o.cell c2 id,F7.o.cell cs id⟩
     try simp only[Act.put,pA,pB,pC]
     repeat((first|(refine zl rfl ?_;constructor;constructor;(focus(rintro w' ⟨s1,s2⟩;go_simp;(try with_reducible rfl);done)))|(refine zm rfl ?_));try simp only[Act.put,pA,pB,pC])
     refine zL (hK.out _ _ ?_)
     have ar:=J (C.o.fr0 F7.o)
     clear C c2 cs
     obtain⟨e,he⟩:∃e,(A.Q s)[m]? =some e:=⟨_,List.getElem?_eq_getElem (by have:=HM.o;omega)⟩
     have L:(yv (A.Q s))[m]? =some e.id:=by unfold yv;rw[List.getElem?_map,he];rfl
     obtain⟨g3,aO,aA,af,-⟩:=vU (f:=zf) (by decide) (λy hy=>zu (H.o y hy)) HO.o L
     cases aA
     have R1:=J af
     have Q:=J (H.o e.id (mem_of_getElem? L))
     have O:=J (zu Q.o)
     have m4:m<4:=by have:=ak.o.len;have:=HM.o;omega
     clear he L af
     have⟨D,U⟩:=tZ2
     go_wp2_with ((first|((with_reducible refine zt ?_);clear D;refine zn2 rfl rfl rfl R1.o O.o ?_)|((with_reducible refine zx ?_);clear U;refine zi rfl (zK (ty:=41) (b:=c5) (off:=0) (cs:=zf e.id) rfl rfl rfl (zV ar.o.ob (by rw[O.o];simp[zu ar.o.ok])) (by rw[O.o];exact yq) zM) ?_));go_frame)
     go_meet
     case rel=>exact⟨e.id,ar.o.put Q.o⟩
   case rest=>
    clear C aM aL
    obtain⟨x,I⟩:=hcut
    have z:=J I
    have XK:=J (zu I.ok)
    have XO:=J I.ok
    clear I
    have zR:=zlR
    have FA:=J ((frN wc).alloc (.cells (Vv RZ0).toArray 63))
    have OB:=J (ye wc (.cells (Vv RZ0).toArray 63))
    have LB:=@J (wc.heap.size<(wc.alloc (.cells (Vv RZ0).toArray 63)).heap.size) (by simp)
    have ad:=@J (ju w (wc.alloc (.cells (Vv RZ0).toArray 63)) c7 pc pp ps T (λj=>X j∨j=wc.heap.size) NN A c5 x (wc.alloc (.cells (Vv RZ0).toArray 63)).heap.size wc.heap.size RZ0 (j9 A.Q x 0 0) (.slice none 0 0) (xT A.Q x 0)) ({fl:=z.o.fl.into FA.o (le_refl _) LB.o,idc:=za z.o.range FA.o id,rows:=⟨OB.o,λi hi=>⟨by rw[zgh];exact World.ownsRow_nil _ _ _ _,λj h=>(by cases h)⟩,λi hi j h=>(by cases h),λi k hi hk bC j h=>(by cases h),.inr rfl,λe=>by have:=(z.o.fl.1.facts.1 _ e).2.1;omega,LB.o⟩,want:=⟨World.ownsRow_nil _ _ _ _,λj h=>(by cases h)⟩,wx:=λj h=>(by cases h),wap:=λi hi j h=>(by cases h),t5:=z.o.t5,b7:=by have:=yr z.o.fl.2.2.2;have:=LB.o;omega,b5:=by have:=yr z.o.ob;have:=LB.o;omega,n7:=by have:=yr z.o.fl.2.2.2;omega,n5:=by have:=yr z.o.ob;omega,l5:=by have:=yr z.o.ob;have:=LB.o;omega,lB:=le_refl _})
    clear FA OB LB z
    have D:=tru
    go_wp2_with ((with_reducible refine zt ?_);clear D;refine zg rfl (yx rfl (zR _)) ?_;generalize wc.heap.size=F at ad⊢;generalize wc.alloc (.cells (Vv RZ0).toArray 63)=w8 at ad⊢;go_frame)
    generalize w8.heap.size=B at ad
    go_loopw [12,54] (λwv M wr=>∃(k:Nat) (X:Nat→Prop) (R:Nat→Value) (va:Option Addr) (G vc:Nat),M=.int .i64 k∧k≤65∧wv=.slice va G vc∧G=(xT A.Q x k).length∧ju w wr c7 pc pp ps T X NN A c5 x B F R (j9 A.Q x k 0) (.slice va G vc) (xT A.Q x k)) (λ_ M _=>65-(intOf M).toNat)
    case atStart=>exact⟨0,_,_,none,0,0,rfl,zero_le _,rfl,rfl,ad.o⟩
    case round=>
     clear ad
     obtain⟨k,X,R,va,G,vc,rfl,hk,rfl,ah,ag⟩:=hrel
     rename World=>wr
     have q:=J ag
     have VN:=J ah
     clear ag ah
     by_cases Y:k<65
     ·have i2:(k:Int)<65:=by omega
      have c:=J Y
      have ak:=J (q.o.fl.1.facts.2.2.2.2.2.2 k)
      have H:=J (q.o.fl.1.ids k)
      have c2:=q.o.fl.cells.2.2
      have l4:=ak.o.len
      have D:=tru
      go_wp2_with (clear D;go_at_call 13;refine(zgG q.o.fl.1 c.o).mono ?_;rintro e w7 ⟨av,rfl,r,f7⟩;rw[jG] at r;have E:=J (q.o.fr0 f7);have al:=J (Y3.new q.o.fl.1 r (le_refl _));have aK:=J (q.o.sepNew r);obtain⟨aa,ac,ae⟩:=r.slice.arg.form;subst ae;clear r f7 c2;go_frame)
      have aF:=@J (Y3 T w7 0 41 32 (.slice aa (A.Q k).length ac) (A.Q k).length ((yv (A.Q k)).flatMap zf)) (⟨yZ al.o.1 (zero_le _),al.o.2⟩)
      clear al q
      go_loopw [12,62] (λwv M wr=>∃(m:Nat) (X:Nat→Prop) (R:Nat→Value) (va:Option Addr) (G vc:Nat),M=.int .i64 m∧m≤(A.Q k).length∧wv=.slice va G vc∧G=(Zc A.Q x k m).length∧ju w wr c7 pc pp ps T X NN A c5 x B F R (j9 A.Q x k m) (.slice va G vc) (Zc A.Q x k m)∧Y3 T wr 0 41 32 (.slice aa (A.Q k).length ac) (A.Q k).length ((yv (A.Q k)).flatMap zf)∧Sep wr F R (.slice va G vc) (.slice aa (A.Q k).length ac)) (λ_ M _=>(A.Q k).length-(intOf M).toNat)
      case atStart=>exact⟨0,_,_,va,G,vc,rfl,zero_le _,rfl,by rw[zcg];exact VN.o,by rw[zcg];exact E.o,aF.o,aK.o⟩
      case round=>
       clear E aF aK VN
       obtain⟨m,X,R,va,G,vc,rfl,hm,rfl,ah,ag,aQ,aV⟩:=hrel
       rename World=>wr
       have q:=J ag
       have VN:=J ah
       have AR:=J aQ
       have SP:=J aV
       clear ag ah aQ aV
       by_cases bt:m<(A.Q k).length
       ·have i3:(m:Int)<((A.Q k).length:Int):=by omega
        obtain⟨e,he⟩:∃e,(A.Q k)[m]? =some e:=⟨_,List.getElem?_eq_getElem bt⟩
        have L:(yv (A.Q k))[m]? =some e.id:=by unfold yv;rw[List.getElem?_map,he];rfl
        obtain⟨g3,aO,aA,af,-⟩:=vU (f:=zf) (by decide) (λy hy=>zu (H.o y hy)) AR.o.1 L
        cases aA
        have R1:=J af
        have Q:=J (H.o e.id (mem_of_getElem? L))
        have O:=J (zu Q.o)
        have HE:=J he
        have FH:=J ((frN wr).alloc (.cells (zf e.id).toArray 41))
        have RN:=J (zy wr (zf e.id) 41)
        have V:=J (q.o.fr0 FH.o)
        have aE:=J (AR.o.fr0 FH.o)
        have aJ:=J (SP.o.fr0 FH.o)
        have RX:=J V.o.idc
        have WL:=@J ((Zc A.Q x k m).length≤66) (by
         unfold Zc
         rw[List.length_append]
         have:=zav A.Q x k
         have:=c.o
         split<;>simp<;>omega)
        have QN:=@J (∀j,(R k).ownBlock=some j→j<wr.heap.size) (λj hj=>((q.o.rows.row k c.o).1.lt j hj).2)
        clear he L af q AR SP
        by_cases hex:e.id=x
        ·have ab:=J hex
         have aq:=@J ((zf e.id).toArray=(zf x).toArray) (by rw[hex])
         clear hex
         have bA:G≤66:=by rw[VN.o];exact WL.o
         have WY:=J (ziD (x:=x) ak.o.nd HE.o ab.o)
         have RY:=J (zjZ (x:=x) (i:=k) HE.o ab.o)
         have wt:=V.o.want.1
         rw[←VN.o] at wt
         obtain⟨v8,w8,b1,b2,b3,-,b5⟩:=yQ (P:=prog) _ B 58 58 3 1 8 _ Qb zbD rfl (by decide) wt [.int .i64 k] rfl (by simp[Value.oneCell']) (by omega) (by unfold maxLen;omega) V.o.lB
         obtain⟨aC,aD,aB⟩:=b2.slice.arg.form
         subst aB
         have p:=V.o.wantApp (by rw[←VN.o];exact b2) b3 b5
         rw[←WY.o,←RY.o] at p
         obtain⟨X4,p⟩:=p
         have aw:=J p
         have S4:=J (aJ.o.wantA b3 b5 aE.o)
         have B1:=J b1
         have ay:=@J (G+1=(Zc A.Q x k (m+1)).length) (by rw[WY.o,List.length_append,←VN.o];rfl)
         clear wt b1 b2 b3 b5 p
         have⟨D,U,K2,K3,K4,K5,K6⟩:=tZ7
         go_wp2_with ((first|((with_reducible refine zt ?_);first|(clear D;refine zn2 rfl rfl rfl R1.o O.o ?_)|(clear K2;refine zn2 rfl rfl rfl RN.o O.o ?_)|(clear K3;refine zn2 rfl rfl rfl RX.o XK.o ?_)|(clear K4;refine zg rfl (xF.exec_eql (u:=(zf e.id).toArray) (v:=(zf x).toArray) rfl rfl rfl (yn Q.o) (yn XO.o) true ⟨λ_=>aq.o,λ_=>rfl⟩ _) ?_)|(clear K5;refine zg rfl (jO (t:=58) (v:=.int .i64 k) rfl rfl Qb zak rfl (by decide) (by decide) rfl) ?_)|(clear K6;at_builtin;refine zQ rfl rfl rfl rfl B1.o ?_))|((with_reducible refine zx ?_);clear U;refine zoa (w:=wr) (cs:=zf e.id) rfl rfl rfl rfl O.o zM ?_;generalize wr.heap.size=aY at RN QN⊢;generalize wr.alloc (.cells (zf e.id).toArray 41)=w1 at*));go_frame)
         go_roundw
         case rel=>exact⟨m+1,X4,R,aC,G+1,aD,by go_num,by omega,rfl,ay.o,aw.o,S4.o.1,S4.o.2⟩
         case measure=>simp[intOf];omega
        ·have ab:=J hex
         have aq:=@J (¬(zf e.id).toArray=(zf x).toArray) (λh=>hex (XJ (by simpa using h)))
         clear hex
         have WY:=J (zku (x:=x) (i:=k) HE.o ab.o)
         have RY:=J (zie (x:=x) (i:=k) HE.o ab.o)
         have l5:(j9 A.Q x k m k).length≤4:=by
          rw[zb2,jG]
          exact Nat.le_trans (List.length_filter_le _ _) (Nat.le_trans (List.take_sublist m _).length_le l4)
         have L5:=J l5
         have ay:=@J (G=(Zc A.Q x k (m+1)).length) (by rw[WY.o];exact VN.o)
         clear l5
         have cr:=V.o.rows.cell c.o
         have⟨D,U,K2,K3,K4⟩:=tZ5
         go_wp2_with ((first|((with_reducible refine zt ?_);first|(clear D;refine zn2 rfl rfl rfl R1.o O.o ?_)|(clear K2;refine zn2 rfl rfl rfl RN.o O.o ?_)|(clear K3;refine zn2 rfl rfl rfl RX.o XK.o ?_)|(clear K4;refine zg rfl (xF.exec_eql (u:=(zf e.id).toArray) (v:=(zf x).toArray) rfl rfl rfl (yn Q.o) (yn XO.o) false ⟨λh=>(by cases h),λh=>absurd h aq.o⟩ _) ?_))|((with_reducible refine zx ?_);clear U;refine zoa (w:=wr) (cs:=zf e.id) rfl rfl rfl rfl O.o zM ?_;generalize wr.heap.size=aY at RN QN⊢;generalize wr.alloc (.cells (zf e.id).toArray 41)=w1 at*));go_frame)
         have Z:=J ((frN w1).drew)
         have n:=J (V.o.fr0 Z.o)
         have a7:=J (aE.o.fr0 Z.o)
         have bk:=J (aJ.o.fr0 Z.o)
         have au:=J (za RN.o Z.o id)
         refine yl [ff,ff,ff,ff,ff,tt,tt,ff,tt] (λW=>W.cell? ⟨F,k,none⟩=some (R k)∧W.rangeAt aY 0 (zf e.id)) (by kernel_rfl) (by kernel_rfl) 8 (by kernel_rfl) (by kernel_rfl) ?_ (λK hK=>?_)
         ·exact⟨n.o.rows.cell c.o,au.o⟩
         generalize w1.drew=we at*
         have wt:=n.o.rows.row k c.o
         obtain⟨v8,w8,b1,b2,b3,-,b5⟩:=yQ (P:=prog) we B 38 38 41 32 32 _ xK x9 rfl (by decide) wt.1 (zf e.id) O.o zM (by have:=L5.o;omega) (by have:=L5.o;unfold maxLen;omega) n.o.lB
         obtain⟨aC,aD,aB⟩:=b2.slice.arg.form
         subst aB
         have p:=n.o.rowApp c.o b2 b3 b5
         rw[RY.o,←WY.o] at p
         obtain⟨X4,p⟩:=p
         have aw:=J p
         have S4:=J (bk.o.rowA c.o b3 b5 a7.o)
         have B1:=J b1
         have NC:=@J (∀j,(R k).ownBlock=some j→j≠F) (λj hj e=>by have:=(wt.1.lt j hj).1;have:=n.o.rows.cB;omega)
         have CR:=J (n.o.rows.cell c.o)
         have aG:=J (b3.cell CR.o (λe=>NC.o _ e rfl))
         have bg:=J (za au.o b3 (λe=>by have:=QN.o _ e;omega))
         have bf:=J (b3.obj n.o.rows.obj (λe=>NC.o _ e rfl))
         clear wt b1 b2 b3 b5 p
         generalize bD:(j9 A.Q x k m k).length+1=rn at*
         repeat((first|(refine z6 rfl ?_;constructor;constructor;(focus(first|exact zn6 rfl (λw h=>h.2) O.o|(rintro w' ⟨s1,s2⟩;go_simp;(try with_reducible rfl);done))))|(refine z7 rfl ?_));try simp only[Act.put,pA,pB,pC])
         (refine zZ rfl (λK' hK'=>?_))
         refine yj (zU (t:=38) (cs:=zf e.id) rfl rfl xK qY rfl (by decide) (by decide) O.o) ?_
         have FB:=J ((frN we).alloc (.cells (zf e.id).toArray 41))
         refine hK'.out _ _ (λ_=>?_) (λhS=>?_)
         ·exact⟨FB.o.cell CR.o id,za au.o FB.o id⟩
         try simp only[Act.put,pA,pB,pC]
         (refine zZ rfl (λK' hK'=>?_))
         refine yt rfl rfl rfl B1.o ?_
         refine hK'.out _ _ (λ_=>?_) (λhS=>?_)
         ·exact⟨aG.o,bg.o⟩
         try simp only[Act.put,pA,pB,pC]
         repeat((first|(refine z6 rfl ?_;constructor;constructor;(focus(first|(rintro w' ⟨s1,s2⟩;go_simp;(try with_reducible rfl);done))))|(refine z7 rfl ?_));try simp only[Act.put,pA,pB,pC])
         have fz:w8.frozen? ⟨F,k,none⟩=false:=yk bf.o
         have cz:=aG.o
         (refine zZ rfl (λK' hK'=>?_))
         go_simp
         refine hK'.out _ _ (λh=>absurd rfl h) (λhS=>?_)
         refine xm (hK.out _ _ ?_)
         clear fz cz
         generalize w8.setCell ⟨F,k,none⟩ (.slice aC rn aD)=w9 at*
         go_wp2_with fail
         go_roundw
         case rel=>exact⟨m+1,X4,_,va,G,vc,by go_num,by omega,rfl,ay.o,aw.o,S4.o.1,S4.o.2⟩
         case measure=>simp[intOf];omega
       ·have i3:¬(m:Int)<((A.Q k).length:Int):=by omega
        go_wp2_with fail
        go_roundw
        case rel=>exact⟨k+1,X,R,va,G,vc,by go_num,by omega,rfl,by rw[←zdf A.Q x k (m:=m) (by omega)];exact VN.o,by rw[←zdf A.Q x k (m:=m) (by omega),←zid A.Q x k (m:=m) (by omega)];exact q.o⟩
        case measure=>simp[intOf];omega
     ·have i2:¬(k:Int)<65:=by omega
      obtain rfl:k=65:=by omega
      have c2:=q.o.fl.cells.2.2
      have RX:=J q.o.idc
      have LN:=J (zav A.Q x 65)
      clear VN
      have⟨D,U,K2,K3,K4⟩:=tZ5
      go_wp2_with ((first|((with_reducible refine zt ?_);clear D;refine zn2 rfl rfl rfl RX.o XK.o ?_)|(clear U;go_at_call 23;refine(zgk q.o.fl.1 XO.o).mono ?_;rintro e w6 ⟨lv,rfl,hr,T6,n6⟩;have ax:=J (q.o.next n6);have bd:=@J (J0 w6 lv (xT A.Q x 65)) (hr.slice.arg);obtain⟨bG,bI,bq⟩:=hr.slice.arg.form;subst bq;clear hr n6)|(clear K2;go_at_call 22;refine(zdO w6 bd.o (show J0 w6 _ (xT A.Q x 65) from ax.o.want.1.slice.arg) (by have:=LN.o;omega) (by have:=LN.o;omega)).mono ?_;rintro e w7 ⟨b,rfl,hb,f7⟩;obtain rfl:b=true:=hb.2 rfl;have E:=J (ax.o.fr0 f7);have bh:=J E.o.idc;have bn:=E.o.fl.cells.2.2;clear hb f7)|(clear K4;go_at_call 23;refine(zgk E.o.fl.1 XO.o).mono ?_;rintro e w8 ⟨lv,rfl,hr,T8,n8⟩;have bl:=J (E.o.next n8);dsimp only at hr;rw[zmY] at hr;obtain⟨bH,bJ,br⟩:=hr.slice.arg.form;subst br;clear hr n8 bn)|((with_reducible refine yu 93 ?_);clear K3;refine xP (o:=⟨some 93,_,_,_,_,_⟩) rfl (ya (ty:=41) rfl rfl bh.o uH rH (by rw[XK.o];exact yq)) ?_));go_frame)
      clear q c2 ax E
      go_loopw [98] (λM wr=>∃k:Nat,M=.int .i64 k∧k≤65∧Fr No w8 wr) (λM _=>65-(intOf M).toNat)
      case atStart=>exact⟨0,rfl,zero_le _,Fr.refl _ _⟩
      case round=>
       obtain⟨k,rfl,hk,fr⟩:=hrel
       rename World=>wr
       have q:=J (bl.o.fr0 fr)
       have FR:=J fr
       clear fr
       by_cases Y:k<65
       ·have i2:(k:Int)<65:=by omega
        have bE:k<65:=Y
        have c:=J Y
        have Z:=J ((frN wr).drew)
        have n:=J (q.o.fr0 Z.o)
        have c2:=n.o.fl.cells.2.2
        have cr:=n.o.rows.cell c.o
        have KE:=J (zic A.Q x c.o)
        have CE:=J (zmX A.Q x c.o)
        have C4:=@J ((yv (J4 (A.Q k) x)).length≤4) (by rw[←CE.o,jG];exact(n.o.fl.1.facts.2.2.2.2.2.2 k).len)
        have H:=J (n.o.fl.1.ids k)
        go_wp2_with fail
        refine wrLx [ff,ff,ff,tt,ff,ff,ff,tt,ff] (λW=>W.cell? ⟨c7,2,none⟩=some (.pointer (some ⟨ps,0,none⟩))∧W.cell? ⟨F,k,none⟩=some (R k)) ?_ (λK hK=>?_)
        ·exact⟨c2,cr⟩
        repeat((first|(refine zl rfl ?_;constructor;constructor;(focus(rintro w' ⟨s1,s2⟩;go_simp;(try with_reducible rfl);done)))|(refine zm rfl ?_));try simp only[Act.put,pA,pB,pC])
        (refine zJ rfl (λK' hK'=>?_))
        go_simp
        refine(zgG n.o.fl.1 c.o).mono ?_
        rintro e w7 ⟨av,rfl,r,f7⟩
        try dsimp only at r
        have IA:=@J (y5 w7 av (yv (J4 (A.Q k) x))) (by
         rw[CE.o] at r
         exact⟨λy hy=>H.o y (by(try dsimp only);rw[CE.o];exact hy),r.slice.arg⟩)
        obtain⟨aa,ac,ae⟩:=r.slice.arg.form
        subst ae
        have F7:=J f7
        clear r f7
        refine nXt hK' ?_ λhS=>?_
        ·exact⟨F7.o.cell c2 id,F7.o.cell cr id⟩
        try simp only[Act.put,pA,pB,pC]
        repeat((first|(refine zl rfl ?_;constructor;constructor;(focus(rintro w' ⟨s1,s2⟩;go_simp;(try with_reducible rfl);done)))|(refine zm rfl ?_));try simp only[Act.put,pA,pB,pC])
        have IB:=@J (y5 w7 (R k) (yv (J4 (A.Q k) x))) (by
         have:=((n.o.rows.fr0 F7.o).row k c.o).1
         rw[KE.o] at this
         exact⟨IA.o.1,this.slice.arg⟩)
        (refine zJ rfl (λK' hK'=>?_))
        go_simp
        refine(zfe w7 IA.o IB.o (by have:=C4.o;omega) (by have:=C4.o;omega)).mono ?_
        rintro e bK ⟨b,rfl,hb,f8⟩
        obtain rfl:b=true:=hb.2 rfl
        have F8:=J (F7.o.trans0 f8)
        clear hb f8
        refine nXt hK' ?_ λhS=>?_
        ·exact⟨F8.o.cell c2 id,F8.o.cell cr id⟩
        try simp only[Act.put,pA,pB,pC]
        repeat((first|(refine zl rfl ?_;constructor;constructor;(focus(rintro w' ⟨s1,s2⟩;go_simp;(try with_reducible rfl);done)))|(refine zm rfl ?_));try simp only[Act.put,pA,pB,pC])
        refine zL (hK.out _ _ ?_)
        go_wp2_with fail
        go_roundw
        case rel=>exact⟨k+1,by go_num,by omega,FR.o.trans0 (Z.o.trans0 F8.o)⟩
        case measure=>simp[intOf];omega
       ·have i2:¬(k:Int)<65:=by omega
        go_wp2_with fail
        go_ret
        exact⟨rfl,q.o.fl.fr⟩
section
open Go.ChangeShapes Go.WideShapes Go.Deep
theorem zcp {P:Program} {r:Reach} {a:Nat} {f:World} {t e:TypeId} {n:Nat} {v:Value} (d:P.underlying t=some (.array n e)) (h:Value.okWide P f r a t v):∃cs,v=.agg cs∧cs.size=P.cellsOf t:=by
 simp only[Value.okWide,d] at h
 obtain⟨cs,b,c,_⟩:=h
 exact⟨cs,b,c⟩
section
variable {H:Type} {enc:TypeId×Value→H} {w:World} {base:Nat} {spare:Nat→Bool} {held:Bool}
theorem zeX {r:Reach} {a:Nat} {v:Value} {d:DataW H} {p:List MemPlace} (i:Value.okWide prog w r a 41 v) (h:DataW.Trod enc prog w base spare held 41 v d p):
  ∃k:zd,zW k∧v=.agg (zf k).toArray:=by
 obtain⟨cs,rfl,g⟩:=zcp Tryz.underlying41 i
 obtain⟨fuel,c⟩:=h
 obtain⟨k,f,e⟩:=YP c
 refine⟨k,f,?_⟩
 have b:cs.toList=zf k:=e
 rw[←b]
end
end
end Go.Proofs.YtdkkjchclkjleaaGreatDoor
