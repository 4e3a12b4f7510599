/- chain: undo. -/
import Derived.Test.YtmpamcnlineceaaGreatDoorZG10
set_option linter.unusedVariables false
set_option linter.unusedSimpArgs false
set_option linter.unnecessarySimpa false
set_option linter.all false
set_option maxRecDepth 20000
set_option maxHeartbeats 16000000
namespace Go.Proofs.YtmpamcnlineceaaGreatDoor
open Go Go.RowKit Go.Maps Go.MapKept
open Go.Proofs.Tryz(prog)
open Nat(le_refl zero_le le_trans)
open List(getElem?_eq_getElem mem_append mem_of_getElem? mem_cons length_append not_mem_nil)
variable {U:Nat→Prop} {cs:List Value} {w w0:World}
theorem Jm:prog.underlying 78=some (.map 40 3):=by kernel_rfl
theorem vE {q:Nat} {a b c d e:Value} (h:w.rangeAt q 0 [a,b,c,d,e]):w.cell? ⟨q,0,none⟩=some a∧w.cell? ⟨q,1,none⟩=some b∧w.cell? ⟨q,2,none⟩=some c∧w.cell? ⟨q,3,none⟩=some d∧w.cell? ⟨q,4,none⟩=some e:=
 ⟨by simpa using h 0 _ rfl,by simpa using h 1 _ rfl,by simpa using h 2 _ rfl,by simpa using h 3 _ rfl,by simpa using h 4 _ rfl⟩
theorem zcE {V:Nat→Prop} {d:zU} {a b c:Value} {k i:Option Addr} {n m l j:Nat} (h:Kept V w (λw=>vr w d [a,b,c,.slice k n l,.slice i m j])):n=d.ids.length∧m=d.chg.length∧Kept V w (λw=>ZM w (.slice k d.ids.length l) d.ids)∧Kept V w (λw=>Qt w (.slice i d.chg.length j) d.chg):=by
 have g:∀w',vr w' d [a,b,c,.slice k n l,.slice i m j]→n=d.ids.length∧m=d.chg.length∧ZM w' (.slice k d.ids.length l) d.ids∧Qt w' (.slice i d.chg.length j) d.chg:=by
  rintro w' ⟨bcs,x,y,o,p,e,u,hi,v⟩
  obtain⟨z,A,B,C,rfl⟩:=u.form
  simp only[List.cons_append,List.nil_append,List.cons.injEq,and_true] at e
  obtain⟨-,-,-,q,r⟩:=e
  injection q with e11 e12 e13
  injection r with e21 e22 e23
  subst e11;subst e13;subst e21;subst e23
  exact⟨e12,e22,hi,v⟩
 obtain⟨s,t,-,-⟩:=g w h.now
 exact⟨s,t,λw' f=>(g w' (h w' f)).2.2.1,λw' f=>(g w' (h w' f)).2.2.2⟩
theorem qy.setM {w0 w w':World} {p s b:Nat} {g:Value} {css:List (List Value)} {D:ChD} (h:qy w0 w p s U b g css D) {c:List (zY×Int)} (m:zeH w' b c) (f:Fr (λj=>j=b) w w'):qy w0 w' p s U b g css ⟨D.S,D.bs,c⟩:=
 {h with
  obj:=f.obj h.obj h.pm
  set:=h.set.frV f (λj a e=>h.um (e▸a)) (λj e=>by have:=h.lo2;omega)
  row:=zf h.row f (λj a e=>(h.rn j a).2.1 e)
  data:=λi d cs k l=>(h.data i d cs k l).same (f.mono (λj a=>.inr (.inr (.inl a))))
  map:=m}
theorem zaz.len {x:Zp} (h:zaz w x cs):cs.length=2:=by
 obtain⟨a,b,c,d,rfl,_⟩:=h
 rfl
theorem zcg {p s g:Nat} {i:Value} {css:List (List Value)} {D:ChD} (h:qy w0 w p s U g i css D) {d:zU} (hd:Kept (chV p U g i) w (λw=>vr w d cs)) (hN:D.S.length+vw d.chg≤100000) (hC:d.chg.length≤100000) (hI:d.ids.length≤100000):
  Calls prog 34 #[.pointer (some ⟨p,0,none⟩),.agg cs.toArray] w λe w'=>e=.returned (.tuple #[])∧∃M',qy w0 w' p s U g i css ⟨qh d.chg D.S,D.bs,M'⟩∧(∀x v,(x,v)∈M'↔x∉d.ids∧(x,v)∈D.M)∧M'.length≤D.M.length∧Fr (chV p U g i) w w':=by
 obtain⟨pa,pc,ta,tc,ia,ic,R,z,rfl⟩:=hd.now.form
 obtain⟨-,-,ki,kc⟩:=zcE hd
 have zH:=qt
 have f1:=(frN w).alloc (.cells #[.int .u64 d.blk.tag,.slice pa d.blk.pay.length pc,.slice ta d.blk.txs.length tc,.slice ia d.ids.length ic,.slice R d.chg.length z] 94)
 have F1:=J f1
 have H1:=J (h.fr0 f1)
 have KI:=J (ki.same f1.of0)
 have KC:=J (kc.same f1.of0)
 obtain⟨-,-,-,x3,x4⟩:=vE (zK w [.int .u64 d.blk.tag,.slice pa d.blk.pay.length pc,.slice ta d.blk.txs.length tc,.slice ia d.ids.length ic,.slice R d.chg.length z] 94)
 have X3:=J x3
 have X4:=J x4
 have NV:=@J (¬chV p U g i w.heap.size) (λe=>by have:=h.hi _ e;omega)
 have az:(w.alloc (.cells #[.int .u64 d.blk.tag,.slice pa d.blk.pay.length pc,.slice ta d.blk.txs.length tc,.slice ia d.ids.length ic,.slice R d.chg.length z] 94)).cell? ⟨w.heap.size,4,none⟩=some (.slice R d.chg.length z):=x4
 have HU:=@J (∀j,U j→chV p U g i j) (λj r=>.inr (.inl r))
 have PI:(d.chg.length:Int)-1=zdA d.chg.length:=by cases d.chg.length with|zero=>rfl|succ n=>show((n+1:Nat):Int)-1=(n:Int);omega
 have HM:=@J (chV p U g i g) (.inr (.inr (.inl rfl)))
 clear h hd ki kc x3 x4 f1
 show Calls prog 34 #[.pointer (some ⟨p,0,none⟩),.agg #[.int .u64 d.blk.tag,.slice pa d.blk.pay.length pc,.slice ta d.blk.txs.length tc,.slice ia d.ids.length ic,.slice R d.chg.length z]] w _
 go_enter Tryz.func34,Tryz.ntmps34
 go_wp2_with fail
 generalize w.alloc (.cells #[.int .u64 d.blk.tag,.slice pa d.blk.pay.length pc,.slice ta d.blk.txs.length tc,.slice ia d.ids.length ic,.slice R d.chg.length z] 94)=w1 at*
 generalize w.heap.size=q0 at*
 clear az
 go_loopw [4] (λL wr=>∃k:Nat,L=.int .i64 (zdA k)∧k≤d.chg.length∧qy w0 wr p s U g i css ⟨qh (d.chg.drop k) D.S,D.bs,D.M⟩∧Fr (chV p U g i) w1 wr) (λL _=>(intOf L+1).toNat)
 case atStart=>exact⟨d.chg.length,rfl,le_refl _,by rw[List.drop_length];exact H1.o,Fr.refl _ _⟩
 case round=>
  obtain⟨k,rfl,hk,o,fr⟩:=hrel
  have T:=J fr
  have E:=J o
  clear fr o PI
  cases k with
  |succ m=>
   have q:zdA (m+1)=(m:Int):=rfl
   rw[q]
   clear q
   have i1:(0:Int)≤(m:Int):=by omega
   obtain⟨c,u⟩:∃x,d.chg[m]? =some x:=⟨_,getElem?_eq_getElem (by omega)⟩
   have i2:(m:Int)<(d.chg.length:Int):=by omega
   have i3:(0:Int)≤(m:Int):=by omega
   have TN:=J (zf0 u)
   have SN:=J (zdg D.S u)
   have UL:=J (zav (d.chg.drop (m+1)) D.S)
   have an:=J (KC.o.same T.o)
   obtain⟨b,off,av,aA,hv,ay,⟨P,Q,N,O,ae,-⟩,af⟩:=zaQ (by decide) (λ_ _ _ h=>h.len) an.o u
   cases hv
   subst ae
   have KP:=@J (Kept (chV p U g i) wr (λw=>(w.cell? ⟨b,off+m*2,none⟩=some (.slice P c.took.length Q)∧w.cell? ⟨b,off+m*2+1,none⟩=some (.slice N c.made.length O))∧xz w (.slice P c.took.length Q) c.took∧qz w (.slice N c.made.length O) c.made)) (λw' f=>by
    obtain⟨hr,aD,aE,aB,aC,e,q1,q2⟩:=af w' f
    simp only[List.cons.injEq,and_true] at e
    obtain⟨e1,e2⟩:=e
    injection e1 with e11 _ e13
    injection e2 with e21 _ e23
    subst e11;subst e13;subst e21;subst e23
    exact⟨⟨hr 0 _ rfl,hr 1 _ rfl⟩,q1,q2⟩)
   have FD:=J (frN wr).drew
   have G:=J (E.o.fr0 FD.o)
   have I:=J (KP.o.same FD.o.of0)
   have P0:=J G.o.cells.1
   have au:=J ((T.o.trans0 FD.o).cell X4.o NV.o)
   have aj:=J (T.o.trans0 FD.o)
   have TK:=J (zfZ G.o.set I.o.now.2.2 (show c.made.length+(qh (d.chg.drop (m+1)) D.S).length≤100000 by have:=TN.o;have:=UL.o;omega))
   have aq:=J (λ(w':World) (S:List zh) (h:CS w0 w' s U S) (v:Value) (l:List zh) (hl:xz w' v l) (hn:l.length+S.length≤100000)=>zbW h hl hn)
   have TL:=J (zas (qh (d.chg.drop (m+1)) D.S) c.made)
   clear af u ay
   generalize qh (d.chg.drop (m+1)) D.S=S1 at*
   go_wp2_with fail
   refine wrLx [ff,ff,ff,ff,ff,ff,ff,ff,ff,ff,tt] (λw'=>w'.cell? ⟨p,0,none⟩=some (.pointer (some ⟨s,0,none⟩))∧w'.cell? ⟨q0,4,none⟩=some (.slice (some ⟨b,off,none⟩) d.chg.length z)∧w'.cell? ⟨b,off+m*2+1,none⟩=some (.slice N c.made.length O)) ?_ (λK hK=>?_)
   ·exact⟨P0.o,au.o,I.o.now.1.2⟩
   generalize wr.drew=z1 at*
   repeat((first|(refine zn rfl ?_;constructor;constructor;(focus(first|(rintro w' ⟨s1,s2,s3⟩;exact goS))))|(refine zq rfl ?_));try simp only[Act.put,pA,pB,pC])
   (refine zN rfl (λK' hK'=>?_))
   go_simp
   refine TK.o.mono ?_
   rintro e w2 ⟨x,rfl,-,A,f2⟩
   have V:=J (G.o.setS A f2)
   have F2:=@J (Fr (chV p U g i) w1 w2) (aj.o.trans (f2.mono (λj r=>HU.o j r)) (λ_ _ h=>h))
   have aa:=J (I.o.same (f2.mono (λj r=>HU.o j r)))
   clear A f2
   refine nXt hK' ?_ λhS=>?_
   ·exact⟨V.o.cells.1,F2.o.cell X4.o NV.o,aa.o.now.1.2⟩
   try simp only[Act.put,pA,pB,pC]
   refine zZ (hK.out _ _ ?_)
   have FE:=J (frN w2).drew
   have F:=J (V.o.fr0 FE.o)
   have H:=J (aa.o.same FE.o.of0)
   have F3:=J (F2.o.trans0 FE.o)
   have ar:=J (aq.o _ _ F.o.set _ _ H.o.now.2.1 (show c.took.length+(vu S1 c.made).length≤100000 by have:=TN.o;have:=UL.o;have:=TL.o;omega))
   go_wp2_with fail
   refine wrLx [ff,ff,ff,ff,ff,ff,ff,ff,ff,ff,tt] (λw'=>w'.cell? ⟨p,0,none⟩=some (.pointer (some ⟨s,0,none⟩))∧w'.cell? ⟨q0,4,none⟩=some (.slice (some ⟨b,off,none⟩) d.chg.length z)∧w'.cell? ⟨b,off+m*2,none⟩=some (.slice P c.took.length Q)) ?_ (λK hK=>?_)
   ·exact⟨F.o.cells.1,F3.o.cell X4.o NV.o,H.o.now.1.1⟩
   generalize w2.drew=z2 at*
   repeat((first|(refine zn rfl ?_;constructor;constructor;(focus(first|(rintro w' ⟨s1,s2,s3⟩;exact goS))))|(refine zq rfl ?_));try simp only[Act.put,pA,pB,pC])
   (refine zN rfl (λK' hK'=>?_))
   go_simp
   refine ar.o.mono ?_
   rintro e w4 ⟨rfl,B,f4⟩
   have W:=J (F.o.setS B f4)
   have F4:=@J (Fr (chV p U g i) w1 w4) (F3.o.trans (f4.mono (λj r=>HU.o j r)) (λ_ _ h=>h))
   have ao:=J (H.o.same (f4.mono (λj r=>HU.o j r)))
   clear B f4
   refine nXt hK' ?_ λhS=>?_
   ·exact⟨W.o.cells.1,F4.o.cell X4.o NV.o,ao.o.now.1.1⟩
   try simp only[Act.put,pA,pB,pC]
   refine zZ (hK.out _ _ ?_)
   go_wp2_with fail
   go_roundw
   case rel=>exact⟨m,congrArg (Value.int .i64) (by cases m with|zero=>rfl|succ n=>show((n+1:Nat):Int)-1=(n:Int);omega),by omega,by rw[SN.o];exact W.o,F4.o⟩
   case measure=>show((m:Int)-1+1).toNat<((m:Int)+1).toNat;omega
  |zero=>
   have q:zdA 0= -1:=rfl
   rw[q]
   have c3:=T.o.cell X3.o NV.o
   have ak:=@J (qy w0 wr p s U g i css ⟨qh d.chg D.S,D.bs,D.M⟩) (E.o)
   clear q E
   go_wp2_with fail
   (try simp only[Exit.inBlock,Exit.then])
   clear c3
   go_loopw [40] (λL wq=>∃(n:Nat) (M:List (zY×Int)),L=.int .i64 n∧n≤d.ids.length∧qy w0 wq p s U g i css ⟨qh d.chg D.S,D.bs,M⟩∧(∀x v,(x,v)∈M↔x∉d.ids.take n∧(x,v)∈D.M)∧M.length≤D.M.length∧Fr (chV p U g i) w1 wq) (λL _=>d.ids.length-(intOf L).toNat)
   case atStart=>exact⟨0,D.M,rfl,zero_le _,ak.o,by simp,le_refl _,T.o⟩
   case round=>
    obtain⟨n,M,rfl,hn,o,hM,ai,fr⟩:=hrel
    have FQ:=J fr
    have E:=J o
    have Z:=J hM
    have Y:=J ai
    clear fr o hM ai
    by_cases aw:n<d.ids.length
    ·have i1:(n:Int)<(d.ids.length:Int):=by omega
     obtain⟨x,u⟩:∃x,d.ids[n]? =some x:=⟨_,getElem?_eq_getElem aw⟩
     have KQ:=KI.o wr FQ.o
     have ab:=J (KQ.1 x (mem_of_getElem? u))
     obtain⟨b,off,av,hv,hr,-⟩:=KQ.at_ u
     cases hv
     have R1:=J hr
     have HL:=J (yr ab.o)
     have FA:=J ((frN wr).alloc (.cells (zl x).toArray 40))
     have RX:=J (zK wr (zl x) 40)
     have TK:=@J (∀y,y∉d.ids.take (n+1)↔y∉d.ids.take n∧y≠x) (λy=>by
      rw[List.take_add_one,u]
      simp)
     clear hr u KQ
     go_wp2_with (first|(refine ziT rfl rfl rfl R1.o HL.o ?_)|(refine zi3 (w:=wr) (cs:=zl x) rfl rfl rfl rfl HL.o zX ?_))
     have FZ:=J (FA.o.trans0 (frN (wr.alloc (.cells (zl x).toArray 40))).drew)
     have HZ:=J (E.o.fr0 FZ.o)
     have RZ:=J (zb RX.o (frN (wr.alloc (.cells (zl x).toArray 40))).drew _root_.id)
     refine wrLx [ff,ff,ff,ff,ff,tt] (λw'=>w'.cell? ⟨p,2,none⟩=some (.map (some g))∧w'.rangeAt wr.heap.size 0 (zl x)) ?_ (λK hK=>?_)
     ·exact⟨HZ.o.cells.2.2,RZ.o⟩
     generalize (wr.alloc (.cells (zl x).toArray 40)).drew=z1 at*
     obtain⟨w5,M5,C,ah,ad,t,ag⟩:=HZ.o.map.del jN.keyed Jm (λ_ _=>Jj) (xn ab.o) 0 40
     have al:=J C
     have X:=J (HZ.o.setM ah t.fr)
     have F5:=@J (Fr (chV p U g i) w1 w5) ((FQ.o.trans0 FZ.o).trans t.fr (λj r e=>by subst e;exact HM.o))
     have ME:=@J (∀y v,(y,v)∈M5↔y∉d.ids.take (n+1)∧(y,v)∈D.M) (λy v=>by
      rw[ad y v,Z.o,TK.o]
      exact⟨λ⟨a,b,c⟩=>⟨⟨b,a⟩,c⟩,λ⟨⟨b,a⟩,c⟩=>⟨a,b,c⟩⟩)
     have ML:=J (le_trans ag Y.o)
     have R5:=J (zb RZ.o t.fr (λe=>by have:=E.o.map.lt;omega))
     clear C ah ad t ag
     repeat((first|(refine zn rfl ?_;constructor;constructor;(focus(first|exact zi0 rfl (λw h=>h.2) HL.o|(rintro w' ⟨s1,s2⟩;exact goS))))|(refine zq rfl ?_));try simp only[Act.put,pA,pB,pC])
     (refine zN rfl (λK' hK'=>?_))
     refine yg (Qa rfl rfl rfl al.o) ?_
     refine nXt hK' ?_ λhS=>?_
     ·exact⟨X.o.cells.2.2,R5.o⟩
     try simp only[Act.put]
     refine zZ (hK.out _ _ ?_)
     go_wp2_with fail
     go_roundw
     case rel=>exact⟨n+1,M5,by go_num,by omega,X.o,ME.o,ML.o,F5.o⟩
     case measure=>simp[intOf];omega
    ·have ax:n=d.ids.length:=by omega
     have i1:¬(n:Int)<(d.ids.length:Int):=by omega
     have HE:=@J (∀x v,(x,v)∈M↔x∉d.ids∧(x,v)∈D.M) (by
      have:=Z.o
      rw[ax,List.take_length] at this
      exact this)
     go_wp2
     refine bodyPost_end (results_none rfl _ _ _) rfl ?_
     exact⟨rfl,M,E.o,HE.o,Y.o,F1.o.of0.trans FQ.o (λ_ _ h=>h)⟩
theorem zef {B:Nat} {v mv:Value} {m:List zE} {a:Option Addr} {c:Nat} (b:mv=.slice a m.length c) (h:w.ownsRow B 117 2 v 1 [.slice none 0 0,mv]) {V:Nat→Prop} (g:∀j,v.ownBlock=some j→¬V j) (k:Kept V w (λw=>qz w mv m)):Kept V w (λw=>Qt w v [⟨[],m⟩]):=λw' f=>by
 subst b
 refine xB.own (B:=B) (ty:=117) (css:=[[.slice none 0 0,.slice a m.length c]]) (by decide) (by simpa using zf h f g) rfl (by simp) (by unfold maxLen;simp) (λi d cs hi e=>?_)
 cases i with
 |succ i=>simp at hi
 |zero=>
  simp at hi e
  subst hi
  subst e
  exact⟨none,0,a,c,rfl,⟨(λx l=>by cases l),.inl (.inl ⟨rfl,rfl,rfl⟩)⟩,k w' f⟩
def zeG (w0 w:World) (p s mi:Nat) (U:Nat→Prop) (bv:Value) (css:List (List Value)) (D:ChD) (dq:Nat) (T:Nat→Prop) (b:y7) (E:Int) (S:List zh) (M:List (zY×Int)) (d:zU) (e:Ending) (w':World):Prop:=
 e=.returned (.int .i64 E)∧qy w0 w' p s U mi bv css ⟨S,D.bs,M⟩∧Fr (λj=>chV p U mi bv j∨j=dq) w w'∧d.blk=b∧
  ∃cs,w'.heap[dq]? =some (.cells cs.toArray 94 (0,0))∧Kept (λj=>chV p U mi bv j∨T j) w' (λw=>vr w d cs)
def Y0 (w0 w:World) (p s mi:Nat) (U:Nat→Prop) (bv:Value) (css:List (List Value)) (D:ChD) (dq:Nat) (b:y7) (e:Ending) (w':World):Prop:=zeG w0 w p s mi U bv css D dq (λj=>j=dq) b (if xQ D.S (yZ b)=0 then 0 else 10) (qQ D.S (yZ b)) D.M ⟨b,[],if xQ D.S (yZ b)=0 then[⟨[],(yZ b).map (·.at_)⟩] else[]⟩ e w'
theorem zgu (hg:jM w0) {p s C:Nat} {B:Value} {css:List (List Value)} {D:ChD} (h:qy w0 w p s U C B css D) {o:Nat} {b:y7} {bcs:List Value}
  (hq:w.heap[o]? =some (.cells (bcs++[Value.slice none 0 0,Value.slice none 0 0]).toArray 94 (0,0))) (aA:¬chV p U C B o) (az:w0.heap.size≤o)
  (hb:Kept (λj=>chV p U C B j∨j=o) w (λw=>xT w b bcs)) (h0:b.txs=[]) (hok:xC b=true) (hN:D.S.length≤90000)
  (ay:∀(i:Nat) (d:zU) (cs:List Value),D.bs[i]? =some d→css[i]? =some cs→Kept (λj=>chV p U C B j∨j=o) w (λw=>vr w d cs)):
  Calls prog 33 #[.pointer (some ⟨p,0,none⟩),.pointer (some ⟨o,0,none⟩)] w
   (Y0 w0 w p s C U B css D o b):=by
 obtain⟨pa,pc,ta,tc,rfl⟩:=hb.now.form
 have p8:b.pay.length≤8:=by
  have:=hok
  simp only[xC,Bool.and_eq_true,decide_eq_true_eq] at this
  exact this.1
 have HB:=@J (Kept (λj=>chV p U C B j∨j=o) w (λw=>xT w b [.int .u64 b.tag,.slice pa b.pay.length pc,.slice ta 0 tc])) (by rw[h0] at hb;exact hb)
 rw[h0] at hq
 have HQ:=@J (w.heap[o]? =some (.cells #[.int .u64 b.tag,.slice pa b.pay.length pc,.slice ta 0 tc,.slice none 0 0,.slice none 0 0] 94 (0,0))) (hq)
 obtain⟨dG,uG,rG⟩:=zaE
 have zH:=qt
 have zG:=zaY
 have zC:=jI
 have HC:=J h
 have G0:=J hg
 have GE:=J (Jr hok)
 have HH:=J (Jg b)
 have ar:=J (yr HH.o)
 have NQ:=J aA
 have LQ:=J az
 have c2:=(vE (zm hq)).2.2.1
 have i0:¬(0:Int)<0:=by omega
 have RB:=@J (w.rangeAt o 0 [.int .u64 b.tag,.slice pa b.pay.length pc,.slice ta 0 tc]) (λj v a=>by
  refine zm HQ.o j v ?_
  match j,a with
  |0,a=>exact a
  |1,a=>exact a
  |2,a=>exact a)
 have GW:=J (G0.o.keep0 h.fr)
 have ID:=J (JU GW.o HB.o.now)
 rw[GE.o.1] at ID
 have M:=J (jD b)
 have ab:=@J (∀c∈yZ b,c.ok) (Jh HH.o (by obtain⟨_,_,_,_,_,_,ho,_⟩:=HB.o.now;exact ho.1) (by omega))
 have aS:=@J (((yZ b).map (·.at_)).Nodup) (vm _ _)
 have PE:=@J (yZ b=xP (xH b) b.pay) (rfl)
 have E:=@J (xQ D.S (yZ b)≠0→∀e w',zeG w0 w p s C U B css D o (λj=>j=o) b 10 (qQ D.S (yZ b)) D.M ⟨b,[],[]⟩ e w'→Y0 w0 w p s C U B css D o b e w') (λh e w' hh=>by unfold Y0;rw[if_neg h,if_neg h];exact hh)
 have W:=@J (xQ D.S (yZ b)=0→∀e w',zeG w0 w p s C U B css D o (λj=>j=o) b 0 (qQ D.S (yZ b)) D.M ⟨b,[],[⟨[],(yZ b).map (·.at_)⟩]⟩ e w'→Y0 w0 w p s C U B css D o b e w') (λh e w' hh=>by unfold Y0;rw[if_pos h,if_pos h];exact hh)
 have HK:=J ay
 clear h hg hq aA az hb hok h0 ay
 go_enter Tryz.func33,Tryz.ntmps33
 go_wp2_with fail
 go_loopw [25] (λiv wr=>iv=.int .i64 0∧wr=w) (λ_ _=>0)
 case atStart=>exact⟨rfl,rfl⟩
 case round=>
  obtain⟨rfl,hw⟩:=hrel
  rw[hw]
  clear c2
  have⟨K0,K1,K2⟩:=tZ3
  go_wp2_with ((first|((with_reducible refine zt ?_);clear K0;refine ziS rfl rfl rfl RB.o rfl ?_)|(clear K1;go_at_call 8;refine ID.o.mono ?_;rintro e w2 ⟨rfl,f2⟩;have F2:=J f2;clear f2)|((with_reducible refine zr ?_);clear K2;refine zi3 (w:=w2) (cs:=zl (xH b)) rfl rfl rfl rfl ar.o zX ?_;have F3:=J (F2.o.trans0 ((frN w2).alloc (.cells (zl (xH b)).toArray 40)));have B3:=J (zS w2 (.cells (zl (xH b)).toArray 40));generalize w2.alloc (.cells (zl (xH b)).toArray 40)=w3 at*;generalize aY:w2.heap.size=q3 at*));go_frame)
  have FD:=J (F3.o.trans0 (frN w3).drew)
  have au:=J (FD.o.obj HQ.o id)
  have ao:=J (HB.o.same FD.o.of0)
  have aE:=J (vE (zm au.o)).2.1
  have aw:=J (zb (zm B3.o) (frN w3).drew id)
  refine wrLx [ff,ff,ff,ff,ff,ff,tt,ff] (λw'=>w'.cell? ⟨o,1,none⟩=some (.slice pa b.pay.length pc)∧w'.rangeAt q3 0 (zl (xH b))) ?_ (λK hK=>?_)
  ·exact⟨aE.o,aw.o⟩
  generalize w3.drew=w4 at*
  repeat((first|(refine zn rfl ?_;constructor;constructor;(focus(first|exact zi0 rfl (λw h=>h.2) ar.o|(rintro w' ⟨s1,s2⟩;exact goS))))|(refine zq rfl ?_));try simp only[Act.put,pA,pB,pC])
  (refine zN rfl (λK' hK'=>?_))
  go_simp
  have aL:=@J (xA w4 (.slice pa b.pay.length pc) b.pay) (by
   obtain⟨a7,a8,ba,bb,e,_,ho,_⟩:=ao.o.now
   simp only[zdN,List.cons.injEq,and_true] at e
   obtain⟨-,e1,-⟩:=e
   injection e1 with e11 _ e13
   subst e11;subst e13
   exact ho)
  refine(ZB w4 HH.o aL.o (by omega)).mono ?_
  rintro e w5 ⟨pv,rfl,o5,f5⟩
  rw[←PE.o] at o5
  have F5:=J (FD.o.trans0 f5)
  have ah:=J (f5.obj au.o id)
  have an:=J (ao.o.same f5.of0)
  have T:=J (HC.o.fr0 F5.o)
  have O5:=J o5
  have aC:=J (zb aw.o f5 id)
  obtain⟨va,vc,aW⟩:=o5.slice.arg.form
  subst aW
  clear o5 f5
  refine nXt hK' ?_ λhS=>?_
  ·exact⟨(vE (zm ah.o)).2.1,aC.o⟩
  try simp only[Act.put,pA,pB,pC]
  repeat((first|(refine zn rfl ?_;constructor;constructor;(focus(first|(rintro w' ⟨s1,s2⟩;exact goS))))|(refine zq rfl ?_));try simp only[Act.put,pA,pB,pC])
  refine zZ (hK.out _ _ ?_)
  have P5:=T.o.cells.1
  have CI:=@J (xz w5 (.slice va b.pay.length vc) (yZ b)) (⟨ab.o,by rw[M.o];exact O5.o.slice.arg⟩)
  have F:=J (zbW T.o.set CI.o (by rw[M.o];omega))
  have UV:=@J (∀j,U j→chV p U C B j) (λj a=>.inr (.inl a))
  by_cases hE:xQ D.S (yZ b)=0
  rotate_left
  ·have aF:=@J (xQ D.S (yZ b)=10) (by
    unfold xQ at hE⊢
    rw[if_pos aS.o] at hE⊢
    split<;>simp_all)
   rw[aF.o] at F
   replace E:=J (E.o hE)
   clear hE W
   go_wp2_with (go_at_call 50;refine F.o.mono ?_;rintro e R ⟨rfl,N,G⟩;have V:=J (T.o.setS N G);have F6:=@J (Fr (λj=>chV p U C B j∨j=o) w R) (F5.o.of0.trans (G.mono (λj a=>.inl (UV.o j a))) (λ_ _ h=>h));have ag:=J (an.o.same (G.mono (λj a=>.inl (UV.o j a))));have X:=J (G.obj ah.o (λa=>NQ.o (UV.o _ a)));clear N G)
   go_ret
   refine E.o _ _ ⟨rfl,V.o,F6.o,rfl,_,X.o,λw' f=>⟨[.int .u64 b.tag,.slice pa b.pay.length pc,.slice ta 0 tc],none,0,none,0,rfl,ag.o w' f,⟨(λx Q=>by cases Q),.inl (.inl ⟨rfl,rfl,rfl⟩)⟩,xB.nil⟩⟩
  ·rw[hE] at F
   replace W:=J (W.o hE)
   clear hE E
   have H4:=@J (∀j,chV p U C B j→j<w4.heap.size) ((HC.o.fr0 FD.o).hi)
   go_wp2_with (first|(go_at_call 50;refine F.o.mono ?_;rintro e R ⟨rfl,N,G⟩;have V:=J (T.o.setS N G);have F6:=@J (Fr (λj=>chV p U C B j∨j=o) w R) (F5.o.of0.trans (G.mono (λj a=>.inl (UV.o j a))) (λ_ _ h=>h));have ag:=J (an.o.same (G.mono (λj a=>.inl (UV.o j a))));have X:=J (G.obj ah.o (λa=>NQ.o (UV.o _ a)));have O6:=J (zf O5.o G (λj a hu=>by have:=(O5.o.lt j a).1;have:=H4.o _ (UV.o _ hu);omega));clear N G))
   have FA:=J ((frN R).alloc (.cells #[.slice none 0 0,.slice none 0 0] 117))
   have BA:=J (zS R (.cells #[.slice none 0 0,.slice none 0 0] 117))
   have QA:=@J ((R.alloc (.cells #[.slice none 0 0,.slice none 0 0] 117)).heap.size=R.heap.size+1) (by simp)
   generalize R.alloc (.cells #[.slice none 0 0,.slice none 0 0] 117)=w7 at*
   generalize aB:R.heap.size=l at*
   have O7:=J (zf O6.o FA.o (λ_ _=>id))
   have OL:=@J (∀j,(Value.slice va b.pay.length vc).ownBlock=some j→j<l) (λj a=>by rw[←aB];exact(O6.o.lt j a).2)
   go_loopw [112] (λiv wr=>∃(n:Nat) (mv:Value),iv=.int .i64 n∧n≤b.pay.length∧wr.heap[l]? =some (.cells #[.slice none 0 0,mv] 117 (0,0))∧wr.ownsRow w7.heap.size 72 33 mv n ((((yZ b).map (·.at_)).take n).flatMap zi)∧Fr (λj=>j=l) w7 wr) (λiv _=>b.pay.length-(intOf iv).toNat)
   case atStart=>exact⟨0,.slice none 0 0,rfl,zero_le _,BA.o,World.ownsRow_nil _ _ _ 33,Fr.refl _ _⟩
   case round=>
    obtain⟨n,mv,rfl,hn,ax,ai,fr⟩:=hrel
    have FR:=J fr
    have BQ:=J ax
    have OR:=J ai
    obtain⟨ma,mc,ad⟩:=ai.slice.arg.form
    clear fr ax ai
    by_cases hlt:n<b.pay.length
    ·have i1:(n:Int)<(b.pay.length:Int):=by omega
     obtain⟨c,Q⟩:∃x,(yZ b)[n]? =some x:=⟨_,getElem?_eq_getElem (by rw[M.o];exact hlt)⟩
     have al:=J (ab.o c (mem_of_getElem? Q))
     have CL:=J (yv al.o)
     have PL:=J (zF al.o.1)
     obtain⟨g,aX,O,hr,-⟩:=J6 (f:=zw) (k:=66) (L:=yZ b) (by decide) (λx Q=>yv (ab.o x Q)) (show wr.ownsRow w4.heap.size 103 66 (.slice va b.pay.length vc) b.pay.length ((yZ b).flatMap zw) from zf O7.o FR.o (λj a e=>by have:=OL.o j a;omega)) Q
     cases O
     have R1:=J hr
     have FB:=J ((frN wr).alloc (.cells (zw c).toArray 103))
     have RP:=J (ju (zK wr (zw c) 103))
     have aM:=@J (((yZ b).map (·.at_))[n]? =some c.at_) (by simp[Q])
     have TF:=J (vG zi aM.o)
     have ak:=J (FB.o.obj BQ.o id)
     obtain⟨v5,m,a1,a2,a3,a4,a5⟩:=yw (P:=prog) (wr.alloc (.cells (zw c).toArray 103)) w7.heap.size 115 115 72 33 36 _ qH jP (by show(zi vn).toArray.size=33;rfl) (by decide) (zf OR.o FB.o (λ_ _=>id)) (zi c.at_) PL.o yB (by omega) (by unfold maxLen;omega) (le_trans FR.o.size FB.o.size)
     have A1:=J a1
     have I:=@J (m.ownsRow w7.heap.size 72 33 v5 (n+1) ((((yZ b).map (·.at_)).take (n+1)).flatMap zi)) (by rw[TF.o];exact a2)
     have av:=@J (∀j,mv.ownBlock=some j→j≠l) (λj a e=>by have:=(OR.o.lt j a).1;have:=QA.o;omega)
     have af:=J (a3.obj ak.o (λe=>av.o _ e rfl))
     have A:=@J (Fr (λj=>j=l) w7 m) ((FR.o.trans0 FB.o).trans a3 (λj a e=>by have:=(OR.o.lt j e).1;omega))
     have aa:=@J (∀j,v5.ownBlock=some j→j≠l) (λj a e=>(a5 j a).elim (λh=>av.o j h e) (λh=>by have:=FR.o.size;have:=FB.o.size;have:=QA.o;omega))
     have cA:(wr.alloc (.cells (zw c).toArray 103)).cell? ⟨l,1,none⟩=some (.slice ma n mc):=by have:=zm ak.o 1 _ rfl;rw[ad] at this;simpa using this
     have cB:m.cell? ⟨l,1,none⟩=some (.slice ma n mc):=by have:=zm af.o 1 _ rfl;rw[ad] at this;simpa using this
     have fB:=zW (i:=1) af.o
     clear hr a1 a2 a3 a4 a5
     obtain⟨q,r,aj⟩:=I.o.slice.arg.form
     subst aj
     subst ad
     have aP:=J (heap_setCell_same m l 1 _ _ (.slice q (n+1) r) af.o)
     have aH:=@J (Fr (λj=>j=l) w7 (m.setCell ⟨l,1,none⟩ (.slice q (n+1) r))) (A.o.setCell _ (.inr rfl) _)
     have aR:=J (zf I.o (show Fr (λj=>j=l) m (m.setCell ⟨l,1,none⟩ (.slice q (n+1) r)) from(Fr.refl (λj=>j=l) m).setCell ⟨l,1,none⟩ (.inr rfl) _) (λj a e=>aa.o j a e))
     have⟨K0,K1,K2,K3,K4⟩:=tZ5
     go_wp2_with ((first|((with_reducible refine zt ?_);first|(clear K0;refine ziY rfl rfl rfl R1.o CL.o ?_)|(clear K2;refine ziX rfl rfl rfl RP.o PL.o ?_)|(clear K3;refine zg rfl (zL (t:=115) rfl rfl qH j6 rfl (by decide) (by decide) PL.o) ?_)|(clear K4;at_builtin;refine zk rfl rfl rfl rfl A1.o ?_))|((with_reducible refine zr ?_);clear K1;refine ze rfl (zj (w:=wr) (ty:=103) (cs:=zw c) rfl rfl rfl (by rw[CL.o];rfl) (by rw[CL.o];exact xI) yz) ?_;generalize wr.alloc (.cells (zw c).toArray 103)=wA at*));go_frame)
     go_roundw
     case rel=>exact⟨n+1,_,by go_num,by omega,aP.o,aR.o,aH.o⟩
     case measure=>simp[intOf];omega
    ·have aV:n=b.pay.length:=by omega
     have i1:¬(n:Int)<(b.pay.length:Int):=by omega
     have Z:=@J (wr.ownsRow w7.heap.size 72 33 mv ((yZ b).map (·.at_)).length (((yZ b).map (·.at_)).flatMap zi)) (by
      have:=OR.o
      rw[aV,List.take_of_length_le (by rw[List.length_map,M.o];exact le_refl _)] at this
      rw[List.length_map,M.o]
      exact this)
     have aG:=@J (Fr No R wr) (FA.o.trans FR.o (λj a e=>by omega))
     have S:=J (aG.o.trans0 (frN wr).drew)
     have FV:=J (F6.o.trans0 S.o)
     have aq:=J (V.o.fr0 S.o)
     have aI:=J (ag.o.same S.o.of0)
     have Y:=J (S.o.obj X.o id)
     have aD:=J ((frN wr).drew.obj BQ.o id)
     have aO:=J (zf Z.o (frN wr).drew (λ_ _=>id))
     have QL:=@J (o<l) (by have:=yu X.o;omega)
     have S9:=@J (w7.heap.size≤wr.drew.heap.size) (FR.o.size)
     have GR:=J (zm aD.o)
     have c4:=(vE (zm Y.o)).2.2.2.2
     go_wp2_with fail
     clear c4
     refine yD [ff,ff,ff,ff,ff,ff,tt,tt,ff,ff,tt] (λw'=>w'.cell? ⟨o,4,none⟩=some (.slice none 0 0)∧w'.rangeAt l 0 [.slice none 0 0,mv]) (by kernel_rfl) (by kernel_rfl) 10 (by kernel_rfl) (by kernel_rfl) ?_ (λK hK=>?_)
     ·exact⟨(vE (zm Y.o)).2.2.2.2,GR.o⟩
     generalize wr.drew=z at*
     obtain⟨v5,m,a1,a2,a3,a4,a5⟩:=yw (P:=prog) z z.heap.size 92 92 117 2 48 _ YA Q0 rfl (by decide) (World.ownsRow_nil z z.heap.size _ 2) [.slice none 0 0,mv] rfl (λu hu=>by subst ad;simp only[mem_cons,not_mem_nil,or_false] at hu;rcases hu with rfl|rfl<;>rfl) (by omega) (by unfold maxLen;omega) (le_refl _)
     have A1:=J a1
     rw[List.nil_append] at a2
     have I:=J a2
     obtain⟨q,r,aj⟩:=a2.slice.arg.form
     subst aj
     have A:=@J (Fr No z m) (a3.mono (λj e=>by cases e))
     have aa:=@J (∀j,(Value.slice q 1 r).ownBlock=some j→z.heap.size≤j) (λj a=>(I.o.lt j a).1)
     clear a1 a2 a3 a4 a5
     have H:=J (A.o.obj Y.o id)
     have fz:=zW (i:=4) H.o
     have aT:=@J (m.cell? ⟨o,4,none⟩=some (.slice none 0 0)∧m.rangeAt l 0 [.slice none 0 0,mv]) (⟨(vE (zm H.o)).2.2.2.2,zb GR.o A.o id⟩)
     have KS:=@J (∀w',Fr No z w'→w'.cell? ⟨o,4,none⟩=some (.slice none 0 0)∧w'.rangeAt l 0 [.slice none 0 0,mv]) (λw' f=>⟨(vE (zm (f.obj Y.o id))).2.2.2.2,zb GR.o f id⟩)
     have fs:Fr (λj=>j=o) m (m.setCell ⟨o,4,none⟩ (.slice q 1 r)):=(Fr.refl (λj=>j=o) m).setCell ⟨o,4,none⟩ (.inr rfl) _
     have ae:=@J (Fr (λj=>chV p U C B j∨j=o) w (m.setCell ⟨o,4,none⟩ (.slice q 1 r))) ((FV.o.trans0 A.o).trans fs (λj _ a=>.inr a))
     have aJ:=J ((aI.o.same A.o.of0).same (fs.mono (λj a=>.inr a)))
     have aK:=J ((aq.o.fr0 A.o).frV fs (λj a e=>NQ.o (e▸a)) (λj e=>by have:=LQ.o;omega) (λi d cs h1 h2 w' f=>HK.o i d cs h1 h2 w' (ae.o.trans (f.mono (λj a=>.inl a)) (λ_ _ h=>h))))
     have aN:=J (heap_setCell_same m o 4 _ _ (.slice q 1 r) H.o)
     have aQ:=@J (Kept (λj=>chV p U C B j∨j=o) (m.setCell ⟨o,4,none⟩ (.slice q 1 r)) (λw=>Qt w (.slice q 1 r) [⟨[],(yZ b).map (·.at_)⟩])) (by
      obtain⟨aZ,a6,aU⟩:=Z.o.slice.arg.form
      refine zef (mv:=mv) aU (zf I.o fs (λj a e=>by have:=aa.o j a;have:=S9.o;have:=QA.o;have:=QL.o;omega)) (λj a O=>by
       have h1:=aa.o j a
       have h2:=S9.o
       rcases O with O|O
       ·have:=aq.o.hi _ O;omega
       ·have:=QL.o;have:=QA.o;omega) ?_
      refine Z8 (zf (zf aO.o A.o (λ_ _=>id)) fs (λj a e=>by have:=(Z.o.lt j a).1;have:=QA.o;have:=QL.o;omega)) (λx Q=>by
       obtain⟨y,hy,rfl⟩:=List.mem_map.1 Q
       exact(ab.o y hy).1) (λj a O=>by
       have h1:=(Z.o.lt j a).1
       rcases O with O|O
       ·have:=V.o.hi _ O;have:=QA.o;omega
       ·have:=QL.o;have:=QA.o;omega))
     repeat((first|(refine ym rfl ?_;constructor;constructor;(focus(first|exact yY (ty:=117) rfl (λw h=>h.2) uG rG qK|(rintro w' ⟨s1,s2⟩;exact goS))))|(refine yn rfl ?_));try simp only[Act.put,pA,pB,pC])
     (refine yf rfl (λK' hK'=>?_))
     refine yg (zL (t:=92) rfl rfl YA XB rfl (by decide) (by decide) rfl) ?_
     refine hK'.out _ _ (λ_=>?_) (λhS=>?_)
     ·exact KS.o _ ((frN z).alloc _)
     try simp only[Act.put,pA,pB,pC]
     (refine yf rfl (λK' hK'=>?_))
     refine zQ rfl rfl rfl A1.o ?_
     refine hK'.out _ _ (λ_=>?_) (λhS=>?_)
     ·exact aT.o
     try simp only[Act.put,pA,pB,pC]
     repeat((first|(refine ym rfl ?_;constructor;constructor;(focus(first|(rintro w' ⟨s1,s2⟩;exact goS))))|(refine yn rfl ?_));try simp only[Act.put,pA,pB,pC])
     (refine yf rfl (λK' hK'=>?_))
     go_simp
     refine hK'.out _ _ (λh=>absurd rfl h) (λhS=>?_)
     refine qp (hK.out _ _ ?_)
     go_wp2_with fail
     go_ret
     refine W.o _ _ ⟨rfl,aK.o,ae.o,rfl,_,aN.o,λw' f=>⟨[.int .u64 b.tag,.slice pa b.pay.length pc,.slice ta 0 tc],none,0,q,r,rfl,aJ.o w' f,⟨(λx Q=>by cases Q),.inl (.inl ⟨rfl,rfl,rfl⟩)⟩,aQ.o w' f⟩⟩
def za2 (n:Nat) (M M':List (zY×Int)) (ids:List zY):Prop:=(∀x v,(x,v)∈M'↔(x,v)∈M∨(x∈ids∧v=((n:Int)+1)))∧∀x∈ids,∀v,(x,v)∉M
def DoC (X:Nat→Prop) (w0:World) (p s mi:Nat) (U:Nat→Prop) (bv:Value) (css:List (List Value)) (D:ChD) (b:y7) (R:DoR):Prop:=
 ∀(w:World) (dq:Nat) (bcs:List Value),qy w0 w p s U mi bv css D→w.heap[dq]? =some (.cells (bcs++[Value.slice none 0 0,Value.slice none 0 0]).toArray 94 (0,0))→¬chV p U mi bv dq→w0.heap.size≤dq→
  (∀j,X j→j<w.heap.size)→Kept (λj=>chV p U mi bv j∨(j=dq∨X j)) w (λw=>xT w b bcs)→xC b=true→
  (∀(i:Nat) (d:zU) (cs:List Value),D.bs[i]? =some d→css[i]? =some cs→Kept (λj=>chV p U mi bv j∨j=dq) w (λw=>vr w d cs))→
  Calls prog 33 #[.pointer (some ⟨p,0,none⟩),.pointer (some ⟨dq,0,none⟩)] w λe w'=>∃M',za2 D.bs.length D.M M' R.d.ids∧zeG w0 w p s mi U bv css D dq (λj=>j=dq∨X j) b R.E R.S M' R.d e w'
def zhk (X:Nat→Prop) (w0 w:World) (p s mi:Nat) (U:Nat→Prop) (D:ChD) (bv:Value) (css:List (List Value)) (R:DoR) (e:Ending) (w':World):Prop:=
 e=.returned (.int .i64 R.E)∧Fr (chV p U mi bv) w w'∧(R.E=0→∃bv' css' M',qy w0 w' p s U mi bv' css' ⟨R.S,D.bs++[R.d],M'⟩∧za2 D.bs.length D.M M' R.d.ids∧(∀j,bv'.ownBlock=some j→bv.ownBlock=some j∨w.heap.size≤j)∧∃csd,css'=css++[csd]∧Kept (λj=>chV p U mi bv' j∨X j) w' (λw=>vr w R.d csd))∧
  (R.E≠0→∃M',qy w0 w' p s U mi bv css ⟨qh R.d.chg R.S,D.bs,M'⟩∧∀x v,(x,v)∈M'↔(x,v)∈D.M)
def JA (D:ChD) (b:y7):Int:=if 1024≤D.bs.length then 18 else if xC b=true then(if b.pay.any xX=true then 11 else 0) else 5
theorem zbm:∃d,prog.underlying 94=some d∧d.isRow=true:=vq (by kernel_rfl)
theorem Jv:(prog.info? 94).map (·.size)=some 5:=by kernel_rfl
def zcD:List Value:=[.int .u64 0,.slice none 0 0,.slice none 0 0,.slice none 0 0,.slice none 0 0]
theorem zck (w:World):(zeroValue 94).run prog w=.ok (.agg zcD.toArray) w:=by kernel_rfl
theorem zcf:prog.underlying 79=some (.slice 94):=by kernel_rfl
theorem zd9:(prog.info? 94).map (λi=>(i.zero,i.size,i.bytes))=some (some (.agg zcD.toArray),5,104):=by kernel_rfl
theorem zcL:(prog.info? 94).map (λi=>(i.zero,i.size))=some (some (.agg zcD.toArray),5):=by kernel_rfl
theorem zdm (t:Int) (a b:Option Addr) (n m c d:Nat) (w:World):(Instr.build 94 #[(0,.agg #[.int .u64 t,.slice a n c,.slice b m d])]).run prog w=.ok (.agg [.int .u64 t,.slice a n c,.slice b m d,.slice none 0 0,.slice none 0 0].toArray) w:=by kernel_rfl
theorem X8 (hg:jM w0) {p s mi:Nat} {bv:Value} {css:List (List Value)} {D:ChD} (h:qy w0 w p s U mi bv css D) {b:y7} (G:xT w b cs) (hl:D.bs.length≤100000) (c:JA D b≠0):
  Calls prog 10 #[.pointer (some ⟨p,0,none⟩),.agg cs.toArray] w λe w'=>e=.returned (.int .i64 (JA D b))∧Fr No w w':=by
 have HB:=J G
 obtain⟨t,u,M,N,rfl⟩:=G.form
 have zH:=qt
 have zo:=yA
 have l:=J ((frN w).alloc (.cells #[.int .u64 b.tag,.slice t b.pay.length u,.slice M b.txs.length N] 36))
 have A:=J (h.fr0 l.o)
 have c1:=A.o.cells.2.1
 obtain⟨ba,bc,W⟩:=h.row.slice.arg.form
 rw[W] at c1
 obtain⟨x0,x1,x2,xr⟩:=qC w (.int .u64 b.tag) (.slice t b.pay.length u) (.slice M b.txs.length N) 36
 have X1:=J x1
 have XR:=J xr
 have O:=J (JU ((hg.keep0 h.fr).keep0 l.o) (HB.o.keep l.o))
 have B:=J (yr (Jg b))
 clear h G x0 x1 x2 xr hg A
 show Calls prog 10 #[.pointer (some ⟨p,0,none⟩),.agg #[.int .u64 b.tag,.slice t b.pay.length u,.slice M b.txs.length N]] w _
 by_cases h1024:1024≤D.bs.length
 ·have q:=@J (JA D b=18) (by simp[JA,h1024])
  have j1:decide ((1024:Int)≤(D.bs.length:Int))=true:=by simp;omega
  clear c h1024
  go_enter Tryz.func10,Tryz.ntmps10
  go_wp2
  go_ret
  exact⟨by rw[q.o];rfl,l.o⟩
 have j1:decide ((1024:Int)≤(D.bs.length:Int))=false:=by simp;omega
 by_cases hok:xC b=true
 rotate_left
 ·have f:xC b=false:=by simpa using hok
  have q:=@J (JA D b=5) (by simp[JA,h1024,f])
  have S:=J (JH f)
  rw[S.o.1] at O
  clear c h1024 hok f
  go_enter Tryz.func10,Tryz.ntmps10
  have⟨i,j,T⟩:=tZ3
  go_wp2_with ((first|((with_reducible refine zt ?_);clear i;refine ziS rfl rfl rfl XR.o rfl ?_;generalize w.alloc (.cells #[.int .u64 b.tag,.slice t b.pay.length u,.slice M b.txs.length N] 36)=w1 at*)|(clear j;go_at_call 8;refine O.o.mono ?_;rintro e v ⟨rfl,E⟩;have F2:=J (l.o.trans0 E);clear E;have F3:=J (F2.o.trans0 ((frN v).alloc (.cells (zl (xH b)).toArray 40))))|((with_reducible refine zr ?_);clear T;refine zi3 (w:=v) (cs:=zl (xH b)) rfl rfl rfl rfl B.o zX ?_));go_frame)
  go_ret
  exact⟨by rw[q.o];rfl,F3.o⟩
 have d:b.pay.any xX=true:=by
  cases G:b.pay.any xX with
  |true=>rfl
  |false=>exact absurd (show JA D b=0 by simp[JA,h1024,hok,G]) c
 have q:=@J (JA D b=11) (by simp[JA,h1024,hok,d])
 have S:=J (Jr hok)
 rw[S.o.1] at O
 have p8:b.pay.length≤8:=by
  have:=hok
  simp only[xC,Bool.and_eq_true,decide_eq_true_eq] at this
  exact this.1
 have z:=J d
 clear c h1024 hok d
 go_enter Tryz.func10,Tryz.ntmps10
 have⟨i,j,T⟩:=tZ3
 go_wp2_with ((first|((with_reducible refine zt ?_);clear i;refine ziS rfl rfl rfl XR.o rfl ?_;generalize w.alloc (.cells #[.int .u64 b.tag,.slice t b.pay.length u,.slice M b.txs.length N] 36)=w1 at*)|(clear j;go_at_call 8;refine O.o.mono ?_;rintro e v ⟨rfl,E⟩;have Q:=J E;clear E;have g:=J (Q.o.trans0 ((frN v).alloc (.cells (zl (xH b)).toArray 40))))|((with_reducible refine zr ?_);clear T;refine zi3 (w:=v) (cs:=zl (xH b)) rfl rfl rfl rfl B.o zX ?_;generalize v.alloc (.cells (zl (xH b)).toArray 40)=w3 at*;have ab:=g.o.cell X1.o id));go_frame)
 have C:=@J (xA w3 (.slice t b.pay.length u) b.pay) (by
  obtain⟨ae,af,ag,ah,e,_,ho,_⟩:=HB.o
  simp only[zdN,List.cons.injEq,and_true] at e
  obtain⟨-,e1,-⟩:=e
  injection e1 with e11 _ e13
  subst e11;subst e13
  exact(ho.keep l.o).keep g.o)
 clear ab
 go_loopw [30] (λiv wr=>∃n:Nat,iv=.int .i64 n∧n≤b.pay.length∧(∀x∈b.pay.take n,xX x=false)∧Fr No w3 wr) (λiv _=>b.pay.length-(intOf iv).toNat)
 case atStart=>exact⟨0,rfl,zero_le _,by simp,Fr.refl _ _⟩
 case round=>
  obtain⟨n,rfl,hn,m,fr⟩:=hrel
  have FR:=J fr
  have AL:=J m
  clear fr m
  by_cases X:n<b.pay.length
  ·have i1:(n:Int)<(b.pay.length:Int):=by omega
   obtain⟨x,P⟩:∃x,b.pay[n]? =some x:=⟨_,getElem?_eq_getElem X⟩
   obtain⟨bb,off,ad,hv,hr,-⟩:=(C.o.keep FR.o).at_ P
   cases hv
   have o:=C.o.1 x (mem_of_getElem? P)
   have V:=J hr
   have r:=J (z6 o)
   have R:=J (FR.o.trans0 ((frN wr).alloc (.cells (zx x).toArray 68)))
   have n1:=(vt wr o).1
   have HX:=J P
   clear hr o P
   by_cases hbx:xX x=true
   ·have Z:x.value=0∨(x.value≠0∧1125899906842624<x.value):=by
     simp only[xX,Bool.or_eq_true,decide_eq_true_eq] at hbx
     by_cases h:x.value=0
     ·exact .inl h
     ·exact .inr ⟨h,hbx.resolve_left h⟩
    clear hbx
    rcases Z with K|⟨K,L⟩
    ·have H:(x.value==0)=true:=by simpa using K
     clear K
     have⟨i,j⟩:=tZ2
     go_wp2_with ((first|((with_reducible refine zt ?_);clear i;refine ziW rfl rfl rfl V.o r.o ?_)|((with_reducible refine zr ?_);clear j;refine zi5 (w:=wr) (cs:=zx x) rfl rfl rfl rfl r.o zV ?_;generalize wr.alloc (.cells (zx x).toArray 68)=wA at*));go_frame)
     go_ret
     exact⟨by rw[q.o];rfl,l.o.trans0 (g.o.trans0 R.o)⟩
    ·have H:(x.value==0)=false:=by simpa using K
     have aa:decide (1125899906842624<x.value)=true:=by simpa using L
     clear K L
     have⟨i,j⟩:=tZ2
     go_wp2_with ((first|((with_reducible refine zt ?_);clear i;refine ziW rfl rfl rfl V.o r.o ?_)|((with_reducible refine zr ?_);clear j;refine zi5 (w:=wr) (cs:=zx x) rfl rfl rfl rfl r.o zV ?_;generalize wr.alloc (.cells (zx x).toArray 68)=wA at*));go_frame)
     go_ret
     exact⟨by rw[q.o];rfl,l.o.trans0 (g.o.trans0 R.o)⟩
   ·have a:xX x=false:=by simpa using hbx
    have H:(x.value==0)=false:=by
     unfold xX at a
     rw[Bool.or_eq_false_iff] at a
     simpa using a.1
    have aa:decide (1125899906842624<x.value)=false:=by
     unfold xX at a
     rw[Bool.or_eq_false_iff] at a
     exact a.2
    have AN:=@J (∀y∈b.pay.take (n+1),xX y=false) (λy k=>by
     rw[List.take_add_one,HX.o] at k
     rcases mem_append.1 k with k|k
     ·exact AL.o y k
     ·simp at k;subst k;exact a)
    clear hbx a
    have⟨i,j⟩:=tZ2
    go_wp2_with ((first|((with_reducible refine zt ?_);clear i;refine ziW rfl rfl rfl V.o r.o ?_)|((with_reducible refine zr ?_);clear j;refine zi5 (w:=wr) (cs:=zx x) rfl rfl rfl rfl r.o zV ?_;generalize wr.alloc (.cells (zx x).toArray 68)=wA at*));go_frame)
    go_roundw
    case rel=>exact⟨n+1,by go_num,by omega,AN.o,R.o⟩
    case measure=>simp[intOf];omega
  ·have Y:n=b.pay.length:=by omega
   have i1:¬(n:Int)<(b.pay.length:Int):=by omega
   exfalso
   have F:=AL.o
   rw[Y,List.take_length] at F
   have hB:=z.o
   obtain⟨y,k,I⟩:=List.any_eq_true.1 hB
   rw[F y k] at I
   cases I
theorem Y2 (hg:jM w0) {p s F:Nat} {G:Value} {css:List (List Value)} {D:ChD} (h:qy w0 w p s U F G css D) {b:y7} (hb:xT w b cs) (M:JA D b=0) {R:DoR}
  (ak:∀(w:World) (cs:List Value),xT w b cs→Calls prog 32 #[.agg cs.toArray] w (zeI w b)) {X:Nat→Prop} (hX:∀j,X j→j<w.heap.size) (aI:DoC X w0 p s F U G css D b R) (aK:R.S.length+vw R.d.chg≤100000∧R.d.chg.length≤100000∧R.d.ids.length≤100000):
  Calls prog 10 #[.pointer (some ⟨p,0,none⟩),.agg cs.toArray] w (zhk X w0 w p s F U D G css R):=by
 have H:¬1024≤D.bs.length:=λh=>by simp[JA,h] at M
 have hok:xC b=true:=by
  cases hok:xC b with
  |true=>rfl
  |false=>simp[JA,H,hok] at M
 have aj:b.pay.any xX=false:=by
  cases hb:b.pay.any xX with
  |false=>rfl
  |true=>simp[JA,H,hok,hb] at M
 have HB:=J hb
 obtain⟨pa,pc,ta,tc,rfl⟩:=hb.form
 obtain⟨dD,uD,rD⟩:=zbm
 have zH:=qt
 have zo:=yA
 have zD:=zck
 have F1:=J ((frN w).alloc (.cells #[.int .u64 b.tag,.slice pa b.pay.length pc,.slice ta b.txs.length tc] 36))
 have HC:=J h
 have ay:=J (h.fr0 F1.o)
 have c1:=ay.o.cells.2.1
 obtain⟨ba,bc,ar⟩:=h.row.slice.arg.form
 rw[ar] at c1
 obtain⟨x0,x1,x2,xr⟩:=qC w (.int .u64 b.tag) (.slice pa b.pay.length pc) (.slice ta b.txs.length tc) 36
 have X1:=J x1
 have XR:=J xr
 have ID:=J (JU ((hg.keep0 h.fr).keep0 F1.o) (HB.o.keep F1.o))
 have aS:=J (yr (Jg b))
 have GE:=J (Jr hok)
 rw[GE.o.1] at ID
 have j1:decide ((1024:Int)≤(D.bs.length:Int))=false:=by simp;omega
 have p8:b.pay.length≤8:=by
  have:=hok
  simp only[xC,Bool.and_eq_true,decide_eq_true_eq] at this
  exact this.1
 have ax:=J (List.any_eq_false.1 aj)
 have aC:=J hok
 have aD:=J ak
 have az:=J aI
 have ag:=J hX
 have an:=J aK
 have BL:=@J (D.bs.length<1024) (by omega)
 have E:=J ar
 clear h hb x0 x1 x2 xr hg hok aj H M ak aI aK ay ar hX
 show Calls prog 10 #[.pointer (some ⟨p,0,none⟩),.agg #[.int .u64 b.tag,.slice pa b.pay.length pc,.slice ta b.txs.length tc]] w _
 go_enter Tryz.func10,Tryz.ntmps10
 have⟨K0,K1,K2⟩:=tZ3
 go_wp2_with ((first|((with_reducible refine zt ?_);clear K0;refine ziS rfl rfl rfl XR.o rfl ?_;generalize w.alloc (.cells #[.int .u64 b.tag,.slice pa b.pay.length pc,.slice ta b.txs.length tc] 36)=w1 at*)|(clear K1;go_at_call 8;refine ID.o.mono ?_;rintro e w2 ⟨rfl,f2⟩;have aO:=J f2;clear f2;have ab:=J (aO.o.trans0 ((frN w2).alloc (.cells (zl (xH b)).toArray 40))))|((with_reducible refine zr ?_);clear K2;refine zi3 (w:=w2) (cs:=zl (xH b)) rfl rfl rfl rfl aS.o zX ?_;generalize w2.alloc (.cells (zl (xH b)).toArray 40)=w3 at*;have a8:=ab.o.cell X1.o id));go_frame)
 have aB:=@J (xA w3 (.slice pa b.pay.length pc) b.pay) (by
  obtain⟨bh,bj,bk,bl,e,_,ho,_⟩:=HB.o
  simp only[zdN,List.cons.injEq,and_true] at e
  obtain⟨-,e1,-⟩:=e
  injection e1 with e11 _ e13
  subst e11;subst e13
  exact(ho.keep F1.o).keep ab.o)
 clear a8
 go_loopw [30] (λiv wr=>∃n:Nat,iv=.int .i64 n∧n≤b.pay.length∧(∀x∈b.pay.take n,xX x=false)∧Fr No w3 wr) (λiv _=>b.pay.length-(intOf iv).toNat)
 case atStart=>exact⟨0,rfl,zero_le _,by simp,Fr.refl _ _⟩
 case round=>
  obtain⟨n,rfl,hn,ai,fr⟩:=hrel
  have FR:=J fr
  have AL:=J ai
  clear fr ai
  by_cases aZ:n<b.pay.length
  ·have i1:(n:Int)<(b.pay.length:Int):=by omega
   obtain⟨x,hx⟩:∃x,b.pay[n]? =some x:=⟨_,getElem?_eq_getElem aZ⟩
   obtain⟨bb,off,bd,hv,hr,-⟩:=(aB.o.keep FR.o).at_ hx
   cases hv
   have au:=aB.o.1 x (mem_of_getElem? hx)
   have R1:=J hr
   have IL:=J (z6 au)
   have FA:=J (FR.o.trans0 ((frN wr).alloc (.cells (zx x).toArray 68)))
   have n1:=(vt wr au).1
   have HX:=J hx
   clear hr au hx
   by_cases hbx:xX x=true
   ·exact absurd hbx (ax.o x (mem_of_getElem? HX.o))
   ·have g:xX x=false:=by simpa using hbx
    have bf:(x.value==0)=false:=by
     unfold xX at g
     rw[Bool.or_eq_false_iff] at g
     simpa using g.1
    have bg:decide (1125899906842624<x.value)=false:=by
     unfold xX at g
     rw[Bool.or_eq_false_iff] at g
     exact g.2
    have AN:=@J (∀y∈b.pay.take (n+1),xX y=false) (λy hy=>by
     rw[List.take_add_one,HX.o] at hy
     rcases mem_append.1 hy with hy|hy
     ·exact AL.o y hy
     ·simp at hy;subst hy;exact g)
    clear hbx g
    have⟨K0,K1⟩:=tZ2
    go_wp2_with ((first|((with_reducible refine zt ?_);clear K0;refine ziW rfl rfl rfl R1.o IL.o ?_)|((with_reducible refine zr ?_);clear K1;refine zi5 (w:=wr) (cs:=zx x) rfl rfl rfl rfl IL.o zV ?_;generalize wr.alloc (.cells (zx x).toArray 68)=wA at*));go_frame)
    go_roundw
    case rel=>exact⟨n+1,by go_num,by omega,AN.o,FA.o⟩
    case measure=>simp[intOf];omega
  ·have a6:n=b.pay.length:=by omega
   have i1:¬(n:Int)<(b.pay.length:Int):=by omega
   have FW:=J (F1.o.trans0 (ab.o.trans0 FR.o))
   have FO:=J (ab.o.trans0 FR.o)
   have aG:=J (zb XR.o FO.o id)
   have aF:=J (aD.o wr _ (HB.o.keep FW.o))
   have ae:=J (HC.o.fr0 FW.o)
   clear AL a6
   by_cases hE:R.E=0
   rotate_left
   ·have aU:=J hE
    have e0:(R.E==0)=false:=by simpa using hE
    clear hE
    have⟨K0,K1,K2,K3,K4,K5,K6⟩:=tZ7
    go_wp2_with ((first|((with_reducible refine zt ?_);first|(clear K0;refine ziS rfl rfl rfl aG.o rfl ?_)|(clear K2;refine zg rfl (yl (t:=94) rfl rfl (zdm _ _ _ _ _ _ _ _)) ?_)|(clear K5;refine zg rfl (ye (ty:=94) rfl rfl (zm Q7.o) uD rD (by rw[List.toList_toArray,D5.o];exact Jv)) ?_))|(clear K1;go_at_call 32;refine aF.o.mono ?_;rintro e w5 ⟨aW,rfl,f5,I⟩;obtain⟨m,o,q,r,rfl⟩:=(I (λ_=>False) (λ_ h=>h.elim)).now.form;have K5:=J I;have F5:=J f5;have l:=J (ae.o.fr0 f5);clear I f5)|(clear K4;go_at_call 33;refine(az.o w6 dq [.int .u64 b.tag,.slice m b.pay.length o,.slice q b.txs.length r] (l.o.fr0 Q.o) B6.o (λe=>by have:=l.o.hi _ e;omega) (by have:=l.o.fr.size;omega) (λj c=>by have:=ag.o j c;have:=FW.o.size;have:=F5.o.size;have:=Q.o.size;omega) ((K5.o (λj=>chV p U F G j∨X j) (λj c=>c.elim (ae.o.hi j) (λe=>by have:=ag.o j e;have:=FW.o.size;omega))).step Q.o.of0 (λj c e=>e.imp_right (λe=>e.resolve_left (by omega)))) aC.o (λi d cs h1 O=>(l.o.data i d cs h1 O).step Q.o.of0 (λj c e=>e.resolve_right (by omega)))).mono ?_;rintro e w7 ⟨M7,aa,rfl,V,f7,T,A,Z,L⟩;have af:=J aa;have al:=J V;have F7:=J f7;have Q7:=J Z;have KD:=J L;have ad:=@J (Fr (chV p U F G) w w7) (((FW.o.trans0 F5.o).trans0 Q.o).of0.trans f7 (λj c e=>e.elim id (λe=>by have:=FW.o.size;have:=F5.o.size;omega)));obtain⟨Y,W⟩:=L.now.one;have D5:=J Y;have D1:=J W;clear aa V f7 T Z L Y W)|(clear K6;go_at_call 34;refine(zcg al.o (show Kept (chV p U F G) w7 (λw=>vr w R.d A) from λw' f=>KD.o w' (f.mono (λj c=>.inl c))) an.o.1 an.o.2.1 an.o.2.2).mono ?_;rintro e w8 ⟨rfl,M8,aH,aJ,-,f8⟩;have aR:=J aH;have aT:=J aJ;have F8:=@J (Fr (chV p U F G) w w8) (ad.o.trans f8 (λ_ _ h=>h));clear aH aJ f8)|((with_reducible refine zr ?_);clear K3;refine ze rfl (zj (w:=w5) (ty:=94) (cs:=[.int .u64 b.tag,.slice m b.pay.length o,.slice q b.txs.length r,.slice none 0 0,.slice none 0 0]) rfl rfl rfl rfl Jv (λu hu=>by simp only[mem_cons,not_mem_nil,or_false] at hu;rcases hu with rfl|rfl|rfl|rfl|rfl<;>rfl)) ?_;have Q:=J ((frN w5).alloc (.cells [.int .u64 b.tag,.slice m b.pay.length o,.slice q b.txs.length r,.slice none 0 0,.slice none 0 0].toArray 94));have B6:=J (zS w5 (.cells [.int .u64 b.tag,.slice m b.pay.length o,.slice q b.txs.length r,.slice none 0 0,.slice none 0 0].toArray 94));generalize w5.alloc (.cells [.int .u64 b.tag,.slice m b.pay.length o,.slice q b.txs.length r,.slice none 0 0,.slice none 0 0].toArray 94)=w6 at*;generalize aX:w5.heap.size=dq at*));go_frame)
    go_ret
    refine⟨rfl,F8.o,λh=>absurd h aU.o,λ_=>⟨M8,aR.o,λx v=>?_⟩⟩
    rw[aT.o,af.o.1]
    constructor
    ·rintro⟨h1,O|⟨O,h3⟩⟩
     ·exact O
     ·exact absurd O h1
    ·intro O
     exact⟨λh=>af.o.2 x h v O,.inl O⟩
   ·have aA:=J hE
    have e0:(R.E==0)=true:=by simpa using hE
    clear hE
    have⟨K0,K1,K2,K3,K4⟩:=tZ5
    go_wp2_with ((first|((with_reducible refine zt ?_);first|(clear K0;refine ziS rfl rfl rfl aG.o rfl ?_)|(clear K2;refine zg rfl (yl (t:=94) rfl rfl (zdm _ _ _ _ _ _ _ _)) ?_))|(clear K1;go_at_call 32;refine aF.o.mono ?_;rintro e w5 ⟨aW,rfl,f5,I⟩;obtain⟨m,o,q,r,rfl⟩:=(I (λ_=>False) (λ_ h=>h.elim)).now.form;have K5:=J I;have F5:=J f5;have l:=J (ae.o.fr0 f5);clear I f5)|(clear K4;go_at_call 33;refine(az.o w6 dq [.int .u64 b.tag,.slice m b.pay.length o,.slice q b.txs.length r] (l.o.fr0 Q.o) B6.o (λe=>by have:=l.o.hi _ e;omega) (by have:=l.o.fr.size;omega) (λj c=>by have:=ag.o j c;have:=FW.o.size;have:=F5.o.size;have:=Q.o.size;omega) ((K5.o (λj=>chV p U F G j∨X j) (λj c=>c.elim (ae.o.hi j) (λe=>by have:=ag.o j e;have:=FW.o.size;omega))).step Q.o.of0 (λj c e=>e.imp_right (λe=>e.resolve_left (by omega)))) aC.o (λi d cs h1 O=>(l.o.data i d cs h1 O).step Q.o.of0 (λj c e=>e.resolve_right (by omega)))).mono ?_;rintro e w7 ⟨M7,aa,rfl,V,f7,T,A,Z,L⟩;have af:=J aa;have al:=J V;have F7:=J f7;have Q7:=J Z;have KD:=J L;have ad:=@J (Fr (chV p U F G) w w7) (((FW.o.trans0 F5.o).trans0 Q.o).of0.trans f7 (λj c e=>e.elim id (λe=>by have:=FW.o.size;have:=F5.o.size;omega)));obtain⟨Y,W⟩:=L.now.one;have D5:=J Y;have D1:=J W;clear aa V f7 T Z L Y W)|((with_reducible refine zr ?_);clear K3;refine ze rfl (zj (w:=w5) (ty:=94) (cs:=[.int .u64 b.tag,.slice m b.pay.length o,.slice q b.txs.length r,.slice none 0 0,.slice none 0 0]) rfl rfl rfl rfl Jv (λu hu=>by simp only[mem_cons,not_mem_nil,or_false] at hu;rcases hu with rfl|rfl|rfl|rfl|rfl<;>rfl)) ?_;have Q:=J ((frN w5).alloc (.cells [.int .u64 b.tag,.slice m b.pay.length o,.slice q b.txs.length r,.slice none 0 0,.slice none 0 0].toArray 94));have B6:=J (zS w5 (.cells [.int .u64 b.tag,.slice m b.pay.length o,.slice q b.txs.length r,.slice none 0 0,.slice none 0 0].toArray 94));generalize w5.alloc (.cells [.int .u64 b.tag,.slice m b.pay.length o,.slice q b.txs.length r,.slice none 0 0,.slice none 0 0].toArray 94)=w6 at*;generalize aX:w5.heap.size=dq at*));go_frame)
    have N:=J (frN w7).drew
    have a:=J (al.o.fr0 N.o)
    have Q9:=J (N.o.obj Q7.o id)
    have GR:=@J (w7.drew.rangeAt dq 0 A) (zm Q9.o)
    have CB:=@J (w7.drew.cell? ⟨p,1,none⟩=some (.slice ba D.bs.length bc)) (by rw[←E.o];exact a.o.cells.2.1)
    refine yD [ff,ff,ff,ff,ff,ff,tt,tt,ff,ff,tt] (λw'=>w'.cell? ⟨p,1,none⟩=some (.slice ba D.bs.length bc)∧w'.rangeAt dq 0 A) (by kernel_rfl) (by kernel_rfl) 10 (by kernel_rfl) (by kernel_rfl) ?_ (λK hK=>?_)
    ·exact⟨CB.o,GR.o⟩
    generalize w7.drew=z at*
    have ah:=@J (z.ownsRow w0.heap.size 94 5 (.slice ba D.bs.length bc) D.bs.length (css.flatMap id)) (by rw[←E.o];exact a.o.row)
    obtain⟨v5,w9,a1,a2,a3,a4,a5⟩:=yw (P:=prog) z w0.heap.size 79 79 94 5 104 _ zcf zd9 rfl (by decide) ah.o A D5.o D1.o (by have:=BL.o;omega) (by have:=BL.o;unfold maxLen;omega) a.o.fr.size
    obtain⟨B,C,a7⟩:=a2.slice.arg.form
    subst a7
    have A1:=J a1
    have O9:=@J (w9.ownsRow w0.heap.size 94 5 (.slice B (D.bs.length+1) C) (D.bs++[R.d]).length ((css++[A]).flatMap id)) (by rw[length_append,List.flatMap_append];simpa using a2)
    have F9:=@J (Fr (chV p U F G) z w9) (a3.mono (λj e=>.inr (.inr (.inr (by rw[E.o];exact e)))))
    have N9:=@J (∀j,(Value.slice B (D.bs.length+1) C).ownBlock=some j→G.ownBlock=some j∨z.heap.size≤j) (λj c=>by rw[E.o];exact a5 j c)
    have aP:=J a3
    have aE:=J (a3.obj a.o.obj (λe=>(a.o.rn p (by rw[E.o];exact e)).1 rfl))
    have aN:=@J (dq≠p∧¬chV p U F G dq) (⟨λe=>by have:=yu l.o.obj;omega,λe=>by have:=l.o.hi _ e;omega⟩)
    have aQ:=J (zb GR.o F9.o aN.o.2)
    clear a1 a2 a3 a4 a5
    have S:=aE.o
    rw[E.o] at S
    have aV:w9.cell? ⟨p,1,none⟩=some (.slice ba D.bs.length bc):=by have:=zm S 1 _ rfl;simpa using this
    have aM:=J aV
    have fz:=zW (i:=1) S
    have KS:=@J (∀w',Fr No z w'→w'.cell? ⟨p,1,none⟩=some (.slice ba D.bs.length bc)∧w'.rangeAt dq 0 A) (λw' f=>⟨f.cell CB.o id,zb GR.o f id⟩)
    have fs:Fr (λj=>j=p) w9 (w9.setCell ⟨p,1,none⟩ (.slice B (D.bs.length+1) C)):=(Fr.refl (λj=>j=p) w9).setCell ⟨p,1,none⟩ (.inr rfl) _
    have FT:=@J (Fr (chV p U F G) z (w9.setCell ⟨p,1,none⟩ (.slice B (D.bs.length+1) C))) (F9.o.trans fs (λj _ e=>.inl e))
    have av:=@J (Fr (chV p U F G) w (w9.setCell ⟨p,1,none⟩ (.slice B (D.bs.length+1) C))) ((ad.o.trans0 N.o).trans FT.o (λ_ _ h=>h))
    have VV:=@J (∀j,j<z.heap.size→chV p U F (.slice B (D.bs.length+1) C) j→chV p U F G j) (λj c e=>by
     rcases e with e|e|e|e
     ·exact .inl e
     ·exact .inr (.inl e)
     ·exact .inr (.inr (.inl e))
     ·exact .inr (.inr (.inr ((N9.o j e).resolve_right (by omega)))))
    have aw:=@J (Fr (λj=>(Value.slice ba D.bs.length bc).ownBlock=some j∨j=p) z (w9.setCell ⟨p,1,none⟩ (.slice B (D.bs.length+1) C))) ((aP.o.mono (λj e=>.inl e)).trans fs (λj _ e=>.inr e))
    have aL:=@J (qy w0 (w9.setCell ⟨p,1,none⟩ (.slice B (D.bs.length+1) C)) p s U F (.slice B (D.bs.length+1) C) (css++[A]) ⟨R.S,D.bs++[R.d],M7⟩) ({
     obj:=by have:=heap_setCell_same w9 p 1 _ _ (.slice B (D.bs.length+1) C) aE.o;simpa using this
     set:=a.o.set.frV aw.o (λj c e=>e.elim (λe=>(a.o.rn j (by rw[E.o];exact e)).2.2 c) (λe=>a.o.up (e▸c))) (λj e=>e.elim (λe=>(ah.o.lt j e).1) (λe=>by have:=a.o.lo1;omega))
     row:=zf O9.o fs (λj c e=>(N9.o j c).elim (λh=>(a.o.rn j h).1 e) (λh=>by have:=yu a.o.obj;omega))
     cl:=by rw[length_append,length_append,a.o.cl];rfl
     c5:=λcs h=>(mem_append.1 h).elim (λh=>a.o.c5 cs h) (λh=>by simp at h;subst h;exact D5.o)
     data:=λi d cs h1 O=>by
      by_cases hi:i<D.bs.length
      ·have ao:D.bs[i]? =some d:=by rw[←h1];exact(List.getElem?_append_left hi).symm
       have aq:css[i]? =some cs:=by rw[←O];exact(List.getElem?_append_left (by rw[a.o.cl];exact hi)).symm
       exact(a.o.data i d cs ao aq).step FT.o (λj c e=>VV.o j c e)
      ·have aY:i=D.bs.length:=by have:=(List.getElem?_eq_some_iff.1 h1).1;simp only[length_append,List.length_singleton] at this;omega
       subst aY
       have ao:R.d=d:=by
        have:=h1
        simp only[List.getElem?_append_right (le_refl _),Nat.sub_self,List.getElem?_cons_zero,Option.some.injEq] at this
        exact this
       have aq:A=cs:=by
        have:=O
        rw[List.getElem?_append_right (by rw[a.o.cl];exact le_refl _),a.o.cl] at this
        simpa using this
       subst ao
       subst aq
       exact(KD.o.same N.o.of0).step (FT.o.mono (λj e=>.inl e)) (λj c e=>.inl (VV.o j c e))
     map:=a.o.map.keep aw.o (λe=>e.elim (λe=>(a.o.rn F (by rw[E.o];exact e)).2.1 rfl) (λe=>a.o.pm e.symm))
     pm:=a.o.pm
     up:=a.o.up
     um:=a.o.um
     rn:=λk hk=>(N9.o k hk).elim (λh=>a.o.rn k h) (λh=>⟨λe=>by have:=yu a.o.obj;omega,λe=>by have:=a.o.map.lt;omega,λe=>by have:=a.o.set.hi k e;omega⟩)
     lo1:=a.o.lo1
     lo2:=a.o.lo2})
    repeat((first|(refine ym rfl ?_;constructor;constructor;(focus(first|exact yY (ty:=94) rfl (λw h=>h.2) uD rD (by rw[D5.o];exact Jv)|(rintro w' ⟨s1,s2⟩;exact goS))))|(refine yn rfl ?_));try simp only[Act.put,pA,pB,pC])
    (refine yf rfl (λK' hK'=>?_))
    refine yg (zL (t:=79) rfl rfl zcf zcL rfl (by decide) (by decide) D5.o) ?_
    refine hK'.out _ _ (λ_=>?_) (λhS=>?_)
    ·exact KS.o _ ((frN z).alloc _)
    try simp only[Act.put,pA,pB,pC]
    (refine yf rfl (λK' hK'=>?_))
    refine zQ rfl rfl rfl A1.o ?_
    refine hK'.out _ _ (λ_=>?_) (λhS=>?_)
    ·exact⟨aM.o,aQ.o⟩
    try simp only[Act.put,pA,pB,pC]
    repeat((first|(refine ym rfl ?_;constructor;constructor;(focus(first|(rintro w' ⟨s1,s2⟩;exact goS))))|(refine yn rfl ?_));try simp only[Act.put,pA,pB,pC])
    (refine yf rfl (λK' hK'=>?_))
    go_simp
    refine hK'.out _ _ (λh=>absurd rfl h) (λhS=>?_)
    refine qp (hK.out _ _ ?_)
    go_wp2_with fail
    go_ret
    exact⟨by rw[aA.o];rfl,av.o,λ_=>⟨_,_,M7,aL.o,af.o,λj c=>(N9.o j c).imp_right (λh=>le_trans (ad.o.trans0 N.o).size h),A,rfl,(KD.o.same N.o.of0).step (FT.o.mono (λj e=>.inl e)) (λj c e=>e.imp (λe=>VV.o j c e) .inr)⟩,λh=>absurd aA.o h⟩
end Go.Proofs.YtmpamcnlineceaaGreatDoor
