/- pool: looked. (Written by gen_looked.py.) -/
import Derived.Test.YtbcllfjmabiafaaGreatDoorPG17
import Derived.Test.YtbcllfjmabiafaaGreatDoorPG10
import Derived.Test.YtbcllfjmabiafaaGreatDoorPG9
import Derived.Test.YtbcllfjmabiafaaGreatDoorPG14
import Derived.Test.YtbcllfjmabiafaaGreatDoorPG8
import Derived.Test.YtbcllfjmabiafaaGreatDoorPG7
set_option linter.unusedVariables false
set_option linter.unusedSimpArgs false
set_option linter.unnecessarySimpa false
set_option linter.all false
set_option maxRecDepth 20000
set_option maxHeartbeats 16000000
namespace Go.Proofs.YtbcllfjmabiafaaGreatDoor
open Go Go.RowKit Go.Maps Go.MapKept
open Go.Proofs.Tryz(prog)
open List(mem_map getElem?_eq_getElem mem_filter getElem_of_mem)
open Nat(le_refl)
variable {cs:List Value} {n:Nat}
theorem zah {fn:Func} {p u v:Tmp} {ty:TypeId} (h:fn.results= #[.cell p ty,.tmp u,.tmp v]) (tmps:Array Value) (P:Program) (w:World):
  (results fn tmps).run P w=
   ((asAddr (tmps.getD p undef)).run P w).andThen λa b=>((loadVar ty a).run P b).andThen λx c=>.ok (.tuple #[x,tmps.getD u undef,tmps.getD v undef]) c:=by
 simp only[results,h]
 simp[Sem.run_bind,Result.andThen]
theorem qj {P:Program} {w:World} {fn:Func} {p u v:Tmp} {ty:TypeId} (h:fn.results= #[.cell p ty,.tmp u,.tmp v]) (tmps:Array Value) {g:Nat} {d:TypeDesc} {x y:Value} (b:tmps.getD p undef=.pointer (some ⟨g,0,none⟩)) (c:w.rangeAt g 0 cs)
  (e:P.underlying ty=some d) (a:d.isRow=true) (hi:(P.info? ty).map (·.size)=some cs.length) (f:tmps.getD u undef=x) (i:tmps.getD v undef=y):
  (results fn tmps).run P w=.ok (.tuple #[.agg cs.toArray,x,y]) w:=by
 rw[zah h,b,f,i]
 simp only[asAddr,Sem.run_pure,Result.andThen_ok,run_loadVar_mid w g 0 ty cs d c e a hi]
theorem Qj (w:World):(Instr.build 120 #[]).run prog w=.ok (.agg qJ.toArray) w:=by kernel_rfl
theorem zmh (f s:Int) (w:World):(Instr.build 118 #[(0,.int .u64 f),(1,.int .i64 s)]).run prog w=.ok (.agg [.int .u64 f,.int .i64 s].toArray) w:=by kernel_rfl
theorem zmf (v:Int) (a c:Option Addr) (n b m d:Nat) (f s:Int) (w:World):(Instr.build 120 #[(0,.agg #[.int .u32 v,.slice a n b,.slice c m d]),(1,.agg #[.int .u64 f,.int .i64 s])]).run prog w=.ok (.agg [.int .u32 v,.slice a n b,.slice c m d,.int .u64 f,.int .i64 s,.int .u64 0].toArray) w:=by kernel_rfl
theorem zmv {t:TxD} {prev:List yC} (h:Jc t prev=0):(jw prev).sum<18446744073709551616∧vq t.outs≤(jw prev).sum:=by
 unfold Jc at h
 by_cases h1:yR t=0
 ·rw[if_pos h1] at h
  by_cases h2:prev.length=t.ins.length
  ·rw[if_pos h2] at h
   by_cases h3:opens t.ins prev=true
   ·rw[if_pos h3] at h
    by_cases h4:(jw prev).sum<18446744073709551616
    ·rw[if_pos h4] at h
     by_cases h5:vq t.outs≤(jw prev).sum
     ·exact⟨h4,h5⟩
     ·rw[if_neg h5] at h;cases h
    ·rw[if_neg h4] at h;cases h
   ·rw[if_neg h3] at h;cases h
  ·rw[if_neg h2] at h;cases h
 ·rw[if_neg h1] at h;exact absurd h h1
theorem zd1 {t:TxD} {prev:List yC} (f:∀x∈prev,x.ok) (a:∀x∈t.outs,x.ok):0≤Jp t prev∧Jp t prev≤18446744073709551615:=by
 unfold Jp
 by_cases h:Jc t prev=0
 ·rw[if_pos h]
  obtain⟨c,e⟩:=zmv h
  have d:=zar (l:=t.outs) (λx b=>(a x b).1.1)
  omega
 ·rw[if_neg h]
  omega
theorem YE {t:TxD} (h:qK t=true):0≤vF t∧vF t≤1200:=by
 obtain⟨a,b,c⟩:=xe.1 h
 have d:=ze3 a
 have e:vF t=6+37*(t.ins.length:Int)+40*(t.outs.length:Int)+Ya t.ins:=rfl
 omega
theorem zny (v:Int) (c e:Option Addr) (n d m h:Nat) (f s a:Int):∀u∈[Value.int .u32 v,.slice c n d,.slice e m h,.int .u64 f,.int .i64 s,.int .u64 a],u.oneCell'=true:=by
 intro u b
 simp only[List.mem_cons,List.not_mem_nil,or_false] at b
 rcases b with rfl|rfl|rfl|rfl|rfl|rfl<;>rfl
def YP (w:World) (S:List zn) (I:List zf) (L:List zL) (t:TxD) (cs:List Value) (e:Ending) (w':World):Prop:=
 ∃(ecs:List Value) (pv:Value),e=.returned (.tuple #[.agg ecs.toArray,pv,.int .i64 (xX S I L t)])∧Fr No w w'∧(ecs.length=6∧∀v∈ecs,v.oneCell'=true)∧
  (xX S I L t=0→ecs=cs++[.int .u64 (Jp t (xj S L t)),.int .i64 (vF t),.int .u64 0]∧w'.ownsRow w.heap.size 45 32 pv (xz L t).length ((xz L t).flatMap zd))
theorem YP.bad {w w':World} {S:List zn} {I:List zf} {L:List zL} {t:TxD} {c:Int} (h:xX S I L t=c) (b:c≠0) (f:Fr No w w') (a:Value):YP w S I L t cs (.returned (.tuple #[.agg qJ.toArray,a,.int .i64 c])) w':=
 ⟨qJ,a,by rw[h],f,⟨rfl,J1⟩,λe=>absurd (h.symm.trans e) b⟩
section
variable {w0 w:World} {p ma ms g N:Nat} {VG X:Nat→Prop} {C:zf→List Value} {L:List zL}
theorem zce (hg:vp w) (h:yn w0 w p ma ms g VG X C L N) (aV:N≤900) {w1:World} {pc:Nat} {VC:Nat→Prop} {S:List zn} {bs:List yx} {I:List zf} (hc:Cn w1 w pc VC S bs I) (hS:∀c∈S,c.ok) {t:TxD} (ht:TxQ w t cs) (aw:yR t=0):
  Calls prog 48 #[.pointer (some ⟨p,0,none⟩),.pointer (some ⟨pc,0,none⟩),.agg (zd (idH t)).toArray,.agg cs.toArray] w (YP w S I L t cs):=by
 obtain⟨dE,uE,rE⟩:=zg7
 have ze:=show ∀w,(zeroValue 120).run prog w=.ok (.agg qJ.toArray) w from QS
 obtain⟨aH,-,-,-,-,-⟩:=jd aw
 obtain⟨aT,aL,aU⟩:=xe.1 aH
 obtain⟨x,hx⟩:∃x,x=idH t:=⟨_,rfl⟩
 have aE:=@Hd (zV x) (by rw[hx];exact jJ t)
 have T:=Hd (zu aE.o)
 obtain⟨U,V,W,Y,rfl⟩:=ht.form
 have f1:Fr No w (w.alloc (.cells (zd x).toArray 45)):=(frN w).alloc _
 have f2:Fr No (w.alloc (.cells (zd x).toArray 45)) ((w.alloc (.cells (zd x).toArray 45)).alloc (.cells #[.int .u32 t.ver,.slice U t.ins.length V,.slice W t.outs.length Y] 27)):=(frN _).alloc _
 have s:Fr No ((w.alloc (.cells (zd x).toArray 45)).alloc (.cells #[.int .u32 t.ver,.slice U t.ins.length V,.slice W t.outs.length Y] 27)) (((w.alloc (.cells (zd x).toArray 45)).alloc (.cells #[.int .u32 t.ver,.slice U t.ins.length V,.slice W t.outs.length Y] 27)).alloc (.cells qJ.toArray 120)).drew:=((frN _).alloc _).drew
 have F1:=Hd ((f1.trans0 f2).trans0 s)
 have RH:=Hd (za (zq w (zd x) 45) (f2.trans0 s) id)
 have RT:=@Hd ((((w.alloc (.cells (zd x).toArray 45)).alloc (.cells #[.int .u32 t.ver,.slice U t.ins.length V,.slice W t.outs.length Y] 27)).alloc (.cells qJ.toArray 120)).drew.rangeAt (w.heap.size+1) 0 [.int .u32 t.ver,.slice U t.ins.length V,.slice W t.outs.length Y]) (by
  have:=za (zq (w.alloc (.cells (zd x).toArray 45)) [.int .u32 t.ver,.slice U t.ins.length V,.slice W t.outs.length Y] 27) s id
  simpa using this)
 have BE:=@Hd ((((w.alloc (.cells (zd x).toArray 45)).alloc (.cells #[.int .u32 t.ver,.slice U t.ins.length V,.slice W t.outs.length Y] 27)).alloc (.cells qJ.toArray 120)).drew.heap[w.heap.size+2]? =some (.cells qJ.toArray 120 (0,0))) ((frN _).drew.obj (yU ((w.alloc (.cells (zd x).toArray 45)).alloc (.cells #[.int .u32 t.ver,.slice U t.ins.length V,.slice W t.outs.length Y] 27)) (.cells qJ.toArray 120) (n:=w.heap.size+2) (by simp)) id)
 have Z:=Hd ht
 have HG:=Hd hg
 have HH:=Hd h
 have HC:=Hd hc
 have HS:=Hd hS
 obtain⟨M,hM,hm⟩:=h.am
 have HM:=Hd (hM.keep F1.o id)
 have CP:=Hd (λw' (f:Fr No w w')=>(h.fr0 f).cells)
 have LK:=Hd (λw' (h':xR w' ma M)=>zcd (w:=w') aE.o h' hm true)
 obtain⟨y,hy⟩:∃y,Yp C L x=y∧y.length=6∧∀v∈y,v.oneCell'=true:=⟨_,rfl,zeJ h x⟩
 have YL:=Hd hy.2.1
 have YO:=Hd hy.2.2
 rw[hy.1] at LK
 have aA:=@Hd (decide (x∈zR L)=decide (idH t∈zR L)) (by rw[hx])
 generalize aS:decide (x∈zR L)=bb at LK
 have HX:=Hd hx
 have FM:=Hd aH
 have D:=@Hd (t.ins.length≤8) (aL)
 clear h hM hm hy ht hg hc hS f1 f2 s aT aL aU aH aw
 show Calls prog 48 #[.pointer (some ⟨p,0,none⟩),.pointer (some ⟨pc,0,none⟩),.agg (zd (idH t)).toArray,.agg #[.int .u32 t.ver,.slice U t.ins.length V,.slice W t.outs.length Y]] w _
 rw[←hx]
 clear hx
 go_enter Tryz.func48,Tryz.ntmps48
 go_wp2_with fail
 generalize hq:w.heap.size=q at*
 generalize aM:((w.alloc (.cells (zd x).toArray 45)).alloc (.cells #[.int .u32 t.ver,.slice U t.ins.length V,.slice W t.outs.length Y] 27)).alloc (.cells qJ.toArray 120)=wz at*
 have ZQ:=@Hd (wz.drew.heap.size=q+3) (by show wz.heap.size=q+3;rw[←aM,←hq];simp)
 clear aM
 refine wrLx [ff,ff,ff,ff,ff,ff,ff,ff,ff,tt,tt,ff] (λw'=>w'.cell? ⟨p,0,none⟩=some (.map (some ma))∧w'.rangeAt q 0 (zd x)∧xR w' ma M) ?_ (λK hK=>?_)
 ·exact⟨(CP.o _ F1.o).1,RH.o,HM.o⟩
 generalize wz.drew=wd at*
 repeat((first|(refine zk rfl ?_;constructor;constructor;(focus(first|exact zn0 rfl (λw h=>h.2.1) T.o|exact λw' h=>zY (t:=113) rfl rfl rfl (LK.o w' h.2.2)|(rintro w' ⟨s1,s2,s3⟩;exact goS))))|(refine zl rfl ?_));try simp only[Act.put,pA,pB,pC])
 (refine zM rfl (λK' hK'=>?_))
 refine yD (xH rfl (QS _)) ?_
 have FE:=Hd ((frN wd).alloc (.cells qJ.toArray 120))
 refine nXt hK' ?_ λhS=>?_
 ·exact⟨FE.o.cell (CP.o _ F1.o).1 id,za RH.o FE.o id,HM.o.keep FE.o id⟩
 try simp only[Act.put,pA,pB,pC]
 (refine zM rfl (λK' hK'=>?_))
 refine xp (zj (w:=wd) (ty:=120) (cs:=y) rfl rfl rfl (by rw[YL.o];rfl) (by rw[YL.o];exact qm) YO.o) ?_
 have FY:=Hd ((frN wd).alloc (.cells y.toArray 120))
 refine nXt hK' ?_ λhS=>?_
 ·exact⟨FY.o.cell (CP.o _ F1.o).1 id,za RH.o FY.o id,HM.o.keep FY.o id⟩
 try simp only[Act.put]
 repeat((first|(refine zk rfl ?_;constructor;constructor;(focus(first|(rintro w' -;exact goS))))|(refine zl rfl ?_));try simp only[Act.put,pA,pB,pC])
 refine zN (hK.out _ _ ?_)
 have ab:=Hd (za RH.o FY.o id)
 have ad:=Hd (za RT.o FY.o id)
 have G:=Hd (FY.o.obj BE.o id)
 have r:=Hd (F1.o.trans0 FY.o)
 have Z2:=@Hd (q+3≤(wd.alloc (.cells y.toArray 120)).heap.size) (by have:=FY.o.size;have:=ZQ.o;omega)
 clear HM LK RH RT BE CP
 generalize wd.alloc (.cells y.toArray 120)=w2 at*
 have HP:=Hd (Vq (HH.o.fr0 r.o) (HC.o.fr0 r.o) HS.o (Z.o.keep r.o) (by have:=D.o;omega))
 have HD:=Hd (zhY (HC.o.fr0 r.o) aE.o)
 rw[show decide (x∈I)=decide (idH t∈I) by rw[HX.o]] at HD
 rw[aS] at aA
 by_cases c1:idH t∈zR L
 ·have aG:bb=true:=by rw[aA.o];exact decide_eq_true c1
  have LE:=@Hd (xX S I L t=10) (by unfold xX;rw[if_pos c1])
  subst aG
  clear c1
  have⟨K0,K1⟩:=tZ2
  go_wp2_with ((first|((with_reducible refine zt ?_);clear K0;with_reducible refine yg 29 ?_;refine zg rfl (yv (t:=120) rfl rfl (Qj _)) ?_)|((with_reducible refine zr ?_);clear K1;refine zi rfl (zU (ty:=120) (b:=q+2) (off:=0) (cs:=qJ) rfl rfl rfl (yb G.o (le_refl 6)) qm J1) ?_));go_frame)
  refine bodyPost_ret (qj (P:=prog) (fn:=Tryz.f48) rfl _ rfl (yB G.o rfl) uE rE qm rfl rfl) rfl (YP.bad LE.o (by decide) ((r.o).trans (zy (q+2) qJ 0 w2) (λi hi e=>by omega)) _)
 have aG:bb=false:=by rw[aA.o];exact decide_eq_false c1
 subst aG
 by_cases c2:idH t∈I
 ·have LE:=@Hd (xX S I L t=19) (by unfold xX;rw[if_neg c1,if_pos c2])
  have hd:decide (idH t∈I)=true:=decide_eq_true c2
  rw[hd] at HD
  clear c1 c2 hd
  have⟨K0,K1,K2,K3⟩:=tZ4
  go_wp2_with ((first|((with_reducible refine zt ?_);first|(clear K0;with_reducible refine yg 31 ?_;refine znV rfl rfl rfl ab.o T.o ?_)|(clear K2;with_reducible refine yg 33 ?_;refine zg rfl (yv (t:=120) rfl rfl (Qj _)) ?_))|(clear K1;go_at_call 83;refine HD.o.mono ?_;rintro e w3 ⟨rfl,s⟩;have m:=Hd s;clear s;have k:=Hd (za ad.o m.o id);have l:=Hd (m.o.obj G.o id);have a:=Hd (r.o.trans0 m.o);have A:=Hd (Vq (HH.o.fr0 a.o) (HC.o.fr0 a.o) HS.o (Z.o.keep a.o) (by have:=D.o;omega)))|((with_reducible refine zr ?_);clear K3;refine zi rfl (zU (ty:=120) (b:=q+2) (off:=0) (cs:=qJ) rfl rfl rfl (yb l.o (le_refl 6)) qm J1) ?_));go_frame)
  refine bodyPost_ret (qj (P:=prog) (fn:=Tryz.f48) rfl _ rfl (yB l.o rfl) uE rE qm rfl rfl) rfl (YP.bad LE.o (by decide) ((a.o).trans (zy (q+2) qJ 0 w3) (λi hi e=>by omega)) _)
 have hd:decide (idH t∈I)=false:=decide_eq_false c2
 rw[hd] at HD
 clear hd
 by_cases c3:Jy S L t=0
 rotate_left
 ·have LE:=@Hd (xX S I L t=Jy S L t) (by unfold xX;rw[if_neg c1,if_neg c2,if_pos c3])
  have je:(Jy S L t==0)=false:=by simpa using c3
  have NE:=Hd c3
  clear c1 c2 c3
  have⟨K0,K1,K2,K3,K4,K5⟩:=tZ6
  go_wp2_with ((first|((with_reducible refine zt ?_);first|(clear K0;with_reducible refine yg 31 ?_;refine znV rfl rfl rfl ab.o T.o ?_)|(clear K2;refine znT rfl rfl rfl k.o rfl ?_)|(clear K4;with_reducible refine yg 44 ?_;refine zg rfl (yv (t:=120) rfl rfl (Qj _)) ?_))|(clear K1;go_at_call 83;refine HD.o.mono ?_;rintro e w3 ⟨rfl,s⟩;have m:=Hd s;clear s;have k:=Hd (za ad.o m.o id);have l:=Hd (m.o.obj G.o id);have a:=Hd (r.o.trans0 m.o);have A:=Hd (Vq (HH.o.fr0 a.o) (HC.o.fr0 a.o) HS.o (Z.o.keep a.o) (by have:=D.o;omega)))|(clear K3;go_at_call 84;refine A.o.mono ?_;rintro e w4 ⟨ov,pv,rfl,f4,hz⟩;clear hz;have B:=Hd f4;clear f4;have o:=Hd (za k.o B.o id);have u:=Hd (B.o.obj l.o id);have d:=Hd (a.o.trans0 B.o))|((with_reducible refine zr ?_);clear K5;refine zi rfl (zU (ty:=120) (b:=q+2) (off:=0) (cs:=qJ) rfl rfl rfl (yb u.o (le_refl 6)) qm J1) ?_));go_frame)
  refine bodyPost_ret (qj (P:=prog) (fn:=Tryz.f48) rfl _ rfl (yB u.o rfl) uE rE qm rfl rfl) rfl (YP.bad LE.o NE.o ((d.o).trans (zy (q+2) qJ 0 w4) (λi hi e=>by omega)) _)
 have an:=@Hd (∀(pv ov:Value) w' (w3s:Nat),(Jy S L t=0→xg w' ov (xj S L t)∧w'.ownsRow w3s 45 32 pv (xz L t).length ((xz L t).flatMap zd))→xg w' ov (xj S L t)∧w'.ownsRow w3s 45 32 pv (xz L t).length ((xz L t).flatMap zd)) (λ_ _ _ _ h=>h c3)
 unfold zay at HP
 rw[c3] at HP
 have ao:=@Hd ((xj S L t).length≤1000) (by unfold xj;rw[List.length_map,jP];have:=D.o;omega)
 have aJ:=@Hd ((xz L t).length≤1000) (by have:=zfl L t;have:=D.o;omega)
 have ar:=Hd c3
 by_cases c4:Jc t (xj S L t)=0
 rotate_left
 ·have LE:=@Hd (xX S I L t=Jc t (xj S L t)) (by unfold xX;rw[if_neg c1,if_neg c2,if_neg (by simp[c3]),if_pos c4])
  have je:(Jc t (xj S L t)==0)=false:=by simpa using c4
  have NE:=Hd c4
  clear c1 c2 c3 c4
  have⟨K0,K1,K2,K3,K4,K5,K6,K7⟩:=tZ8
  go_wp2_with ((first|((with_reducible refine zt ?_);first|(clear K0;with_reducible refine yg 31 ?_;refine znV rfl rfl rfl ab.o T.o ?_)|(clear K2;refine znT rfl rfl rfl k.o rfl ?_)|(clear K4;refine znT rfl rfl rfl o.o rfl ?_)|(clear K6;with_reducible refine yg 54 ?_;refine zg rfl (yv (t:=120) rfl rfl (Qj _)) ?_))|(clear K1;go_at_call 83;refine HD.o.mono ?_;rintro e w3 ⟨rfl,s⟩;have m:=Hd s;clear s;have k:=Hd (za ad.o m.o id);have l:=Hd (m.o.obj G.o id);have a:=Hd (r.o.trans0 m.o);have A:=Hd (Vq (HH.o.fr0 a.o) (HC.o.fr0 a.o) HS.o (Z.o.keep a.o) (by have:=D.o;omega)))|(clear K3;go_at_call 84;refine A.o.mono ?_;rintro e w4 ⟨ov,pv,rfl,f4,hz⟩;rw[ar.o];have HZ:=Hd (an.o pv ov w4 _ hz);clear hz;have B:=Hd f4;clear f4;have o:=Hd (za k.o B.o id);have u:=Hd (B.o.obj l.o id);have d:=Hd (a.o.trans0 B.o);have R:=Hd (Zt (HG.o.keep0 d.o) (Z.o.keep d.o) HZ.o.1 ao.o))|(clear K5;go_at_call 41;refine R.o.mono ?_;rintro e w5 ⟨rfl,f5⟩;have O:=Hd f5;clear f5;have E:=Hd (za o.o O.o id);have H:=Hd (O.o.obj u.o id);have z:=Hd (d.o.trans0 O.o))|((with_reducible refine zr ?_);clear K7;refine zi rfl (zU (ty:=120) (b:=q+2) (off:=0) (cs:=qJ) rfl rfl rfl (yb H.o (le_refl 6)) qm J1) ?_));go_frame)
  refine bodyPost_ret (qj (P:=prog) (fn:=Tryz.f48) rfl _ rfl (yB H.o rfl) uE rE qm rfl rfl) rfl (YP.bad LE.o NE.o ((z.o).trans (zy (q+2) qJ 0 w5) (λi hi e=>by omega)) _)
 have ax:=Hd c4
 obtain⟨sz,av⟩:=Int.eq_ofNat_of_zero_le (YE FM.o).1
 have SZ:=Hd av
 have aQ:=@Hd (sz≤1200) (by have:=(YE FM.o).2;omega)
 have ay:=Hd (λw=>zdh sz (by have:=aQ.o;omega) w)
 by_cases c5:Jp t (xj S L t)<Jq (vF t)
 ·have LE:=@Hd (xX S I L t=17) (by unfold xX;rw[if_neg c1,if_neg c2,if_neg (by simp[c3]),if_neg (by simp[c4]),if_pos c5])
  rw[av] at c5
  generalize ae:Jp t (xj S L t)=FR at*
  generalize Jq (sz:Int)=FF at*
  clear c1 c2 c3 c4
  have⟨K0,K1,K2,K3,K4,K5,K6,K7,K8,K9,aj⟩:=tZ11
  go_wp2_with ((first|((with_reducible refine zt ?_);first|(clear K0;with_reducible refine yg 31 ?_;refine znV rfl rfl rfl ab.o T.o ?_)|(clear K2;refine znT rfl rfl rfl k.o rfl ?_)|(clear K4;refine znT rfl rfl rfl o.o rfl ?_)|(clear K6;refine znT rfl rfl rfl E.o rfl ?_)|(clear K9;with_reducible refine yg 65 ?_;refine zg rfl (yv (t:=120) rfl rfl (Qj _)) ?_))|(clear K1;go_at_call 83;refine HD.o.mono ?_;rintro e w3 ⟨rfl,s⟩;have m:=Hd s;clear s;have k:=Hd (za ad.o m.o id);have l:=Hd (m.o.obj G.o id);have a:=Hd (r.o.trans0 m.o);have A:=Hd (Vq (HH.o.fr0 a.o) (HC.o.fr0 a.o) HS.o (Z.o.keep a.o) (by have:=D.o;omega)))|(clear K3;go_at_call 84;refine A.o.mono ?_;rintro e w4 ⟨ov,pv,rfl,f4,hz⟩;rw[ar.o];have HZ:=Hd (an.o pv ov w4 _ hz);clear hz;have B:=Hd f4;clear f4;have o:=Hd (za k.o B.o id);have u:=Hd (B.o.obj l.o id);have d:=Hd (a.o.trans0 B.o);have R:=Hd (Zt (HG.o.keep0 d.o) (Z.o.keep d.o) HZ.o.1 ao.o))|(clear K5;go_at_call 41;refine R.o.mono ?_;rintro e w5 ⟨rfl,f5⟩;rw[ax.o,ae];have O:=Hd f5;clear f5;have E:=Hd (za o.o O.o id);have H:=Hd (O.o.obj u.o id);have z:=Hd (d.o.trans0 O.o);have ai:=Hd (zao w5 (Z.o.keep z.o) FM.o))|(clear K7;go_at_call 42;refine ai.o.mono ?_;rintro e w6 ⟨rfl,f6⟩;rw[SZ.o];have F6:=Hd f6;clear f6;have al:=Hd (za E.o F6.o id);have af:=Hd (F6.o.obj H.o id);have ah:=Hd (z.o.trans0 F6.o))|(clear K8;go_at_call 43;refine(ay.o _).mono ?_;rintro e w7 ⟨rfl,f7⟩;have F7:=Hd f7;clear f7;have aq:=Hd (za al.o F7.o id);have aa:=Hd (F7.o.obj af.o id);have Q:=Hd (ah.o.trans0 F7.o))|((with_reducible refine zr ?_);clear aj;refine zi rfl (zU (ty:=120) (b:=q+2) (off:=0) (cs:=qJ) rfl rfl rfl (yb aa.o (le_refl 6)) qm J1) ?_));go_frame)
  refine bodyPost_ret (qj (P:=prog) (fn:=Tryz.f48) rfl _ rfl (yB aa.o rfl) uE rE qm rfl rfl) rfl (YP.bad LE.o (by decide) ((Q.o).trans (zy (q+2) qJ 0 w7) (λi hi e=>by omega)) _)
 have au:(upS (gOf L) (xz L t)).length≤1000:=by have:=xB (HH.o.gr.gok.nd.sublist (qk (xz L t))) (λx hx=>(qk (xz L t)).subset hx);have:=HH.o.gr.len;rw[yO] at*;simp[zR,gOf] at*;omega
 by_cases c6:6≤(upS (gOf L) (xz L t)).length
 ·have LE:=@Hd (xX S I L t=16) (by unfold xX;rw[if_neg c1,if_neg c2,if_neg (by simp[c3]),if_neg (by simp[c4]),if_neg c5,if_pos c6])
  rw[av] at c5
  generalize ae:Jp t (xj S L t)=FR at*
  generalize Jq (sz:Int)=FF at*
  have aN:=Hd au
  generalize aF:upS (gOf L) (xz L t)=UU at*
  have i6:¬(UU.length:Int)<6:=by omega
  clear c1 c2 c3 c4 au
  have⟨K0,K1,K2,K3,K4,K5,K6,K7,K8,K9,aj,aC⟩:=tZ12
  go_wp2_with ((first|((with_reducible refine zt ?_);first|(clear K0;with_reducible refine yg 31 ?_;refine znV rfl rfl rfl ab.o T.o ?_)|(clear K2;refine znT rfl rfl rfl k.o rfl ?_)|(clear K4;refine znT rfl rfl rfl o.o rfl ?_)|(clear K6;refine znT rfl rfl rfl E.o rfl ?_)|(clear aj;with_reducible refine yg 74 ?_;refine zg rfl (yv (t:=120) rfl rfl (Qj _)) ?_))|(clear K1;go_at_call 83;refine HD.o.mono ?_;rintro e w3 ⟨rfl,s⟩;have m:=Hd s;clear s;have k:=Hd (za ad.o m.o id);have l:=Hd (m.o.obj G.o id);have a:=Hd (r.o.trans0 m.o);have A:=Hd (Vq (HH.o.fr0 a.o) (HC.o.fr0 a.o) HS.o (Z.o.keep a.o) (by have:=D.o;omega)))|(clear K3;go_at_call 84;refine A.o.mono ?_;rintro e w4 ⟨ov,pv,rfl,f4,hz⟩;rw[ar.o];have HZ:=Hd (an.o pv ov w4 _ hz);clear hz;have B:=Hd f4;clear f4;have o:=Hd (za k.o B.o id);have u:=Hd (B.o.obj l.o id);have d:=Hd (a.o.trans0 B.o);have R:=Hd (Zt (HG.o.keep0 d.o) (Z.o.keep d.o) HZ.o.1 ao.o))|(clear K5;go_at_call 41;refine R.o.mono ?_;rintro e w5 ⟨rfl,f5⟩;rw[ax.o,ae];have O:=Hd f5;clear f5;have E:=Hd (za o.o O.o id);have H:=Hd (O.o.obj u.o id);have z:=Hd (d.o.trans0 O.o);have ai:=Hd (zao w5 (Z.o.keep z.o) FM.o))|(clear K7;go_at_call 42;refine ai.o.mono ?_;rintro e w6 ⟨rfl,f6⟩;rw[SZ.o];have F6:=Hd f6;clear f6;have al:=Hd (za E.o F6.o id);have af:=Hd (F6.o.obj H.o id);have ah:=Hd (z.o.trans0 F6.o))|(clear K8;go_at_call 43;refine(ay.o _).mono ?_;rintro e w7 ⟨rfl,f7⟩;have F7:=Hd f7;clear f7;have aq:=Hd (za al.o F7.o id);have aa:=Hd (F7.o.obj af.o id);have Q:=Hd (ah.o.trans0 F7.o);have P7:=Hd (HH.o.fr0 Q.o);have ak:=Hd (zb HZ.o.2 ((O.o.trans0 F6.o).trans0 F7.o) (λ_ _=>id));have aB:=Hd (y4.own ak.o (λx hx=>HH.o.ids x (Jg hx)));have aR:=P7.o.cells.2.2;have HU:=Hd (zlI P7.o.gr (by omega) aB.o aJ.o))|(clear K9;go_at_call 85;refine HU.o.mono ?_;rintro e w8 ⟨uv,rfl,F⟩;rw[aF] at F;obtain⟨ua,uc,aI⟩:=F.1.slice.arg.form;subst aI;have F8:=Hd F.2;clear F;have aK:=Hd (za aq.o F8.o id);have ag:=Hd (F8.o.obj aa.o id);have az:=Hd (Q.o.trans0 F8.o);have aD:=Hd (zb ak.o F8.o (λ_ _=>id)))|((with_reducible refine zr ?_);clear aC;refine zi rfl (zU (ty:=120) (b:=q+2) (off:=0) (cs:=qJ) rfl rfl rfl (yb ag.o (le_refl 6)) qm J1) ?_));go_frame)
  refine bodyPost_ret (qj (P:=prog) (fn:=Tryz.f48) rfl _ rfl (yB ag.o rfl) uE rE qm rfl rfl) rfl (YP.bad LE.o (by decide) ((az.o).trans (zy (q+2) qJ 0 w8) (λi hi e=>by omega)) _)
 ·have LE:=@Hd (xX S I L t=0) (by unfold xX;rw[if_neg c1,if_neg c2,if_neg (by simp[c3]),if_neg (by simp[c4]),if_neg c5,if_neg c6])
  rw[av] at c5
  generalize ae:Jp t (xj S L t)=FR at*
  generalize Jq (sz:Int)=FF at*
  have aN:=Hd au
  generalize aF:upS (gOf L) (xz L t)=UU at*
  have i6:(UU.length:Int)<6:=by omega
  have i7:¬6≤UU.length:=c6
  clear c1 c2 c3 c4 au
  have⟨K0,K1,K2,K3,K4,K5,K6,K7,K8,K9,aj,aC,aO,aP⟩:=tZ14
  go_wp2_with ((first|((with_reducible refine zt ?_);first|(clear K0;with_reducible refine yg 31 ?_;refine znV rfl rfl rfl ab.o T.o ?_)|(clear K2;refine znT rfl rfl rfl k.o rfl ?_)|(clear K4;refine znT rfl rfl rfl o.o rfl ?_)|(clear K6;refine znT rfl rfl rfl E.o rfl ?_)|(clear aj;refine znT rfl rfl rfl aK.o rfl ?_)|(clear aC;with_reducible refine yg 78 ?_;refine zg rfl (yv (t:=118) rfl rfl (zmh FR sz _)) ?_)|(clear aO;with_reducible refine yg 79 ?_;refine zg rfl (yv (t:=120) rfl rfl (zmf t.ver U W t.ins.length V t.outs.length Y FR sz _)) ?_))|(clear K1;go_at_call 83;refine HD.o.mono ?_;rintro e w3 ⟨rfl,s⟩;have m:=Hd s;clear s;have k:=Hd (za ad.o m.o id);have l:=Hd (m.o.obj G.o id);have a:=Hd (r.o.trans0 m.o);have A:=Hd (Vq (HH.o.fr0 a.o) (HC.o.fr0 a.o) HS.o (Z.o.keep a.o) (by have:=D.o;omega)))|(clear K3;go_at_call 84;refine A.o.mono ?_;rintro e w4 ⟨ov,pv,rfl,f4,hz⟩;rw[ar.o];have HZ:=Hd (an.o pv ov w4 _ hz);clear hz;have B:=Hd f4;clear f4;have o:=Hd (za k.o B.o id);have u:=Hd (B.o.obj l.o id);have d:=Hd (a.o.trans0 B.o);have R:=Hd (Zt (HG.o.keep0 d.o) (Z.o.keep d.o) HZ.o.1 ao.o))|(clear K5;go_at_call 41;refine R.o.mono ?_;rintro e w5 ⟨rfl,f5⟩;rw[ax.o,ae];have O:=Hd f5;clear f5;have E:=Hd (za o.o O.o id);have H:=Hd (O.o.obj u.o id);have z:=Hd (d.o.trans0 O.o);have ai:=Hd (zao w5 (Z.o.keep z.o) FM.o))|(clear K7;go_at_call 42;refine ai.o.mono ?_;rintro e w6 ⟨rfl,f6⟩;rw[SZ.o];have F6:=Hd f6;clear f6;have al:=Hd (za E.o F6.o id);have af:=Hd (F6.o.obj H.o id);have ah:=Hd (z.o.trans0 F6.o))|(clear K8;go_at_call 43;refine(ay.o _).mono ?_;rintro e w7 ⟨rfl,f7⟩;have F7:=Hd f7;clear f7;have aq:=Hd (za al.o F7.o id);have aa:=Hd (F7.o.obj af.o id);have Q:=Hd (ah.o.trans0 F7.o);have P7:=Hd (HH.o.fr0 Q.o);have ak:=Hd (zb HZ.o.2 ((O.o.trans0 F6.o).trans0 F7.o) (λ_ _=>id));have aB:=Hd (y4.own ak.o (λx hx=>HH.o.ids x (Jg hx)));have aR:=P7.o.cells.2.2;have HU:=Hd (zlI P7.o.gr (by omega) aB.o aJ.o))|(clear K9;go_at_call 85;refine HU.o.mono ?_;rintro e w8 ⟨uv,rfl,F⟩;rw[aF] at F;obtain⟨ua,uc,aI⟩:=F.1.slice.arg.form;subst aI;have F8:=Hd F.2;clear F;have aK:=Hd (za aq.o F8.o id);have ag:=Hd (F8.o.obj aa.o id);have az:=Hd (Q.o.trans0 F8.o);have aD:=Hd (zb ak.o F8.o (λ_ _=>id)))|((with_reducible refine zr ?_);clear aP;refine zi rfl (zU (ty:=120) (b:=q+2) (off:=0) (cs:=[.int .u32 t.ver,.slice U t.ins.length V,.slice W t.outs.length Y,.int .u64 FR,.int .i64 sz,.int .u64 0]) rfl rfl rfl (yb ag.o (le_refl 6)) qm (zny _ _ _ _ _ _ _ _ _ _)) ?_));go_frame)
  refine bodyPost_ret (qj (P:=prog) (fn:=Tryz.f48) rfl _ rfl (yB (cs:=[.int .u32 t.ver,.slice U t.ins.length V,.slice W t.outs.length Y,.int .u64 FR,.int .i64 sz,.int .u64 0]) ag.o rfl) uE rE qm rfl rfl) rfl ⟨_,_,by rw[LE.o];rfl,az.o.trans (zy (q+2) [.int .u32 t.ver,.slice U t.ins.length V,.slice W t.outs.length Y,.int .u64 FR,.int .i64 sz,.int .u64 0] 0 w8) (λi hi e=>by omega),⟨rfl,zny _ _ _ _ _ _ _ _ _ _⟩,λ_=>⟨by rw[ae,SZ.o];rfl,yu (zb aD.o (zy (q+2) [.int .u32 t.ver,.slice U t.ins.length V,.slice W t.outs.length Y,.int .u64 FR,.int .i64 sz,.int .u64 0] 0 w8) (λj hj e=>by have:=(aD.o.lt j hj).1;have:=m.o.size;have:=Z2.o;omega)) (by rw[hq];have:=m.o.size;have:=Z2.o;omega)⟩⟩
end
structure JR (w0 w:World) (p ma ms g:Nat) (X:Nat→Prop) (C:zf→List Value) (L:List zL):Prop where
 obj:w.heap[p]? =some (.cells #[.map (some ma),.map (some ms),.pointer (some ⟨g,0,none⟩)] 117 (0,0))
 am:∃M,xR w ma M∧∀x cs,(x,cs)∈M↔∃e∈L,e.id=x∧cs=C x
 sm:∃M,za3 w ms M∧∀q x,(q,x)∈M↔∃e∈L,q∈z6 e.tx∧e.id=x
 data:∀e∈L,Kept X w (λw=>zhG w e (C e.id))
 apart:p≠ma∧p≠ms∧ma≠ms
 lo3:w0.heap.size≤p∧w0.heap.size≤ma∧w0.heap.size≤ms
 subX:X ma∧X ms
 fr:Fr No w0 w
 ok:∀x∈zR L,zV x
section
variable {w0 w w':World} {p ma ms g N:Nat} {VG X:Nat→Prop} {C:zf→List Value} {L:List zL}
theorem yn.m (h:yn w0 w p ma ms g VG X C L N):JR w0 w p ma ms g X C L:=
 ⟨h.obj,h.am,h.sm,h.data,⟨h.apart.1,h.apart.2.1,h.apart.2.2.1⟩,h.lo3,⟨h.sub _ (.inr (.inl rfl)),h.sub _ (.inr (.inr (.inl rfl)))⟩,h.fr,h.ids⟩
theorem JR.at_ (h:JR w0 w p ma ms g X C L) (b:GC w0 w g VG (gOf L) N) (a:¬VG p∧¬VG ma∧¬VG ms) (c:∀j,poV p ma ms VG j→X j):yn w0 w p ma ms g VG X C L N:=
 ⟨h.obj,b,h.am,h.sm,h.data,⟨h.apart.1,h.apart.2.1,h.apart.2.2,a⟩,h.lo3,c⟩
theorem JR.frV (h:JR w0 w p ma ms g X C L) {U X':Nat→Prop} (f:Fr U w w') (b:¬U p∧¬U ma∧¬U ms) (k:∀j,U j→w0.heap.size≤j) (c:∀j,U j→X j) (m:∀j,j<w.heap.size→X' j→X j) (q:X' ma∧X' ms):JR w0 w' p ma ms g X' C L:=by
 obtain⟨M,l,o⟩:=h.am
 obtain⟨M',a,d⟩:=h.sm
 exact {h with
  obj:=f.obj h.obj b.1
  am:=⟨M,l.keep f b.2.1,o⟩
  sm:=⟨M',a.keep f b.2.2,d⟩
  data:=λe n=>(h.data e n).step (f.mono c) m
  fr:=h.fr.trans f (λi hi e=>by have:=k i e;omega)
  subX:=q}
theorem JR.fr0 (h:JR w0 w p ma ms g X C L) (f:Fr No w w'):JR w0 w' p ma ms g X C L:=
 h.frV f ⟨id,id,id⟩ (λ_ h=>h.elim) (λ_ h=>h.elim) (λ_ _ h=>h) h.subX
theorem JR.cells (h:JR w0 w p ma ms g X C L):w.cell? ⟨p,0,none⟩=some (.map (some ma))∧w.cell? ⟨p,1,none⟩=some (.map (some ms))∧w.cell? ⟨p,2,none⟩=some (.pointer (some ⟨g,0,none⟩)):=by
 have:=zv h.obj
 exact⟨by simpa using this 0 _ rfl,by simpa using this 1 _ rfl,by simpa using this 2 _ rfl⟩
structure Xt (w0 w:World) (p ma ms g:Nat) (X:Nat→Prop) (C:zf→List Value) (L:List zL) (e:zL) (m:Nat):Prop where
 obj:w.heap[p]? =some (.cells #[.map (some ma),.map (some ms),.pointer (some ⟨g,0,none⟩)] 117 (0,0))
 am:∃M,xR w ma M∧∀x cs,(x,cs)∈M↔∃e∈L,e.id=x∧cs=C x
 sm:∃M,za3 w ms M∧∀q x,(q,x)∈M↔q∉(z6 e.tx).take m∧∃e∈L,q∈z6 e.tx∧e.id=x
theorem Xt.cells {e:zL} {m:Nat} (h:Xt w0 w p ma ms g X C L e m):w.cell? ⟨p,0,none⟩=some (.map (some ma))∧w.cell? ⟨p,1,none⟩=some (.map (some ms)):=by
 have:=zv h.obj
 exact⟨by simpa using this 0 _ rfl,by simpa using this 1 _ rfl⟩
theorem Xt.fr0 {e:zL} {m:Nat} (h:Xt w0 w p ma ms g X C L e m) (f:Fr No w w'):Xt w0 w' p ma ms g X C L e m:=by
 obtain⟨M,c,d⟩:=h.am
 obtain⟨M',a,b⟩:=h.sm
 exact⟨f.obj h.obj id,⟨M,c.keep f id,d⟩,⟨M',a.keep f id,b⟩⟩
theorem zgL {ps:List zf} {q:zf} (c:ps.Nodup) (h:ps[n]? =some q):q∉ps.take n:=λb=>by
 obtain⟨i,hi⟩:=List.mem_iff_getElem?.1 b
 have a:i<n:=by
  have:=(List.getElem?_eq_some_iff.1 hi).1
  rw[List.length_take] at this
  omega
 rw[List.getElem?_take_of_lt a] at hi
 have:=(List.getElem?_inj (List.getElem?_eq_some_iff.1 hi).1 c).1 (hi.trans h.symm)
 omega
theorem zgg {l:List zf} {x:zf} (h:l[n]? =some x):xb L (l.take (n+1))=(xb L (l.take n)).filter λe=>decide (e.id≠x):=by
 unfold xb
 rw[List.filter_filter,List.take_add_one,h]
 refine List.filter_congr λe _=>?_
 by_cases h1:e.id=x<;>by_cases h2:e.id∈l.take n<;>simp[h1,h2]
theorem zjA (h:JR w0 w p ma ms g X C L) (az:L.Pairwise λa b=>∀q∈z6 a.tx,q∉z6 b.tx) (aH:(zR L).Nodup) (aE:∀e∈L,e.tx.ins.length≤1000) {v:Value} {l:List zf} (hl:Kept (λj=>j=ma∨j=ms) w (λw=>y4 w v l)) (hs:∀x∈l,x∈zR L) (aF:l.Nodup) (bf:l.length≤100000):
  Calls prog 68 #[.pointer (some ⟨p,0,none⟩),v] w λe w'=>e=.returned (.tuple #[])∧JR w0 w' p ma ms g X C (xb L l)∧Fr (λj=>j=ma∨j=ms) w w':=by
 have zp:=vr
 have zh:=yJ
 obtain⟨va,vc,rfl⟩:=hl.now.2.form
 have HL:=Hd hl
 have HH:=Hd h
 have AP:=Hd az
 have ND:=Hd aH
 have aQ:=Hd aE
 have HS:=Hd hs
 have aR:=Hd aF
 have AA:=Hd h.apart
 clear hl h az aH aE hs aF
 go_enter Tryz.func68,Tryz.ntmps68
 go_wp2_with fail
 go_loopw [10] (λiv wr=>∃n:Nat,iv=.int .i64 n∧n≤l.length∧JR w0 wr p ma ms g X C (xb L (l.take n))∧Fr (λj=>j=ma∨j=ms) w wr) (λiv _=>l.length-(intOf iv).toNat)
 case atStart=>exact⟨0,rfl,Nat.zero_le _,by rw[List.take_zero,Zs];exact HH.o,Fr.refl _ _⟩
 case round=>
  obtain⟨n,rfl,hn,aK,aC⟩:=hrel
  have PM:=Hd aK
  have FR:=Hd aC
  clear aK aC
  by_cases a6:n<l.length
  ·have i1:(n:Int)<(l.length:Int):=by omega
   obtain⟨x,hx⟩:∃x,l[n]? =some x:=⟨_,getElem?_eq_getElem a6⟩
   obtain⟨b,off,cap,e0,hr,-⟩:=(HL.o wr FR.o).at_ hx
   cases e0
   obtain⟨e,S,T⟩:=mem_map.1 (HS.o x (List.mem_of_getElem? hx))
   have aI:x∉l.take n:=zgL aR.o hx
   have EM:=@Hd (e∈xb L (l.take n)) (jA.2 ⟨S,by rw[T];exact aI⟩)
   have EX:=Hd T
   have af:=Hd (PM.o.ok x (by rw[←T];exact mem_map.2 ⟨e,EM.o,rfl⟩))
   have XL:=Hd (zu af.o)
   have R1:=Hd hr
   have aS:=@Hd ((zR (xb L (l.take n))).Nodup) (by rw[Zr];exact ND.o.filter _)
   have ak:=Hd (aQ.o e S)
   have aN:=@Hd (∀a∈xb L (l.take n),a≠e→∀q∈z6 e.tx,q∉z6 a.tx) (λa B ah q E aL=>by
    have d:=(List.pairwise_iff_getElem.1 AP.o)
    obtain⟨i,hi,rfl⟩:=getElem_of_mem (jA.1 B).1
    obtain⟨k,hk,D⟩:=getElem_of_mem S
    rcases Nat.lt_trichotomy i k with hik|hik|hik
    ·exact d i k hi hk hik q aL (by rw[D];exact E)
    ·subst hik;exact ah D
    ·exact d k i hk hi hik q (by rw[D];exact E) aL)
   have aY:=Hd (zgg (L:=L) hx)
   have an:=@Hd (ma<wr.heap.size∧ms<wr.heap.size) (by
    obtain⟨M',d,-⟩:=PM.o.am
    obtain⟨M2,u,-⟩:=PM.o.sm
    exact⟨d.lt,u.lt⟩)
   have bl:=ak.o
   clear hr hx aI T S
   generalize bd:xb L (l.take n)=U at*
   have RX:=Hd (zq wr (zd x) 45)
   have FA:=Hd ((frN wr).alloc (.cells (zd x).toArray 45))
   have⟨K0,K1⟩:=tZ2
   go_wp2_with ((first|((with_reducible refine zt ?_);clear K0;refine znV rfl rfl rfl R1.o XL.o ?_)|((with_reducible refine zr ?_);clear K1;refine zn3 (w:=wr) (cs:=zd x) rfl rfl rfl rfl XL.o zE ?_));go_frame)
   generalize bh:wr.heap.size=qx at*
   generalize a8:wr.alloc (.cells (zd x).toArray 45)=wa at*
   have FD:=Hd (FA.o.drew)
   have s:=Hd (PM.o.fr0 FD.o)
   have ae:=Hd (za RX.o (frN wa).drew id)
   clear a8
   obtain⟨M,hM,hm⟩:=s.o.am
   obtain⟨ia,ic,oa,oc,ag⟩:=(s.o.data e EM.o).now.form
   have V:Yp C U x=[.int .u32 e.tx.ver,.slice ia e.tx.ins.length ic,.slice oa e.tx.outs.length oc,.int .u64 e.fee,.int .i64 e.size,.int .u64 e.added]:=by
    unfold Yp
    rw[if_pos (show x∈zR U from mem_map.2 ⟨e,EM.o,EX.o⟩),←EX.o,ag]
   have LK:=Hd (λw' (h':xR w' ma M)=>Jw (w:=w') af.o h' hm V)
   have HM:=Hd hM
   have TQ:=@Hd (TxQ wa.drew e.tx [.int .u32 e.tx.ver,.slice ia e.tx.ins.length ic,.slice oa e.tx.outs.length oc]) (by
    obtain⟨bo,d,u⟩:=(s.o.data e EM.o).now
    rw[ag] at d
    obtain⟨bj,bk,bm,bn,rfl⟩:=u.form
    unfold zkS at d
    simp only[List.cons_append,List.nil_append,List.cons.injEq,and_true,true_and] at d
    rw[d.1,d.2]
    exact u)
   clear hM hm ag V
   refine wrLx [ff,ff,ff,ff,ff,ff,ff,tt,ff,ff] (λw'=>w'.cell? ⟨p,0,none⟩=some (.map (some ma))∧w'.rangeAt qx 0 (zd x)∧xR w' ma M) ?_ (λK hK=>?_)
   ·exact⟨s.o.cells.1,ae.o,HM.o⟩
   generalize wa.drew=wd at*
   repeat((first|(refine zk rfl ?_;constructor;constructor;(focus(first|exact zn0 rfl (λw h=>h.2.1) XL.o|exact λw' h=>zY (t:=113) rfl rfl rfl (LK.o w' h.2.2)|exact λw' _=>qX (t:=120) (f:=0) rfl rfl (zeR e.tx.ver ia oa e.tx.ins.length ic e.tx.outs.length oc e.fee e.size e.added w')|(rintro w' ⟨s1,s2,s3⟩;exact goS))))|(refine zl rfl ?_));try simp only[Act.put,pA,pB,pC])
   (refine zM rfl (λK' hK'=>?_))
   go_simp
   refine(jO wd TQ.o ak.o).mono ?_
   rintro e' w3 ⟨pv,rfl,ai,f3⟩
   obtain⟨pa,pc,a7⟩:=ai.slice.arg.form
   subst a7
   have W:=Hd f3
   have PO:=Hd ai
   clear f3 ai
   refine nXt hK' ?_ λhS=>?_
   ·exact⟨(s.o.fr0 W.o).cells.1,za ae.o W.o id,HM.o.keep W.o id⟩
   try simp only[Act.put,pA,pB,pC]
   repeat((first|(refine zk rfl ?_;constructor;constructor;(focus(first|(rintro w' ⟨s1,s2,s3⟩;exact goS))))|(refine zl rfl ?_));try simp only[Act.put,pA,pB,pC])
   refine zN (hK.out _ _ ?_)
   have ab:=Hd (s.o.fr0 W.o)
   have av:=@Hd (∀q∈z6 e.tx,q.ok) (λq E=>by obtain⟨y,hy,rfl⟩:=mem_map.1 E;exact TQ.o.oks.1 y hy)
   have ad:=Hd (jP e.tx)
   have aW:=Hd (za ae.o W.o id)
   have aO:=@Hd (Xt w0 w3 p ma ms g X C U e 0) (⟨ab.o.obj,ab.o.am,by
    obtain⟨M',d,u⟩:=ab.o.sm
    exact⟨M',d,λq y=>by rw[u];simp⟩⟩)
   have aU:=@Hd (∀j,(Value.slice pa e.tx.ins.length pc).ownBlock=some j→wd.heap.size≤j) (λj hj=>(PO.o.lt j hj).1)
   have ao:=@Hd (ma<wd.heap.size∧ms<wd.heap.size∧p<wd.heap.size) (by
    obtain⟨M',d,-⟩:=s.o.sm
    exact⟨HM.o.lt,d.lt,yr s.o.obj⟩)
   go_wp2_with fail
   go_loopw [23] (λiv Q=>∃m:Nat,iv=.int .i64 m∧m≤e.tx.ins.length∧Xt w0 Q p ma ms g X C U e m∧Fr (λj=>j=ms) w3 Q) (λiv _=>e.tx.ins.length-(intOf iv).toNat)
   case atStart=>exact⟨0,rfl,Nat.zero_le _,aO.o,Fr.refl _ _⟩
   case round=>
    obtain⟨m,rfl,hm,aA,aB⟩:=hrel
    rename World=>Q
    have DI:=Hd aA
    have FI:=Hd aB
    clear aA aB
    by_cases hmt:m<e.tx.ins.length
    ·have i2:(m:Int)<(e.tx.ins.length:Int):=by omega
     obtain⟨q,E⟩:∃q,(z6 e.tx)[m]? =some q:=⟨_,getElem?_eq_getElem (by rw[ad.o];exact hmt)⟩
     have aw:=Hd (av.o q (List.mem_of_getElem? E))
     have aV:=Hd (zb PO.o FI.o (λj hj e=>by have:=aU.o j hj;have:=ao.o;omega))
     have aJ:vw Q (.slice pa e.tx.ins.length pc) (z6 e.tx):=⟨av.o,by rw[ad.o];exact aV.o.slice.arg⟩
     obtain⟨b2,bc,bb,e2,aM,-⟩:=aJ.at_ E
     injection e2 with e3 e4 e5
     subst e3
     have R2:=Hd aM
     have PL:=Hd (zW aw.o)
     have RQ:=Hd (zq Q (zm q) 56)
     have FQ:=Hd ((frN Q).alloc (.cells (zm q).toArray 56))
     have TK:=@Hd (∀y,y∉(z6 e.tx).take (m+1)↔y≠q∧y∉(z6 e.tx).take m) (λy=>by
      rw[List.take_add_one,E]
      simp[and_comm])
     clear aM E e4 e5 aJ
     have⟨K0,K1⟩:=tZ2
     go_wp2_with ((first|((with_reducible refine zt ?_);clear K0;refine znW rfl rfl rfl R2.o PL.o ?_)|((with_reducible refine zr ?_);clear K1;refine zn5 (w:=Q) (cs:=zm q) rfl rfl rfl rfl PL.o yF ?_));go_frame)
     generalize bg:Q.heap.size=qq at*
     generalize ba:Q.alloc (.cells (zm q).toArray 56)=wb at*
     have al:=Hd FQ.o.drew
     have o:=Hd (DI.o.fr0 al.o)
     have ax:=Hd (za RQ.o (frN wb).drew id)
     clear ba
     refine wrLx [ff,ff,ff,ff,ff,tt] (λw'=>w'.cell? ⟨p,1,none⟩=some (.map (some ms))∧w'.rangeAt qq 0 (zm q)) ?_ (λK hK=>?_)
     ·exact⟨o.o.cells.2,ax.o⟩
     generalize wb.drew=z1 at*
     obtain⟨M2,H,O⟩:=o.o.sm
     obtain⟨w5,M5,A,P,G,I,-⟩:=H.del jF.keyed zas (λ_ _=>vD) (xu aw.o) 0 56
     have aa:=Hd A
     have R:=Hd I.fr
     have ar:=@Hd (p≠ms∧ma≠ms) (⟨AA.o.2.1,AA.o.2.2⟩)
     have aj:=@Hd (Xt w0 w5 p ma ms g X C U e (m+1)) (⟨R.o.obj o.o.obj ar.o.1,by
      obtain⟨Ma,d,u⟩:=o.o.am
      exact⟨Ma,d.keep R.o ar.o.2,u⟩,⟨M5,P,λy z=>by
      rw[G y z,O,TK.o]
      exact⟨λ⟨a,b,c⟩=>⟨⟨a,b⟩,c⟩,λ⟨⟨a,b⟩,c⟩=>⟨a,b,c⟩⟩⟩⟩)
     have F5:=@Hd (Fr (λj=>j=ms) w3 w5) ((FI.o.trans0 al.o).trans R.o (λj _ e=>e))
     have R5:=Hd (za ax.o R.o (λe=>by have:=ao.o;have:=W.o.size;have:=FI.o.size;omega))
     clear A P G I H O
     repeat((first|(refine zk rfl ?_;constructor;constructor;(focus(first|exact znZ rfl (λw h=>h.2) PL.o|(rintro w' ⟨s1,s2⟩;exact goS))))|(refine zl rfl ?_));try simp only[Act.put,pA,pB,pC])
     (refine zM rfl (λK' hK'=>?_))
     refine yD (J2 rfl rfl rfl aa.o) ?_
     refine nXt hK' ?_ λhS=>?_
     ·exact⟨aj.o.cells.2,R5.o⟩
     try simp only[Act.put]
     refine zN (hK.out _ _ ?_)
     go_wp2_with fail
     go_roundw
     case rel=>exact⟨m+1,by go_num,by omega,aj.o,F5.o⟩
     case measure=>simp[intOf];omega
    ·have aG:m=e.tx.ins.length:=by omega
     have i2:¬(m:Int)<(e.tx.ins.length:Int):=by omega
     have aZ:=@Hd ((z6 e.tx).take m=z6 e.tx) (by rw[aG,←ad.o,List.take_length])
     have aX:=Hd (za aW.o FI.o (λe=>by have:=an.o;omega))
     clear aG
     go_wp2_with fail
     have Z:=Hd ((frN Q).drew)
     have o:=Hd (DI.o.fr0 Z.o)
     have ay:=Hd (za aX.o Z.o id)
     refine wrLx [ff,ff,ff,ff,ff,tt] (λw'=>w'.cell? ⟨p,0,none⟩=some (.map (some ma))∧w'.rangeAt qx 0 (zd x)) ?_ (λK hK=>?_)
     ·exact⟨o.o.cells.1,ay.o⟩
     generalize Q.drew=z1 at*
     obtain⟨M2,H,O⟩:=o.o.am
     obtain⟨w5,M5,A,P,G,I,-⟩:=H.del xT.keyed YG (λ_ _=>xf) (ym af.o) 0 45
     have aa:=Hd A
     have R:=Hd I.fr
     have aq:=@Hd (p≠ma∧ms≠ma) (⟨AA.o.1,λe=>AA.o.2.2 e.symm⟩)
     have aP:=@Hd (∀a∈U,a.id=x→a=e) (λa B r=>by
      obtain⟨i,hi,aD⟩:=getElem_of_mem B
      obtain⟨k,hk,D⟩:=getElem_of_mem EM.o
      have d:(zR U)[i]? =some x:=by unfold zR;rw[List.getElem?_map,getElem?_eq_getElem hi,aD];exact congrArg some r
      have u:(zR U)[k]? =some x:=by unfold zR;rw[List.getElem?_map,getElem?_eq_getElem hk,D];exact congrArg some EX.o
      have:=(List.getElem?_inj (List.getElem?_eq_some_iff.1 d).1 aS.o).1 (d.trans u.symm)
      subst this
      exact aD.symm.trans D)
     have Y:=@Hd (Fr (λj=>j=ma∨j=ms) wr w5) ((((FD.o.trans0 W.o).of0.trans FI.o (λj _ e=>.inr e)).trans0 Z.o).trans R.o (λj _ e=>.inl e))
     have au:=@Hd (JR w0 w5 p ma ms g X C (xb L (l.take (n+1)))) (by
      rw[aY.o]
      refine⟨R.o.obj o.o.obj aq.o.1,⟨M5,P,λy cs=>?_⟩,?_,λa B=>?_,AA.o,PM.o.lo3,PM.o.subX,PM.o.fr.trans Y.o (λi hi e=>by have:=PM.o.lo3;rcases e with e|e<;>omega),λy hy=>?_⟩
      ·rw[G y cs,O]
       constructor
       ·rintro⟨d,a,B,r,rfl⟩
        exact⟨a,mem_filter.2 ⟨B,by simpa[r] using d⟩,r,rfl⟩
       ·rintro⟨a,B,r,rfl⟩
        obtain⟨d,u⟩:=mem_filter.1 B
        exact⟨by simpa[r] using u,a,d,r,rfl⟩
      ·obtain⟨M6,d,u⟩:=o.o.sm
       refine⟨M6,d.keep R.o aq.o.2,λq y=>?_⟩
       rw[u,aZ.o]
       constructor
       ·rintro⟨E,a,B,F,rfl⟩
        refine⟨a,mem_filter.2 ⟨B,?_⟩,F,rfl⟩
        simp only[decide_eq_true_eq]
        intro r
        rw[aP.o a B r] at F
        exact E F
       ·rintro⟨a,B,F,rfl⟩
        obtain⟨d,u⟩:=mem_filter.1 B
        refine⟨λE=>aN.o a d (λe=>?_) q E F,a,d,F,rfl⟩
        simp only[decide_eq_true_eq] at u
        exact u (by rw[e];exact EX.o)
      ·exact(PM.o.data a (mem_filter.1 B).1).step (Y.o.mono (λj e=>by rcases e with e|e;rw[e];exact PM.o.subX.1;rw[e];exact PM.o.subX.2)) (λ_ _ h=>h)
      ·obtain⟨a,B,a1⟩:=mem_map.1 hy
       exact PM.o.ok y (mem_map.2 ⟨a,(mem_filter.1 B).1,a1⟩))
     have R5:=Hd (za ay.o R.o (λe=>by have:=an.o;omega))
     have aT:=Hd au.o.cells.1
     clear A P G I H O
     repeat((first|(refine zk rfl ?_;constructor;constructor;(focus(first|exact zn0 rfl (λw h=>h.2) XL.o|(rintro w' ⟨s1,s2⟩;exact goS))))|(refine zl rfl ?_));try simp only[Act.put,pA,pB,pC])
     (refine zM rfl (λK' hK'=>?_))
     refine yD (J2 rfl rfl rfl aa.o) ?_
     refine nXt hK' ?_ λhS=>?_
     ·exact⟨aT.o,R5.o⟩
     try simp only[Act.put]
     refine zN (hK.out _ _ ?_)
     go_wp2_with fail
     go_roundw
     case rel=>exact⟨n+1,by go_num,by omega,au.o,FR.o.trans Y.o (λ_ _ h=>h)⟩
     case measure=>simp[intOf];omega
  ·have ah:n=l.length:=by omega
   have i1:¬(n:Int)<(l.length:Int):=by omega
   have PE:=@Hd (JR w0 wr p ma ms g X C (xb L l)) (by have:=PM.o;rw[ah,List.take_length] at this;exact this)
   go_wp2_with fail
   refine bodyPost_end (results_none rfl _ _ _) rfl ?_
   exact⟨rfl,PE.o,FR.o⟩
end
section
open Go.ChangeShapes Go.WideShapes Go.Deep
section
variable {H:Type} {enc:TypeId×Value→H} {w:World} {base:Nat} {spare:Nat→Bool} {held:Bool}
end
theorem ziQ {a b:Option Addr} {n m c d:Nat} (h:Value.slice a n c=.slice b m d):a=b∧n=m∧c=d:=by
 injection h with h1 h2 h3
 exact⟨h1,h2,h3⟩
theorem zeF {P:Program} (w:World) (t ty e:TypeId) (b:P.underlying t=some (.slice e)) (i:TypeInfo) (hi:P.info? e=some i) (base:Option Addr) (n cap c:Nat) (a:n≤cap):
  (Builtin.append_ #[t,t] ty #[.slice base n cap,.slice none 0 c]).run P w=.ok (.slice base n cap) w:=by
 cases base<;>simp[Builtin.append_,run_underlying b,sizeOf,typeInfo,hi,a,storeCells,loadCells,Builtin.lenOf,Builtin.firstCells]
theorem ziH {α:Type} {k:Nat} {q:World→α→List Value→Prop} {V:Nat→Prop} {w:World} {j:Option Addr} {n r:Nat} {L:List α} (g:0<k) (p:∀w d cs,q w d cs→cs.length=k) (h:Kept V w (λw=>qG k q w (.slice j n r) L)):∃css:List (List Value),css.length=L.length∧∀(i:Nat) (d:α) (cs:List Value),L[i]? =some d→css[i]? =some cs→∃b off,j=some ⟨b,off,none⟩∧Kept V w (λw=>w.rangeAt b (off+i*k) cs∧q w d cs):=by
 have a:∀i:Fin L.length,∃cs,∃b off,j=some ⟨b,off,none⟩∧Kept V w (λw=>w.rangeAt b (off+i.1*k) cs∧q w L[i.1] cs):=λi=>by
  obtain⟨b,off,cap,cs,e,-,-,o⟩:=zai g p h (getElem?_eq_getElem i.2)
  exact⟨cs,b,off,(ziQ e).1,o⟩
 refine⟨List.ofFn (λi=>Classical.choose (a i)),by simp,λi d cs m l=>?_⟩
 have hi:i<L.length:=(List.getElem?_eq_some_iff.1 m).1
 have c:cs=Classical.choose (a ⟨i,hi⟩):=by
  rw[List.getElem?_ofFn,dif_pos hi] at l
  exact(Option.some.inj l).symm
 have f:L[i]=d:=(List.getElem?_eq_some_iff.1 m).2
 have:=Classical.choose_spec (a ⟨i,hi⟩)
 rw[←c] at this
 dsimp only at this
 rw[f] at this
 exact this
theorem InQ.len {w:World} {x:InD} (h:InQ w x cs):cs.length=34:=by
 obtain⟨b,c,rfl,a,-⟩:=h
 exact jf a _
theorem zfX (w:World) {B:Nat} {v x:Value} {xs:List Value} {L:List InD} (F:w.ownsRow B 112 34 v n xs) {V:Nat→Prop} (I:Kept V w (λw=>Vw w x L)) (hn:n+L.length≤100000) (T:B≤w.heap.size):
  ∃(css:List (List Value)) (t:Value) (w':World),(Builtin.append_ #[25,25] 25 #[v,x]).run prog w=.ok t w'∧css.length=L.length∧(∀(i:Nat) (d:InD) (cs:List Value),L[i]? =some d→css[i]? =some cs→Kept V w (λw=>InQ w d cs))∧(∀cs∈css,cs.length=34)∧
   w'.ownsRow B 112 34 t (n+L.length) (xs++css.flatMap id)∧Fr (λj=>v.ownBlock=some j) w w'∧Ye w v t:=by
 obtain⟨va,K,rfl⟩:=I.now.form
 obtain⟨css,l,m⟩:=ziH (by decide) (λ_ _ _ h=>h.len) I
 have q:∀cs∈css,cs.length=34∧∀u∈cs,u.oneCell'=true:=λcs o=>by
  obtain⟨i,hi⟩:=List.mem_iff_getElem?.1 o
  have D:i<L.length:=by rw[←l];exact(List.getElem?_eq_some_iff.1 hi).1
  obtain⟨_,_,_,r⟩:=m i L[i] cs (getElem?_eq_getElem D) hi
  obtain⟨-,ka,kc,rfl,Y,_⟩:=r.now
  exact⟨jf Y _,Jm⟩
 obtain⟨i,hi,hz,hs,W⟩:=info_parts zhf
 have s:(css.flatMap id).length=L.length*34:=by rw[xY id 34 css (λcs o=>(q cs o).1),l]
 cases hva:va with
 |none=>
  have U:L=[]:=by
   cases L with
   |nil=>rfl
   |cons d L=>
    have S:0<css.length:=by rw[l];simp
    obtain⟨b,off,e,_⟩:=m 0 d css[0] rfl (getElem?_eq_getElem S)
    rw[hva] at e
    cases e
  subst U
  have A:css=[]:=List.eq_nil_of_length_eq_zero l
  subst A
  obtain⟨a,c,e,hle⟩:∃a c,v=.slice a n c∧n≤c:=by
   rcases F.2 with⟨rfl,rfl⟩|⟨g,cap,R,rfl,_,_,h,_⟩
   ·exact⟨none,0,rfl,le_refl _⟩
   ·exact⟨_,_,rfl,h⟩
  subst e
  refine⟨[],_,w,zeF w _ _ _ Qd i hi a n c K hle,rfl,(λi d cs h=>by simp at h),(λ_ h=>by cases h),?_,Fr.refl _ _,λk h=>.inl h⟩
  simpa using F
 |some ad=>
  rw[hva] at m
  have p:∀j u,(css.flatMap id)[j]? =some u→w.cell? (ad.add j)=some u:=λj u G=>by
   have X:j<L.length*34:=by rw[←s];exact(List.getElem?_eq_some_iff.1 G).1
   have C:j / 34<L.length:=by omega
   obtain⟨b,off,e,r⟩:=m (j / 34) L[j / 34] css[j / 34] (getElem?_eq_getElem C) (getElem?_eq_getElem (by rw[l];exact C))
   have Z:=r.now.1
   obtain rfl:=Option.some.inj e
   have y:=ZM id 34 css (λcs o=>(q cs o).1) (j / 34) css[j / 34] (getElem?_eq_getElem (by rw[l];exact C)) (j % 34) (by omega)
   rw[show j / 34*34+j % 34=j by omega] at y
   have z:=Z (j % 34) u (by rw[←G,y];rfl)
   rw[Yn]
   rw[show off+j / 34*34+j % 34=off+j by omega] at z
   exact z
  obtain⟨t,w',M,N,O,a4,Q⟩:=zaB (P:=prog) w B 25 25 112 34 64 _ Qd i hi hz hs W rfl (by decide) v n xs F ad L.length K (css.flatMap id) p s (λu E=>by
   obtain⟨cs,o,E⟩:=List.mem_flatMap.1 E
   exact(q cs o).2 u E) (by omega) (by unfold maxLen;omega) T
  exact⟨css,t,w',M,l,λi d cs y z=>(m i d cs y z).elim λb h=>h.elim λoff h=>λw' f=>(h.2 w' f).2,λcs o=>(q cs o).1,N,(Fr.refl _ w).grown O (λk e=>.inr e),Q⟩
end
end Go.Proofs.YtbcllfjmabiafaaGreatDoor
