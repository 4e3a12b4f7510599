/- pool: looked. (Written by gen_looked.py.) -/
import Derived.Test.YtdkkjchclkjleaaGreatDoorSD5
import Derived.Test.YtdkkjchclkjleaaGreatDoorSD3
import Derived.Test.YtdkkjchclkjleaaGreatDoorSD1
import Derived.Test.YtdkkjchclkjleaaGreatDoorSD4
set_option linter.unusedVariables false
set_option linter.unusedSimpArgs false
set_option linter.unnecessarySimpa false
set_option linter.all false
set_option maxRecDepth 20000
set_option maxHeartbeats 16000000
namespace Go.Proofs.YtdkkjchclkjleaaGreatDoor
open Go Go.RowKit Go.Maps Go.MapKept
open Go.Proofs.Tryz(prog)
open List(mem_map getElem?_eq_getElem mem_append mem_of_getElem? mem_cons length_map take_add_one mem_singleton take_length mem_filter map_append length_take getElem?_map nil_append filter_append not_mem_nil any_eq_true drop_drop getElem?_set_ne getElem_of_mem)
open Nat(le_refl zero_le le_trans)
variable {V VC:Nat→Prop} {c:Int} {cs:List Value} {i n pc:Nat} {v x:Value} {w w':World}
theorem VE {fn:Func} {p u v:Tmp} {ty:TypeId} (h:fn.results= #[.cell p ty,.tmp u,.tmp v]) (tmps:Array Value) (P:Program) (w:World):
  (results fn tmps).run P w=
   ((asAddr (tmps.getD p undef)).run P w).andThen λa b=>((loadVar ty a).run P b).andThen λx c=>.ok (.tuple #[x,tmps.getD u undef,tmps.getD v undef]) c:=by
 simp only[results,h]
 simp[Sem.run_bind,Result.andThen]
theorem xT {P:Program} {w:World} {fn:Func} {p u v:Tmp} {ty:TypeId} (h:fn.results= #[.cell p ty,.tmp u,.tmp v]) (tmps:Array Value) {g:Nat} {d:TypeDesc} {x y:Value} (b:tmps.getD p undef=.pointer (some ⟨g,0,none⟩)) (c:w.rangeAt g 0 cs)
  (e:P.underlying ty=some d) (a:d.isRow=true) (hi:(P.info? ty).map (·.size)=some cs.length) (f:tmps.getD u undef=x) (i:tmps.getD v undef=y):
  (results fn tmps).run P w=.ok (.tuple #[.agg cs.toArray,x,y]) w:=by
 rw[VE h,b,f,i]
 simp only[asAddr,Sem.run_pure,Result.andThen_ok,run_loadVar_mid w g 0 ty cs d c e a hi]
theorem XH (w:World):(Instr.build 129 #[]).run prog w=.ok (.agg vy.toArray) w:=by kernel_rfl
theorem zmq (f s:Int) (w:World):(Instr.build 127 #[(0,.int .u64 f),(1,.int .i64 s)]).run prog w=.ok (.agg [.int .u64 f,.int .i64 s].toArray) w:=by kernel_rfl
theorem zmo (v:Int) (a c:Option Addr) (n b m d:Nat) (f s:Int) (w:World):(Instr.build 129 #[(0,.agg #[.int .u32 v,.slice a n b,.slice c m d]),(1,.agg #[.int .u64 f,.int .i64 s])]).run prog w=.ok (.agg [.int .u32 v,.slice a n b,.slice c m d,.int .u64 f,.int .i64 s,.int .u64 0].toArray) w:=by kernel_rfl
theorem zmJ {t:TxD} {prev:List yI} (h:vB t prev=0):(ju prev).sum<18446744073709551616∧qV t.outs≤(ju prev).sum:=by
 unfold vB at h
 by_cases h1:yC t=0
 ·rw[if_pos h1] at h
  by_cases h2:prev.length=t.ins.length
  ·rw[if_pos h2] at h
   by_cases h3:opens t.ins prev=true
   ·rw[if_pos h3] at h
    by_cases h4:(ju prev).sum<18446744073709551616
    ·rw[if_pos h4] at h
     by_cases h5:qV t.outs≤(ju prev).sum
     ·exact⟨h4,h5⟩
     ·rw[if_neg h5] at h;cases h
    ·rw[if_neg h4] at h;cases h
   ·rw[if_neg h3] at h;cases h
  ·rw[if_neg h2] at h;cases h
 ·rw[if_neg h1] at h;exact absurd h h1
theorem za9 {t:TxD} {prev:List yI} (f:∀x∈prev,x.ok) (a:∀x∈t.outs,x.ok):0≤Ja t prev∧Ja t prev≤18446744073709551615:=by
 unfold Ja
 by_cases h:vB t prev=0
 ·rw[if_pos h]
  obtain⟨c,e⟩:=zmJ h
  have d:=VU (l:=t.outs) (λx b=>(a x b).1.1)
  omega
 ·rw[if_neg h]
  omega
theorem Xz {t:TxD} (h:qB t=true):0≤qQ t∧qQ t≤1200:=by
 obtain⟨a,b,c⟩:=yZ.1 h
 have d:=zeP a
 have e:qQ t=6+37*(t.ins.length:Int)+40*(t.outs.length:Int)+Z0 t.ins:=rfl
 omega
theorem znV (v:Int) (c e:Option Addr) (n d m h:Nat) (f s a:Int):∀u∈[Value.int .u32 v,.slice c n d,.slice e m h,.int .u64 f,.int .i64 s,.int .u64 a],u.oneCell'=true:=by
 intro u b
 simp only[mem_cons,not_mem_nil,or_false] at b
 rcases b with rfl|rfl|rfl|rfl|rfl|rfl<;>rfl
def YD (w:World) (S:List zr) (I:List zd) (L:List yd) (t:TxD) (cs:List Value) (e:Ending) (w':World):Prop:=
 ∃(ecs:List Value) (pv:Value),e=.returned (.tuple #[.agg ecs.toArray,pv,.int .i64 (qO S I L t)])∧Fr No w w'∧(ecs.length=6∧∀v∈ecs,v.oneCell'=true)∧
  (qO S I L t=0→ecs=cs++[.int .u64 (Ja t (xO S L t)),.int .i64 (qQ t),.int .u64 0]∧w'.ownsRow w.heap.size 41 32 pv (xC L t).length ((xC L t).flatMap zf))
theorem YD.bad {w w':World} {S:List zr} {I:List zd} {L:List yd} {t:TxD} (h:qO S I L t=c) (b:c≠0) (f:Fr No w w') (a:Value):YD w S I L t cs (.returned (.tuple #[.agg vy.toArray,a,.int .i64 c])) w':=
 ⟨vy,a,by rw[h],f,⟨rfl,JX⟩,λe=>absurd (h.symm.trans e) b⟩
section
variable {w0 w:World} {p ma ms g N:Nat} {VG X:Nat→Prop} {C:zd→List Value} {L:List yd}
theorem zbV (hg:q9 w) (h:yq w0 w p ma ms g VG X C L N) (aV:N≤900) {w1:World} {S:List zr} {bs:List yB} {I:List zd} (hc:Cn w1 w pc VC S bs I) (hS:∀c∈S,c.ok) {t:TxD} (ht:TxQ w t cs) (aw:yC t=0):
  Calls prog 47 #[.pointer (some ⟨p,0,none⟩),.pointer (some ⟨pc,0,none⟩),.agg (zf (idH t)).toArray,.agg cs.toArray] w (YD w S I L t cs):=by
 obtain⟨dE,uE,rE⟩:=zgX
 have ze:=show ∀w,(zeroValue 129).run prog w=.ok (.agg vy.toArray) w from V6
 obtain⟨aH,-,-,-,-,-⟩:=Jl aw
 obtain⟨aT,aL,aU⟩:=yZ.1 aH
 obtain⟨x,hx⟩:∃x,x=idH t:=⟨_,rfl⟩
 have aE:=@J (zY x) (by rw[hx];exact qC t)
 have T:=J (zx aE.o)
 obtain⟨U,V,W,Y,rfl⟩:=ht.form
 have f1:Fr No w (w.alloc (.cells (zf x).toArray 41)):=(frN w).alloc _
 have f2:Fr No (w.alloc (.cells (zf x).toArray 41)) ((w.alloc (.cells (zf x).toArray 41)).alloc (.cells #[.int .u32 t.ver,.slice U t.ins.length V,.slice W t.outs.length Y] 34)):=(frN _).alloc _
 have s:Fr No ((w.alloc (.cells (zf x).toArray 41)).alloc (.cells #[.int .u32 t.ver,.slice U t.ins.length V,.slice W t.outs.length Y] 34)) (((w.alloc (.cells (zf x).toArray 41)).alloc (.cells #[.int .u32 t.ver,.slice U t.ins.length V,.slice W t.outs.length Y] 34)).alloc (.cells vy.toArray 129)).drew:=((frN _).alloc _).drew
 have F1:=J ((f1.trans0 f2).trans0 s)
 have RH:=J (za (zy w (zf x) 41) (f2.trans0 s) id)
 have RT:=@J ((((w.alloc (.cells (zf x).toArray 41)).alloc (.cells #[.int .u32 t.ver,.slice U t.ins.length V,.slice W t.outs.length Y] 34)).alloc (.cells vy.toArray 129)).drew.rangeAt (w.heap.size+1) 0 [.int .u32 t.ver,.slice U t.ins.length V,.slice W t.outs.length Y]) (by
  have:=za (zy (w.alloc (.cells (zf x).toArray 41)) [.int .u32 t.ver,.slice U t.ins.length V,.slice W t.outs.length Y] 34) s id
  simpa using this)
 have BE:=@J ((((w.alloc (.cells (zf x).toArray 41)).alloc (.cells #[.int .u32 t.ver,.slice U t.ins.length V,.slice W t.outs.length Y] 34)).alloc (.cells vy.toArray 129)).drew.heap[w.heap.size+2]? =some (.cells vy.toArray 129 (0,0))) ((frN _).drew.obj (yJ ((w.alloc (.cells (zf x).toArray 41)).alloc (.cells #[.int .u32 t.ver,.slice U t.ins.length V,.slice W t.outs.length Y] 34)) (.cells vy.toArray 129) (n:=w.heap.size+2) (by simp)) id)
 have Z:=J ht
 have HG:=J hg
 have HH:=J h
 have HC:=J hc
 have HS:=J hS
 obtain⟨M,hM,hm⟩:=h.am
 have HM:=J (hM.keep F1.o id)
 have CP:=J (λw' (f:Fr No w w')=>(h.fr0 f).cells)
 have LK:=J (λw' (h':qJ w' ma M)=>zbU (w:=w') aE.o h' hm true)
 obtain⟨y,hy⟩:∃y,YF C L x=y∧y.length=6∧∀v∈y,v.oneCell'=true:=⟨_,rfl,zel h x⟩
 have YL:=J hy.2.1
 have YO:=J hy.2.2
 rw[hy.1] at LK
 have aA:=@J (decide (x∈xt L)=decide (idH t∈xt L)) (by rw[hx])
 generalize aS:decide (x∈xt L)=bb at LK
 have HX:=J hx
 have FM:=J aH
 have D:=@J (t.ins.length≤8) (aL)
 clear h hM hm hy ht hg hc hS f1 f2 s aT aL aU aH aw
 show Calls prog 47 #[.pointer (some ⟨p,0,none⟩),.pointer (some ⟨pc,0,none⟩),.agg (zf (idH t)).toArray,.agg #[.int .u32 t.ver,.slice U t.ins.length V,.slice W t.outs.length Y]] w _
 rw[←hx]
 clear hx
 go_enter Tryz.func47,Tryz.ntmps47
 go_wp2_with fail
 generalize hq:w.heap.size=q at*
 generalize aM:((w.alloc (.cells (zf x).toArray 41)).alloc (.cells #[.int .u32 t.ver,.slice U t.ins.length V,.slice W t.outs.length Y] 34)).alloc (.cells vy.toArray 129)=wz at*
 have ZQ:=@J (wz.drew.heap.size=q+3) (by show wz.heap.size=q+3;rw[←aM,←hq];simp)
 clear aM
 refine wrLx [ff,ff,ff,ff,ff,ff,ff,ff,ff,tt,tt,ff] (λw'=>w'.cell? ⟨p,0,none⟩=some (.map (some ma))∧w'.rangeAt q 0 (zf x)∧qJ w' ma M) ?_ (λK hK=>?_)
 ·exact⟨(CP.o _ F1.o).1,RH.o,HM.o⟩
 generalize wz.drew=wd at*
 repeat((first|(refine zl rfl ?_;constructor;constructor;(focus(first|exact zog rfl (λw h=>h.2.1) T.o|exact λw' h=>zM (t:=133) rfl rfl rfl (LK.o w' h.2.2)|(rintro w' ⟨s1,s2,s3⟩;exact goS))))|(refine zm rfl ?_));try simp only[Act.put,pA,pB,pC])
 (refine zF rfl (λK' hK'=>?_))
 refine yg (yw rfl (V6 _)) ?_
 have FE:=J ((frN wd).alloc (.cells vy.toArray 129))
 refine nXt hK' ?_ λhS=>?_
 ·exact⟨FE.o.cell (CP.o _ F1.o).1 id,za RH.o FE.o id,HM.o.keep FE.o id⟩
 try simp only[Act.put,pA,pB,pC]
 (refine zF rfl (λK' hK'=>?_))
 refine yN (zj (w:=wd) (ty:=129) (cs:=y) rfl rfl rfl (by rw[YL.o];rfl) (by rw[YL.o];exact qj) YO.o) ?_
 have FY:=J ((frN wd).alloc (.cells y.toArray 129))
 refine nXt hK' ?_ λhS=>?_
 ·exact⟨FY.o.cell (CP.o _ F1.o).1 id,za RH.o FY.o id,HM.o.keep FY.o id⟩
 try simp only[Act.put]
 repeat((first|(refine zl rfl ?_;constructor;constructor;(focus(first|(rintro w' -;exact goS))))|(refine zm rfl ?_));try simp only[Act.put,pA,pB,pC])
 refine zL (hK.out _ _ ?_)
 have ab:=J (za RH.o FY.o id)
 have ad:=J (za RT.o FY.o id)
 have G:=J (FY.o.obj BE.o id)
 have r:=J (F1.o.trans0 FY.o)
 have Z2:=@J (q+3≤(wd.alloc (.cells y.toArray 129)).heap.size) (by have:=FY.o.size;have:=ZQ.o;omega)
 clear HM LK RH RT BE CP
 generalize wd.alloc (.cells y.toArray 129)=w2 at*
 have HP:=J (QV (HH.o.fr0 r.o) (HC.o.fr0 r.o) HS.o (Z.o.keep r.o) (by have:=D.o;omega))
 have HD:=J (zcK (HC.o.fr0 r.o) aE.o)
 rw[show decide (x∈I)=decide (idH t∈I) by rw[HX.o]] at HD
 rw[aS] at aA
 by_cases c1:idH t∈xt L
 ·have aG:bb=true:=by rw[aA.o];exact decide_eq_true c1
  have LE:=@J (qO S I L t=10) (by unfold qO;rw[if_pos c1])
  subst aG
  clear c1
  have⟨K0,K1⟩:=tZ2
  go_wp2_with ((first|((with_reducible refine zt ?_);clear K0;with_reducible refine yv 29 ?_;refine zg rfl (yk (t:=129) rfl rfl (XH _)) ?_)|((with_reducible refine zv ?_);clear K1;refine zi rfl (zK (ty:=129) (b:=q+2) (off:=0) (cs:=vy) rfl rfl rfl (zX G.o (le_refl 6)) qj JX) ?_));go_frame)
  refine bodyPost_ret (xT (P:=prog) (fn:=Tryz.f47) rfl _ rfl (yx G.o rfl) uE rE qj rfl rfl) rfl (YD.bad LE.o (by decide) ((r.o).trans (zu (q+2) vy 0 w2) (λi hi e=>by omega)) _)
 have aG:bb=false:=by rw[aA.o];exact decide_eq_false c1
 subst aG
 by_cases c2:idH t∈I
 ·have LE:=@J (qO S I L t=19) (by unfold qO;rw[if_neg c1,if_pos c2])
  have hd:decide (idH t∈I)=true:=decide_eq_true c2
  rw[hd] at HD
  clear c1 c2 hd
  have⟨K0,K1,K2,K3⟩:=tZ4
  go_wp2_with ((first|((with_reducible refine zt ?_);first|(clear K0;with_reducible refine yv 31 ?_;refine zoc rfl rfl rfl ab.o T.o ?_)|(clear K2;with_reducible refine yv 33 ?_;refine zg rfl (yk (t:=129) rfl rfl (XH _)) ?_))|(clear K1;go_at_call 74;refine HD.o.mono ?_;rintro e w3 ⟨rfl,s⟩;have m:=J s;clear s;have k:=J (za ad.o m.o id);have l:=J (m.o.obj G.o id);have a:=J (r.o.trans0 m.o);have A:=J (QV (HH.o.fr0 a.o) (HC.o.fr0 a.o) HS.o (Z.o.keep a.o) (by have:=D.o;omega)))|((with_reducible refine zv ?_);clear K3;refine zi rfl (zK (ty:=129) (b:=q+2) (off:=0) (cs:=vy) rfl rfl rfl (zX l.o (le_refl 6)) qj JX) ?_));go_frame)
  refine bodyPost_ret (xT (P:=prog) (fn:=Tryz.f47) rfl _ rfl (yx l.o rfl) uE rE qj rfl rfl) rfl (YD.bad LE.o (by decide) ((a.o).trans (zu (q+2) vy 0 w3) (λi hi e=>by omega)) _)
 have hd:decide (idH t∈I)=false:=decide_eq_false c2
 rw[hd] at HD
 clear hd
 by_cases c3:J2 S L t=0
 rotate_left
 ·have LE:=@J (qO S I L t=J2 S L t) (by unfold qO;rw[if_neg c1,if_neg c2,if_pos c3])
  have je:(J2 S L t==0)=false:=by simpa using c3
  have NE:=J c3
  clear c1 c2 c3
  have⟨K0,K1,K2,K3,K4,K5⟩:=tZ6
  go_wp2_with ((first|((with_reducible refine zt ?_);first|(clear K0;with_reducible refine yv 31 ?_;refine zoc rfl rfl rfl ab.o T.o ?_)|(clear K2;refine zoa rfl rfl rfl k.o rfl ?_)|(clear K4;with_reducible refine yv 44 ?_;refine zg rfl (yk (t:=129) rfl rfl (XH _)) ?_))|(clear K1;go_at_call 74;refine HD.o.mono ?_;rintro e w3 ⟨rfl,s⟩;have m:=J s;clear s;have k:=J (za ad.o m.o id);have l:=J (m.o.obj G.o id);have a:=J (r.o.trans0 m.o);have A:=J (QV (HH.o.fr0 a.o) (HC.o.fr0 a.o) HS.o (Z.o.keep a.o) (by have:=D.o;omega)))|(clear K3;go_at_call 86;refine A.o.mono ?_;rintro e w4 ⟨ov,pv,rfl,f4,hz⟩;clear hz;have B:=J f4;clear f4;have o:=J (za k.o B.o id);have u:=J (B.o.obj l.o id);have d:=J (a.o.trans0 B.o))|((with_reducible refine zv ?_);clear K5;refine zi rfl (zK (ty:=129) (b:=q+2) (off:=0) (cs:=vy) rfl rfl rfl (zX u.o (le_refl 6)) qj JX) ?_));go_frame)
  refine bodyPost_ret (xT (P:=prog) (fn:=Tryz.f47) rfl _ rfl (yx u.o rfl) uE rE qj rfl rfl) rfl (YD.bad LE.o NE.o ((d.o).trans (zu (q+2) vy 0 w4) (λi hi e=>by omega)) _)
 have an:=@J (∀(pv ov:Value) w' (w3s:Nat),(J2 S L t=0→xu w' ov (xO S L t)∧w'.ownsRow w3s 41 32 pv (xC L t).length ((xC L t).flatMap zf))→xu w' ov (xO S L t)∧w'.ownsRow w3s 41 32 pv (xC L t).length ((xC L t).flatMap zf)) (λ_ _ _ _ h=>h c3)
 unfold zac at HP
 rw[c3] at HP
 have ao:=@J ((xO S L t).length≤1000) (by unfold xO;rw[length_map,vM];have:=D.o;omega)
 have aJ:=@J ((xC L t).length≤1000) (by have:=zfb L t;have:=D.o;omega)
 have ar:=J c3
 by_cases c4:vB t (xO S L t)=0
 rotate_left
 ·have LE:=@J (qO S I L t=vB t (xO S L t)) (by unfold qO;rw[if_neg c1,if_neg c2,if_neg (by simp[c3]),if_pos c4])
  have je:(vB t (xO S L t)==0)=false:=by simpa using c4
  have NE:=J c4
  clear c1 c2 c3 c4
  have⟨K0,K1,K2,K3,K4,K5,K6,K7⟩:=tZ8
  go_wp2_with ((first|((with_reducible refine zt ?_);first|(clear K0;with_reducible refine yv 31 ?_;refine zoc rfl rfl rfl ab.o T.o ?_)|(clear K2;refine zoa rfl rfl rfl k.o rfl ?_)|(clear K4;refine zoa rfl rfl rfl o.o rfl ?_)|(clear K6;with_reducible refine yv 54 ?_;refine zg rfl (yk (t:=129) rfl rfl (XH _)) ?_))|(clear K1;go_at_call 74;refine HD.o.mono ?_;rintro e w3 ⟨rfl,s⟩;have m:=J s;clear s;have k:=J (za ad.o m.o id);have l:=J (m.o.obj G.o id);have a:=J (r.o.trans0 m.o);have A:=J (QV (HH.o.fr0 a.o) (HC.o.fr0 a.o) HS.o (Z.o.keep a.o) (by have:=D.o;omega)))|(clear K3;go_at_call 86;refine A.o.mono ?_;rintro e w4 ⟨ov,pv,rfl,f4,hz⟩;rw[ar.o];have HZ:=J (an.o pv ov w4 _ hz);clear hz;have B:=J f4;clear f4;have o:=J (za k.o B.o id);have u:=J (B.o.obj l.o id);have d:=J (a.o.trans0 B.o);have R:=J (Zp (HG.o.keep0 d.o) (Z.o.keep d.o) HZ.o.1 ao.o))|(clear K5;go_at_call 77;refine R.o.mono ?_;rintro e w5 ⟨rfl,f5⟩;have O:=J f5;clear f5;have E:=J (za o.o O.o id);have H:=J (O.o.obj u.o id);have z:=J (d.o.trans0 O.o))|((with_reducible refine zv ?_);clear K7;refine zi rfl (zK (ty:=129) (b:=q+2) (off:=0) (cs:=vy) rfl rfl rfl (zX H.o (le_refl 6)) qj JX) ?_));go_frame)
  refine bodyPost_ret (xT (P:=prog) (fn:=Tryz.f47) rfl _ rfl (yx H.o rfl) uE rE qj rfl rfl) rfl (YD.bad LE.o NE.o ((z.o).trans (zu (q+2) vy 0 w5) (λi hi e=>by omega)) _)
 have ax:=J c4
 obtain⟨sz,av⟩:=Int.eq_ofNat_of_zero_le (Xz FM.o).1
 have SZ:=J av
 have aQ:=@J (sz≤1200) (by have:=(Xz FM.o).2;omega)
 have ay:=J (λw=>zcQ sz (by have:=aQ.o;omega) w)
 by_cases c5:Ja t (xO S L t)<jJ (qQ t)
 ·have LE:=@J (qO S I L t=17) (by unfold qO;rw[if_neg c1,if_neg c2,if_neg (by simp[c3]),if_neg (by simp[c4]),if_pos c5])
  rw[av] at c5
  generalize ae:Ja t (xO S L t)=FR at*
  generalize jJ (sz:Int)=FF at*
  clear c1 c2 c3 c4
  have⟨K0,K1,K2,K3,K4,K5,K6,K7,K8,K9,aj⟩:=tZ11
  go_wp2_with ((first|((with_reducible refine zt ?_);first|(clear K0;with_reducible refine yv 31 ?_;refine zoc rfl rfl rfl ab.o T.o ?_)|(clear K2;refine zoa rfl rfl rfl k.o rfl ?_)|(clear K4;refine zoa rfl rfl rfl o.o rfl ?_)|(clear K6;refine zoa rfl rfl rfl E.o rfl ?_)|(clear K9;with_reducible refine yv 65 ?_;refine zg rfl (yk (t:=129) rfl rfl (XH _)) ?_))|(clear K1;go_at_call 74;refine HD.o.mono ?_;rintro e w3 ⟨rfl,s⟩;have m:=J s;clear s;have k:=J (za ad.o m.o id);have l:=J (m.o.obj G.o id);have a:=J (r.o.trans0 m.o);have A:=J (QV (HH.o.fr0 a.o) (HC.o.fr0 a.o) HS.o (Z.o.keep a.o) (by have:=D.o;omega)))|(clear K3;go_at_call 86;refine A.o.mono ?_;rintro e w4 ⟨ov,pv,rfl,f4,hz⟩;rw[ar.o];have HZ:=J (an.o pv ov w4 _ hz);clear hz;have B:=J f4;clear f4;have o:=J (za k.o B.o id);have u:=J (B.o.obj l.o id);have d:=J (a.o.trans0 B.o);have R:=J (Zp (HG.o.keep0 d.o) (Z.o.keep d.o) HZ.o.1 ao.o))|(clear K5;go_at_call 77;refine R.o.mono ?_;rintro e w5 ⟨rfl,f5⟩;rw[ax.o,ae];have O:=J f5;clear f5;have E:=J (za o.o O.o id);have H:=J (O.o.obj u.o id);have z:=J (d.o.trans0 O.o);have ai:=J (VR w5 (Z.o.keep z.o) FM.o))|(clear K7;go_at_call 78;refine ai.o.mono ?_;rintro e w6 ⟨rfl,f6⟩;rw[SZ.o];have F6:=J f6;clear f6;have al:=J (za E.o F6.o id);have af:=J (F6.o.obj H.o id);have ah:=J (z.o.trans0 F6.o))|(clear K8;go_at_call 79;refine(ay.o _).mono ?_;rintro e w7 ⟨rfl,f7⟩;have F7:=J f7;clear f7;have aq:=J (za al.o F7.o id);have aa:=J (F7.o.obj af.o id);have Q:=J (ah.o.trans0 F7.o))|((with_reducible refine zv ?_);clear aj;refine zi rfl (zK (ty:=129) (b:=q+2) (off:=0) (cs:=vy) rfl rfl rfl (zX aa.o (le_refl 6)) qj JX) ?_));go_frame)
  refine bodyPost_ret (xT (P:=prog) (fn:=Tryz.f47) rfl _ rfl (yx aa.o rfl) uE rE qj rfl rfl) rfl (YD.bad LE.o (by decide) ((Q.o).trans (zu (q+2) vy 0 w7) (λi hi e=>by omega)) _)
 have au:(upS (gOf L) (xC L t)).length≤1000:=by have:=qp (HH.o.gr.gok.nd.sublist (jQ (xC L t))) (λx hx=>(jQ (xC L t)).subset hx);have:=HH.o.gr.len;rw[vm] at*;simp[xt,gOf] at*;omega
 by_cases c6:6≤(upS (gOf L) (xC L t)).length
 ·have LE:=@J (qO S I L t=16) (by unfold qO;rw[if_neg c1,if_neg c2,if_neg (by simp[c3]),if_neg (by simp[c4]),if_neg c5,if_pos c6])
  rw[av] at c5
  generalize ae:Ja t (xO S L t)=FR at*
  generalize jJ (sz:Int)=FF at*
  have aN:=J au
  generalize aF:upS (gOf L) (xC L t)=UU at*
  have i6:¬(UU.length:Int)<6:=by omega
  clear c1 c2 c3 c4 au
  have⟨K0,K1,K2,K3,K4,K5,K6,K7,K8,K9,aj,aC⟩:=tZ12
  go_wp2_with ((first|((with_reducible refine zt ?_);first|(clear K0;with_reducible refine yv 31 ?_;refine zoc rfl rfl rfl ab.o T.o ?_)|(clear K2;refine zoa rfl rfl rfl k.o rfl ?_)|(clear K4;refine zoa rfl rfl rfl o.o rfl ?_)|(clear K6;refine zoa rfl rfl rfl E.o rfl ?_)|(clear aj;with_reducible refine yv 74 ?_;refine zg rfl (yk (t:=129) rfl rfl (XH _)) ?_))|(clear K1;go_at_call 74;refine HD.o.mono ?_;rintro e w3 ⟨rfl,s⟩;have m:=J s;clear s;have k:=J (za ad.o m.o id);have l:=J (m.o.obj G.o id);have a:=J (r.o.trans0 m.o);have A:=J (QV (HH.o.fr0 a.o) (HC.o.fr0 a.o) HS.o (Z.o.keep a.o) (by have:=D.o;omega)))|(clear K3;go_at_call 86;refine A.o.mono ?_;rintro e w4 ⟨ov,pv,rfl,f4,hz⟩;rw[ar.o];have HZ:=J (an.o pv ov w4 _ hz);clear hz;have B:=J f4;clear f4;have o:=J (za k.o B.o id);have u:=J (B.o.obj l.o id);have d:=J (a.o.trans0 B.o);have R:=J (Zp (HG.o.keep0 d.o) (Z.o.keep d.o) HZ.o.1 ao.o))|(clear K5;go_at_call 77;refine R.o.mono ?_;rintro e w5 ⟨rfl,f5⟩;rw[ax.o,ae];have O:=J f5;clear f5;have E:=J (za o.o O.o id);have H:=J (O.o.obj u.o id);have z:=J (d.o.trans0 O.o);have ai:=J (VR w5 (Z.o.keep z.o) FM.o))|(clear K7;go_at_call 78;refine ai.o.mono ?_;rintro e w6 ⟨rfl,f6⟩;rw[SZ.o];have F6:=J f6;clear f6;have al:=J (za E.o F6.o id);have af:=J (F6.o.obj H.o id);have ah:=J (z.o.trans0 F6.o))|(clear K8;go_at_call 79;refine(ay.o _).mono ?_;rintro e w7 ⟨rfl,f7⟩;have F7:=J f7;clear f7;have aq:=J (za al.o F7.o id);have aa:=J (F7.o.obj af.o id);have Q:=J (ah.o.trans0 F7.o);have P7:=J (HH.o.fr0 Q.o);have ak:=J (zb HZ.o.2 ((O.o.trans0 F6.o).trans0 F7.o) (λ_ _=>id));have aB:=J (yP.own ak.o (λx hx=>HH.o.ids x (Yu hx)));have aR:=P7.o.cells.2.2;have HU:=J (znb P7.o.gr (by omega) aB.o aJ.o))|(clear K9;go_at_call 87;refine HU.o.mono ?_;rintro e w8 ⟨uv,rfl,F⟩;rw[aF] at F;obtain⟨ua,uc,aI⟩:=F.1.slice.arg.form;subst aI;have F8:=J F.2;clear F;have aK:=J (za aq.o F8.o id);have ag:=J (F8.o.obj aa.o id);have az:=J (Q.o.trans0 F8.o);have aD:=J (zb ak.o F8.o (λ_ _=>id)))|((with_reducible refine zv ?_);clear aC;refine zi rfl (zK (ty:=129) (b:=q+2) (off:=0) (cs:=vy) rfl rfl rfl (zX ag.o (le_refl 6)) qj JX) ?_));go_frame)
  refine bodyPost_ret (xT (P:=prog) (fn:=Tryz.f47) rfl _ rfl (yx ag.o rfl) uE rE qj rfl rfl) rfl (YD.bad LE.o (by decide) ((az.o).trans (zu (q+2) vy 0 w8) (λi hi e=>by omega)) _)
 ·have LE:=@J (qO S I L t=0) (by unfold qO;rw[if_neg c1,if_neg c2,if_neg (by simp[c3]),if_neg (by simp[c4]),if_neg c5,if_neg c6])
  rw[av] at c5
  generalize ae:Ja t (xO S L t)=FR at*
  generalize jJ (sz:Int)=FF at*
  have aN:=J au
  generalize aF:upS (gOf L) (xC L t)=UU at*
  have i6:(UU.length:Int)<6:=by omega
  have i7:¬6≤UU.length:=c6
  clear c1 c2 c3 c4 au
  have⟨K0,K1,K2,K3,K4,K5,K6,K7,K8,K9,aj,aC,aO,aP⟩:=tZ14
  go_wp2_with ((first|((with_reducible refine zt ?_);first|(clear K0;with_reducible refine yv 31 ?_;refine zoc rfl rfl rfl ab.o T.o ?_)|(clear K2;refine zoa rfl rfl rfl k.o rfl ?_)|(clear K4;refine zoa rfl rfl rfl o.o rfl ?_)|(clear K6;refine zoa rfl rfl rfl E.o rfl ?_)|(clear aj;refine zoa rfl rfl rfl aK.o rfl ?_)|(clear aC;with_reducible refine yv 78 ?_;refine zg rfl (yk (t:=127) rfl rfl (zmq FR sz _)) ?_)|(clear aO;with_reducible refine yv 79 ?_;refine zg rfl (yk (t:=129) rfl rfl (zmo t.ver U W t.ins.length V t.outs.length Y FR sz _)) ?_))|(clear K1;go_at_call 74;refine HD.o.mono ?_;rintro e w3 ⟨rfl,s⟩;have m:=J s;clear s;have k:=J (za ad.o m.o id);have l:=J (m.o.obj G.o id);have a:=J (r.o.trans0 m.o);have A:=J (QV (HH.o.fr0 a.o) (HC.o.fr0 a.o) HS.o (Z.o.keep a.o) (by have:=D.o;omega)))|(clear K3;go_at_call 86;refine A.o.mono ?_;rintro e w4 ⟨ov,pv,rfl,f4,hz⟩;rw[ar.o];have HZ:=J (an.o pv ov w4 _ hz);clear hz;have B:=J f4;clear f4;have o:=J (za k.o B.o id);have u:=J (B.o.obj l.o id);have d:=J (a.o.trans0 B.o);have R:=J (Zp (HG.o.keep0 d.o) (Z.o.keep d.o) HZ.o.1 ao.o))|(clear K5;go_at_call 77;refine R.o.mono ?_;rintro e w5 ⟨rfl,f5⟩;rw[ax.o,ae];have O:=J f5;clear f5;have E:=J (za o.o O.o id);have H:=J (O.o.obj u.o id);have z:=J (d.o.trans0 O.o);have ai:=J (VR w5 (Z.o.keep z.o) FM.o))|(clear K7;go_at_call 78;refine ai.o.mono ?_;rintro e w6 ⟨rfl,f6⟩;rw[SZ.o];have F6:=J f6;clear f6;have al:=J (za E.o F6.o id);have af:=J (F6.o.obj H.o id);have ah:=J (z.o.trans0 F6.o))|(clear K8;go_at_call 79;refine(ay.o _).mono ?_;rintro e w7 ⟨rfl,f7⟩;have F7:=J f7;clear f7;have aq:=J (za al.o F7.o id);have aa:=J (F7.o.obj af.o id);have Q:=J (ah.o.trans0 F7.o);have P7:=J (HH.o.fr0 Q.o);have ak:=J (zb HZ.o.2 ((O.o.trans0 F6.o).trans0 F7.o) (λ_ _=>id));have aB:=J (yP.own ak.o (λx hx=>HH.o.ids x (Yu hx)));have aR:=P7.o.cells.2.2;have HU:=J (znb P7.o.gr (by omega) aB.o aJ.o))|(clear K9;go_at_call 87;refine HU.o.mono ?_;rintro e w8 ⟨uv,rfl,F⟩;rw[aF] at F;obtain⟨ua,uc,aI⟩:=F.1.slice.arg.form;subst aI;have F8:=J F.2;clear F;have aK:=J (za aq.o F8.o id);have ag:=J (F8.o.obj aa.o id);have az:=J (Q.o.trans0 F8.o);have aD:=J (zb ak.o F8.o (λ_ _=>id)))|((with_reducible refine zv ?_);clear aP;refine zi rfl (zK (ty:=129) (b:=q+2) (off:=0) (cs:=[.int .u32 t.ver,.slice U t.ins.length V,.slice W t.outs.length Y,.int .u64 FR,.int .i64 sz,.int .u64 0]) rfl rfl rfl (zX ag.o (le_refl 6)) qj (znV _ _ _ _ _ _ _ _ _ _)) ?_));go_frame)
  refine bodyPost_ret (xT (P:=prog) (fn:=Tryz.f47) rfl _ rfl (yx (cs:=[.int .u32 t.ver,.slice U t.ins.length V,.slice W t.outs.length Y,.int .u64 FR,.int .i64 sz,.int .u64 0]) ag.o rfl) uE rE qj rfl rfl) rfl ⟨_,_,by rw[LE.o];rfl,az.o.trans (zu (q+2) [.int .u32 t.ver,.slice U t.ins.length V,.slice W t.outs.length Y,.int .u64 FR,.int .i64 sz,.int .u64 0] 0 w8) (λi hi e=>by omega),⟨rfl,znV _ _ _ _ _ _ _ _ _ _⟩,λ_=>⟨by rw[ae,SZ.o];rfl,yU (zb aD.o (zu (q+2) [.int .u32 t.ver,.slice U t.ins.length V,.slice W t.outs.length Y,.int .u64 FR,.int .i64 sz,.int .u64 0] 0 w8) (λj hj e=>by have:=(aD.o.lt j hj).1;have:=m.o.size;have:=Z2.o;omega)) (by rw[hq];have:=m.o.size;have:=Z2.o;omega)⟩⟩
end
structure JW (w0 w:World) (p ma ms g:Nat) (X:Nat→Prop) (C:zd→List Value) (L:List yd):Prop where
 obj:w.heap[p]? =some (.cells #[.map (some ma),.map (some ms),.pointer (some ⟨g,0,none⟩)] 137 (0,0))
 am:∃M,qJ w ma M∧∀x cs,(x,cs)∈M↔∃e∈L,e.id=x∧cs=C x
 sm:∃M,zaI w ms M∧∀q x,(q,x)∈M↔∃e∈L,q∈zZ e.tx∧e.id=x
 data:∀e∈L,Kept X w (λw=>zhq w e (C e.id))
 apart:p≠ma∧p≠ms∧ma≠ms
 lo3:w0.heap.size≤p∧w0.heap.size≤ma∧w0.heap.size≤ms
 subX:X ma∧X ms
 fr:Fr No w0 w
 ok:∀x∈xt L,zY x
section
variable {w0 w w':World} {p ma ms g N:Nat} {VG X:Nat→Prop} {C:zd→List Value} {L:List yd}
theorem yq.m (h:yq w0 w p ma ms g VG X C L N):JW w0 w p ma ms g X C L:=
 ⟨h.obj,h.am,h.sm,h.data,⟨h.apart.1,h.apart.2.1,h.apart.2.2.1⟩,h.lo3,⟨h.sub _ (.inr (.inl rfl)),h.sub _ (.inr (.inr (.inl rfl)))⟩,h.fr,h.ids⟩
theorem JW.at_ (h:JW w0 w p ma ms g X C L) (b:GC w0 w g VG (gOf L) N) (a:¬VG p∧¬VG ma∧¬VG ms) (c:∀j,poV p ma ms VG j→X j):yq w0 w p ma ms g VG X C L N:=
 ⟨h.obj,b,h.am,h.sm,h.data,⟨h.apart.1,h.apart.2.1,h.apart.2.2,a⟩,h.lo3,c⟩
theorem JW.frV (h:JW w0 w p ma ms g X C L) {U X':Nat→Prop} (f:Fr U w w') (b:¬U p∧¬U ma∧¬U ms) (k:∀j,U j→w0.heap.size≤j) (c:∀j,U j→X j) (m:∀j,j<w.heap.size→X' j→X j) (q:X' ma∧X' ms):JW w0 w' p ma ms g X' C L:=by
 obtain⟨M,l,o⟩:=h.am
 obtain⟨M',a,d⟩:=h.sm
 exact {h with
  obj:=f.obj h.obj b.1
  am:=⟨M,l.keep f b.2.1,o⟩
  sm:=⟨M',a.keep f b.2.2,d⟩
  data:=λe n=>(h.data e n).step (f.mono c) m
  fr:=h.fr.trans f (λi hi e=>by have:=k i e;omega)
  subX:=q}
theorem JW.fr0 (h:JW w0 w p ma ms g X C L) (f:Fr No w w'):JW w0 w' p ma ms g X C L:=
 h.frV f ⟨id,id,id⟩ (λ_ h=>h.elim) (λ_ h=>h.elim) (λ_ _ h=>h) h.subX
theorem JW.cells (h:JW w0 w p ma ms g X C L):w.cell? ⟨p,0,none⟩=some (.map (some ma))∧w.cell? ⟨p,1,none⟩=some (.map (some ms))∧w.cell? ⟨p,2,none⟩=some (.pointer (some ⟨g,0,none⟩)):=by
 have:=zq h.obj
 exact⟨by simpa using this 0 _ rfl,by simpa using this 1 _ rfl,by simpa using this 2 _ rfl⟩
structure Xb (w0 w:World) (p ma ms g:Nat) (X:Nat→Prop) (C:zd→List Value) (L:List yd) (e:yd) (m:Nat):Prop where
 obj:w.heap[p]? =some (.cells #[.map (some ma),.map (some ms),.pointer (some ⟨g,0,none⟩)] 137 (0,0))
 am:∃M,qJ w ma M∧∀x cs,(x,cs)∈M↔∃e∈L,e.id=x∧cs=C x
 sm:∃M,zaI w ms M∧∀q x,(q,x)∈M↔q∉(zZ e.tx).take m∧∃e∈L,q∈zZ e.tx∧e.id=x
theorem Xb.cells {e:yd} {m:Nat} (h:Xb w0 w p ma ms g X C L e m):w.cell? ⟨p,0,none⟩=some (.map (some ma))∧w.cell? ⟨p,1,none⟩=some (.map (some ms)):=by
 have:=zq h.obj
 exact⟨by simpa using this 0 _ rfl,by simpa using this 1 _ rfl⟩
theorem Xb.fr0 {e:yd} {m:Nat} (h:Xb w0 w p ma ms g X C L e m) (f:Fr No w w'):Xb w0 w' p ma ms g X C L e m:=by
 obtain⟨M,c,d⟩:=h.am
 obtain⟨M',a,b⟩:=h.sm
 exact⟨f.obj h.obj id,⟨M,c.keep f id,d⟩,⟨M',a.keep f id,b⟩⟩
theorem zcj {ps:List zd} {q:zd} (c:ps.Nodup) (h:ps[n]? =some q):q∉ps.take n:=λb=>by
 obtain⟨i,hi⟩:=List.mem_iff_getElem?.1 b
 have a:i<n:=by
  have:=(List.getElem?_eq_some_iff.1 hi).1
  rw[length_take] at this
  omega
 rw[List.getElem?_take_of_lt a] at hi
 have:=(List.getElem?_inj (List.getElem?_eq_some_iff.1 hi).1 c).1 (hi.trans h.symm)
 omega
theorem zf5 {l:List zd} {x:zd} (h:l[n]? =some x):xj L (l.take (n+1))=(xj L (l.take n)).filter λe=>decide (e.id≠x):=by
 unfold xj
 rw[List.filter_filter,take_add_one,h]
 refine List.filter_congr λe _=>?_
 by_cases h1:e.id=x<;>by_cases h2:e.id∈l.take n<;>simp[h1,h2]
theorem zmD (h:JW w0 w p ma ms g X C L) (aA:L.Pairwise λa b=>∀q∈zZ a.tx,q∉zZ b.tx) (aI:(xt L).Nodup) (aF:∀e∈L,e.tx.ins.length≤1000) {l:List zd} (hl:Kept (λj=>j=ma∨j=ms) w (λw=>yP w v l)) (hs:∀x∈l,x∈xt L) (aG:l.Nodup) (bh:l.length≤100000):
  Calls prog 92 #[.pointer (some ⟨p,0,none⟩),v] w λe w'=>e=.returned (.tuple #[])∧JW w0 w' p ma ms g X C (xj L l)∧Fr (λj=>j=ma∨j=ms) w w':=by
 have zp:=vR
 have zh:=yS
 obtain⟨va,vc,rfl⟩:=hl.now.2.form
 have HL:=J hl
 have HH:=J h
 have AP:=J aA
 have ND:=J aI
 have aR:=J aF
 have HS:=J hs
 have aS:=J aG
 have AA:=J h.apart
 clear hl h aA aI aF hs aG
 go_enter Tryz.func92,Tryz.ntmps92
 go_wp2_with fail
 go_loopw [10] (λiv wr=>∃n:Nat,iv=.int .i64 n∧n≤l.length∧JW w0 wr p ma ms g X C (xj L (l.take n))∧Fr (λj=>j=ma∨j=ms) w wr) (λiv _=>l.length-(intOf iv).toNat)
 case atStart=>exact⟨0,rfl,zero_le _,by rw[List.take_zero,XT];exact HH.o,Fr.refl _ _⟩
 case round=>
  obtain⟨n,rfl,hn,aL,aD⟩:=hrel
  have D:=J aL
  have FR:=J aD
  clear aL aD
  by_cases a7:n<l.length
  ·have i1:(n:Int)<(l.length:Int):=by omega
   obtain⟨x,hx⟩:∃x,l[n]? =some x:=⟨_,getElem?_eq_getElem a7⟩
   obtain⟨b,off,bf,e0,hr,-⟩:=(HL.o wr FR.o).at_ hx
   cases e0
   obtain⟨e,T,U⟩:=mem_map.1 (HS.o x (mem_of_getElem? hx))
   have aJ:x∉l.take n:=zcj aS.o hx
   have EM:=@J (e∈xj L (l.take n)) (Zq.2 ⟨T,by rw[U];exact aJ⟩)
   have EX:=J U
   have ag:=J (D.o.ok x (by rw[←U];exact mem_map.2 ⟨e,EM.o,rfl⟩))
   have XL:=J (zx ag.o)
   have R1:=J hr
   have aT:=@J ((xt (xj L (l.take n))).Nodup) (by rw[XN];exact ND.o.filter _)
   have al:=J (aR.o e T)
   have aO:=@J (∀a∈xj L (l.take n),a≠e→∀q∈zZ e.tx,q∉zZ a.tx) (λa B ai q F aM=>by
    have d:=(List.pairwise_iff_getElem.1 AP.o)
    obtain⟨i,hi,rfl⟩:=getElem_of_mem (Zq.1 B).1
    obtain⟨k,hk,E⟩:=getElem_of_mem T
    rcases Nat.lt_trichotomy i k with hik|hik|hik
    ·exact d i k hi hk hik q aM (by rw[E];exact F)
    ·subst hik;exact ai E
    ·exact d k i hk hi hik q (by rw[E];exact F) aM)
   have aZ:=J (zf5 (L:=L) hx)
   have ao:=@J (ma<wr.heap.size∧ms<wr.heap.size) (by
    obtain⟨M',d,-⟩:=D.o.am
    obtain⟨M2,u,-⟩:=D.o.sm
    exact⟨d.lt,u.lt⟩)
   have bn:=al.o
   clear hr hx aJ U T
   generalize bg:xj L (l.take n)=V at*
   have RX:=J (zy wr (zf x) 41)
   have FA:=J ((frN wr).alloc (.cells (zf x).toArray 41))
   have⟨K0,K1⟩:=tZ2
   go_wp2_with ((first|((with_reducible refine zt ?_);clear K0;refine zoc rfl rfl rfl R1.o XL.o ?_)|((with_reducible refine zv ?_);clear K1;refine zol (w:=wr) (cs:=zf x) rfl rfl rfl rfl XL.o zU ?_));go_frame)
   generalize bk:wr.heap.size=qx at*
   generalize ba:wr.alloc (.cells (zf x).toArray 41)=wa at*
   have FD:=J (FA.o.drew)
   have s:=J (D.o.fr0 FD.o)
   have af:=J (za RX.o (frN wa).drew id)
   clear ba
   obtain⟨M,hM,hm⟩:=s.o.am
   obtain⟨ia,ic,oa,oc,ah⟩:=(s.o.data e EM.o).now.form
   have W:YF C V x=[.int .u32 e.tx.ver,.slice ia e.tx.ins.length ic,.slice oa e.tx.outs.length oc,.int .u64 e.fee,.int .i64 e.size,.int .u64 e.added]:=by
    unfold YF
    rw[if_pos (show x∈xt V from mem_map.2 ⟨e,EM.o,EX.o⟩),←EX.o,ah]
   have LK:=J (λw' (h':qJ w' ma M)=>Yq (w:=w') ag.o h' hm W)
   have HM:=J hM
   have TQ:=@J (TxQ wa.drew e.tx [.int .u32 e.tx.ver,.slice ia e.tx.ins.length ic,.slice oa e.tx.outs.length oc]) (by
    obtain⟨bq,d,u⟩:=(s.o.data e EM.o).now
    rw[ah] at d
    obtain⟨bl,bm,bo,bp,rfl⟩:=u.form
    unfold zmE at d
    simp only[List.cons_append,nil_append,List.cons.injEq,and_true,true_and] at d
    rw[d.1,d.2]
    exact u)
   clear hM hm ah W
   refine wrLx [ff,ff,ff,ff,ff,ff,ff,tt,ff,ff] (λw'=>w'.cell? ⟨p,0,none⟩=some (.map (some ma))∧w'.rangeAt qx 0 (zf x)∧qJ w' ma M) ?_ (λK hK=>?_)
   ·exact⟨s.o.cells.1,af.o,HM.o⟩
   generalize wa.drew=wd at*
   repeat((first|(refine zl rfl ?_;constructor;constructor;(focus(first|exact zog rfl (λw h=>h.2.1) XL.o|exact λw' h=>zM (t:=133) rfl rfl rfl (LK.o w' h.2.2)|exact λw' _=>vY (t:=129) (f:=0) rfl rfl (zjA e.tx.ver ia oa e.tx.ins.length ic e.tx.outs.length oc e.fee e.size e.added w')|(rintro w' ⟨s1,s2,s3⟩;exact goS))))|(refine zm rfl ?_));try simp only[Act.put,pA,pB,pC])
   (refine zF rfl (λK' hK'=>?_))
   go_simp
   refine(jd wd TQ.o al.o).mono ?_
   rintro e' w3 ⟨pv,rfl,aj,f3⟩
   obtain⟨pa,pc,a8⟩:=aj.slice.arg.form
   subst a8
   have Y:=J f3
   have PO:=J aj
   clear f3 aj
   refine nXt hK' ?_ λhS=>?_
   ·exact⟨(s.o.fr0 Y.o).cells.1,za af.o Y.o id,HM.o.keep Y.o id⟩
   try simp only[Act.put,pA,pB,pC]
   repeat((first|(refine zl rfl ?_;constructor;constructor;(focus(first|(rintro w' ⟨s1,s2,s3⟩;exact goS))))|(refine zm rfl ?_));try simp only[Act.put,pA,pB,pC])
   refine zL (hK.out _ _ ?_)
   have ad:=J (s.o.fr0 Y.o)
   have aw:=@J (∀q∈zZ e.tx,q.ok) (λq F=>by obtain⟨y,hy,rfl⟩:=mem_map.1 F;exact TQ.o.oks.1 y hy)
   have ae:=J (vM e.tx)
   have aX:=J (za af.o Y.o id)
   have aP:=@J (Xb w0 w3 p ma ms g X C V e 0) (⟨ad.o.obj,ad.o.am,by
    obtain⟨M',d,u⟩:=ad.o.sm
    exact⟨M',d,λq y=>by rw[u];simp⟩⟩)
   have aV:=@J (∀j,(Value.slice pa e.tx.ins.length pc).ownBlock=some j→wd.heap.size≤j) (λj hj=>(PO.o.lt j hj).1)
   have aq:=@J (ma<wd.heap.size∧ms<wd.heap.size∧p<wd.heap.size) (by
    obtain⟨M',d,-⟩:=s.o.sm
    exact⟨HM.o.lt,d.lt,yF s.o.obj⟩)
   go_wp2_with fail
   go_loopw [23] (λiv R=>∃m:Nat,iv=.int .i64 m∧m≤e.tx.ins.length∧Xb w0 R p ma ms g X C V e m∧Fr (λj=>j=ms) w3 R) (λiv _=>e.tx.ins.length-(intOf iv).toNat)
   case atStart=>exact⟨0,rfl,zero_le _,aP.o,Fr.refl _ _⟩
   case round=>
    obtain⟨m,rfl,hm,aB,aC⟩:=hrel
    rename World=>R
    have DI:=J aB
    have FI:=J aC
    clear aB aC
    by_cases hmt:m<e.tx.ins.length
    ·have i2:(m:Int)<(e.tx.ins.length:Int):=by omega
     obtain⟨q,F⟩:∃q,(zZ e.tx)[m]? =some q:=⟨_,getElem?_eq_getElem (by rw[ae.o];exact hmt)⟩
     have ax:=J (aw.o q (mem_of_getElem? F))
     have aW:=J (zb PO.o FI.o (λj hj e=>by have:=aV.o j hj;have:=aq.o;omega))
     have aK:xL R (.slice pa e.tx.ins.length pc) (zZ e.tx):=⟨aw.o,by rw[ae.o];exact aW.o.slice.arg⟩
     obtain⟨b2,bd,bc,e2,aN,-⟩:=aK.at_ F
     injection e2 with e3 e4 e5
     subst e3
     have R2:=J aN
     have PL:=J (z6 ax.o)
     have RQ:=J (zy R (zn q) 95)
     have FQ:=J ((frN R).alloc (.cells (zn q).toArray 95))
     have TK:=@J (∀y,y∉(zZ e.tx).take (m+1)↔y≠q∧y∉(zZ e.tx).take m) (λy=>by
      rw[take_add_one,F]
      simp[and_comm])
     clear aN F e4 e5 aK
     have⟨K0,K1⟩:=tZ2
     go_wp2_with ((first|((with_reducible refine zt ?_);clear K0;refine zod rfl rfl rfl R2.o PL.o ?_)|((with_reducible refine zv ?_);clear K1;refine zom (w:=R) (cs:=zn q) rfl rfl rfl rfl PL.o yK ?_));go_frame)
     generalize bj:R.heap.size=qq at*
     generalize bb:R.alloc (.cells (zn q).toArray 95)=wb at*
     have an:=J FQ.o.drew
     have o:=J (DI.o.fr0 an.o)
     have ay:=J (za RQ.o (frN wb).drew id)
     clear bb
     refine wrLx [ff,ff,ff,ff,ff,tt] (λw'=>w'.cell? ⟨p,1,none⟩=some (.map (some ms))∧w'.rangeAt qq 0 (zn q)) ?_ (λK hK=>?_)
     ·exact⟨o.o.cells.2,ay.o⟩
     generalize wb.drew=z1 at*
     obtain⟨M2,I,P⟩:=o.o.sm
     obtain⟨w5,M5,A,Q,H,O,-⟩:=I.del JA.keyed V0 (λ_ _=>vw) (qz ax.o) 0 95
     have ab:=J A
     have S:=J O.fr
     have au:=@J (p≠ms∧ma≠ms) (⟨AA.o.2.1,AA.o.2.2⟩)
     have ak:=@J (Xb w0 w5 p ma ms g X C V e (m+1)) (⟨S.o.obj o.o.obj au.o.1,by
      obtain⟨Ma,d,u⟩:=o.o.am
      exact⟨Ma,d.keep S.o au.o.2,u⟩,⟨M5,Q,λy z=>by
      rw[H y z,P,TK.o]
      exact⟨λ⟨a,b,c⟩=>⟨⟨a,b⟩,c⟩,λ⟨⟨a,b⟩,c⟩=>⟨a,b,c⟩⟩⟩⟩)
     have F5:=@J (Fr (λj=>j=ms) w3 w5) ((FI.o.trans0 an.o).trans S.o (λj _ e=>e))
     have R5:=J (za ay.o S.o (λe=>by have:=aq.o;have:=Y.o.size;have:=FI.o.size;omega))
     clear A Q H O I P
     repeat((first|(refine zl rfl ?_;constructor;constructor;(focus(first|exact zof rfl (λw h=>h.2) PL.o|(rintro w' ⟨s1,s2⟩;exact goS))))|(refine zm rfl ?_));try simp only[Act.put,pA,pB,pC])
     (refine zF rfl (λK' hK'=>?_))
     refine yg (jI rfl rfl rfl ab.o) ?_
     refine nXt hK' ?_ λhS=>?_
     ·exact⟨ak.o.cells.2,R5.o⟩
     try simp only[Act.put]
     refine zL (hK.out _ _ ?_)
     go_wp2_with fail
     go_roundw
     case rel=>exact⟨m+1,by go_num,by omega,ak.o,F5.o⟩
     case measure=>simp[intOf];omega
    ·have aH:m=e.tx.ins.length:=by omega
     have i2:¬(m:Int)<(e.tx.ins.length:Int):=by omega
     have a1:=@J ((zZ e.tx).take m=zZ e.tx) (by rw[aH,←ae.o,take_length])
     have aY:=J (za aX.o FI.o (λe=>by have:=ao.o;omega))
     clear aH
     go_wp2_with fail
     have aa:=J ((frN R).drew)
     have o:=J (DI.o.fr0 aa.o)
     have az:=J (za aY.o aa.o id)
     refine wrLx [ff,ff,ff,ff,ff,tt] (λw'=>w'.cell? ⟨p,0,none⟩=some (.map (some ma))∧w'.rangeAt qx 0 (zf x)) ?_ (λK hK=>?_)
     ·exact⟨o.o.cells.1,az.o⟩
     generalize R.drew=z1 at*
     obtain⟨M2,I,P⟩:=o.o.am
     obtain⟨w5,M5,A,Q,H,O,-⟩:=I.del xR.keyed Qf (λ_ _=>y3) (yu ag.o) 0 41
     have ab:=J A
     have S:=J O.fr
     have ar:=@J (p≠ma∧ms≠ma) (⟨AA.o.1,λe=>AA.o.2.2 e.symm⟩)
     have aQ:=@J (∀a∈V,a.id=x→a=e) (λa B r=>by
      obtain⟨i,hi,aE⟩:=getElem_of_mem B
      obtain⟨k,hk,E⟩:=getElem_of_mem EM.o
      have d:(xt V)[i]? =some x:=by unfold xt;rw[getElem?_map,getElem?_eq_getElem hi,aE];exact congrArg some r
      have u:(xt V)[k]? =some x:=by unfold xt;rw[getElem?_map,getElem?_eq_getElem hk,E];exact congrArg some EX.o
      have:=(List.getElem?_inj (List.getElem?_eq_some_iff.1 d).1 aT.o).1 (d.trans u.symm)
      subst this
      exact aE.symm.trans E)
     have Z:=@J (Fr (λj=>j=ma∨j=ms) wr w5) ((((FD.o.trans0 Y.o).of0.trans FI.o (λj _ e=>.inr e)).trans0 aa.o).trans S.o (λj _ e=>.inl e))
     have av:=@J (JW w0 w5 p ma ms g X C (xj L (l.take (n+1)))) (by
      rw[aZ.o]
      refine⟨S.o.obj o.o.obj ar.o.1,⟨M5,Q,λy cs=>?_⟩,?_,λa B=>?_,AA.o,D.o.lo3,D.o.subX,D.o.fr.trans Z.o (λi hi e=>by have:=D.o.lo3;rcases e with e|e<;>omega),λy hy=>?_⟩
      ·rw[H y cs,P]
       constructor
       ·rintro⟨d,a,B,r,rfl⟩
        exact⟨a,mem_filter.2 ⟨B,by simpa[r] using d⟩,r,rfl⟩
       ·rintro⟨a,B,r,rfl⟩
        obtain⟨d,u⟩:=mem_filter.1 B
        exact⟨by simpa[r] using u,a,d,r,rfl⟩
      ·obtain⟨M6,d,u⟩:=o.o.sm
       refine⟨M6,d.keep S.o ar.o.2,λq y=>?_⟩
       rw[u,a1.o]
       constructor
       ·rintro⟨F,a,B,G,rfl⟩
        refine⟨a,mem_filter.2 ⟨B,?_⟩,G,rfl⟩
        simp only[decide_eq_true_eq]
        intro r
        rw[aQ.o a B r] at G
        exact F G
       ·rintro⟨a,B,G,rfl⟩
        obtain⟨d,u⟩:=mem_filter.1 B
        refine⟨λF=>aO.o a d (λe=>?_) q F G,a,d,G,rfl⟩
        simp only[decide_eq_true_eq] at u
        exact u (by rw[e];exact EX.o)
      ·exact(D.o.data a (mem_filter.1 B).1).step (Z.o.mono (λj e=>by rcases e with e|e;rw[e];exact D.o.subX.1;rw[e];exact D.o.subX.2)) (λ_ _ h=>h)
      ·obtain⟨a,B,a6⟩:=mem_map.1 hy
       exact D.o.ok y (mem_map.2 ⟨a,(mem_filter.1 B).1,a6⟩))
     have R5:=J (za az.o S.o (λe=>by have:=ao.o;omega))
     have aU:=J av.o.cells.1
     clear A Q H O I P
     repeat((first|(refine zl rfl ?_;constructor;constructor;(focus(first|exact zog rfl (λw h=>h.2) XL.o|(rintro w' ⟨s1,s2⟩;exact goS))))|(refine zm rfl ?_));try simp only[Act.put,pA,pB,pC])
     (refine zF rfl (λK' hK'=>?_))
     refine yg (jI rfl rfl rfl ab.o) ?_
     refine nXt hK' ?_ λhS=>?_
     ·exact⟨aU.o,R5.o⟩
     try simp only[Act.put]
     refine zL (hK.out _ _ ?_)
     go_wp2_with fail
     go_roundw
     case rel=>exact⟨n+1,by go_num,by omega,av.o,FR.o.trans Z.o (λ_ _ h=>h)⟩
     case measure=>simp[intOf];omega
  ·have ai:n=l.length:=by omega
   have i1:¬(n:Int)<(l.length:Int):=by omega
   have PE:=@J (JW w0 wr p ma ms g X C (xj L l)) (by have:=D.o;rw[ai,take_length] at this;exact this)
   go_wp2_with fail
   refine bodyPost_end (results_none rfl _ _ _) rfl ?_
   exact⟨rfl,PE.o,FR.o⟩
end
section
open Go.ChangeShapes Go.WideShapes Go.Deep
section
variable {H:Type} {enc:TypeId×Value→H} {w:World} {base:Nat} {spare:Nat→Bool} {held:Bool}
end
theorem ziw {a b:Option Addr} {n m c d:Nat} (h:Value.slice a n c=.slice b m d):a=b∧n=m∧c=d:=by
 injection h with h1 h2 h3
 exact⟨h1,h2,h3⟩
theorem zej {P:Program} (w:World) (t ty e:TypeId) (d:P.underlying t=some (.slice e)) (i:TypeInfo) (hi:P.info? e=some i) (base:Option Addr) (n a c:Nat) (b:n≤a):
  (Builtin.append_ #[t,t] ty #[.slice base n a,.slice none 0 c]).run P w=.ok (.slice base n a) w:=by
 cases base<;>simp[Builtin.append_,run_underlying d,sizeOf,typeInfo,hi,b,storeCells,loadCells,Builtin.lenOf,Builtin.firstCells]
theorem zij {α:Type} {k:Nat} {q:World→α→List Value→Prop} {w:World} {j:Option Addr} {n s:Nat} {L:List α} (g:0<k) (r:∀w d cs,q w d cs→cs.length=k) (h:Kept V w (λw=>qT k q w (.slice j n s) L)):∃css:List (List Value),css.length=L.length∧∀(i:Nat) (d:α) (cs:List Value),L[i]? =some d→css[i]? =some cs→∃b off,j=some ⟨b,off,none⟩∧Kept V w (λw=>w.rangeAt b (off+i*k) cs∧q w d cs):=by
 have a:∀i:Fin L.length,∃cs,∃b off,j=some ⟨b,off,none⟩∧Kept V w (λw=>w.rangeAt b (off+i.1*k) cs∧q w L[i.1] cs):=λi=>by
  obtain⟨b,off,p,cs,e,-,-,o⟩:=VF g r h (getElem?_eq_getElem i.2)
  exact⟨cs,b,off,(ziw e).1,o⟩
 refine⟨List.ofFn (λi=>Classical.choose (a i)),by simp,λi d cs m l=>?_⟩
 have hi:i<L.length:=(List.getElem?_eq_some_iff.1 m).1
 have c:cs=Classical.choose (a ⟨i,hi⟩):=by
  rw[List.getElem?_ofFn,dif_pos hi] at l
  exact(Option.some.inj l).symm
 have f:L[i]=d:=(List.getElem?_eq_some_iff.1 m).2
 have:=Classical.choose_spec (a ⟨i,hi⟩)
 rw[←c] at this
 dsimp only at this
 rw[f] at this
 exact this
theorem InQ.len {w:World} {x:InD} (h:InQ w x cs):cs.length=34:=by
 obtain⟨b,c,rfl,a,-⟩:=h
 exact vC a _
theorem zfO (w:World) {B:Nat} {xs:List Value} {L:List InD} (F:w.ownsRow B 108 34 v n xs) (I:Kept V w (λw=>Vc w x L)) (hn:n+L.length≤100000) (U:B≤w.heap.size):
  ∃(css:List (List Value)) (t:Value) (w':World),(Builtin.append_ #[32,32] 32 #[v,x]).run prog w=.ok t w'∧css.length=L.length∧(∀(i:Nat) (d:InD) (cs:List Value),L[i]? =some d→css[i]? =some cs→Kept V w (λw=>InQ w d cs))∧(∀cs∈css,cs.length=34)∧
   w'.ownsRow B 108 34 t (n+L.length) (xs++css.flatMap id)∧Fr (λj=>v.ownBlock=some j) w w'∧Yd w v t:=by
 obtain⟨va,K,rfl⟩:=I.now.form
 obtain⟨css,l,m⟩:=zij (by decide) (λ_ _ _ h=>h.len) I
 have q:∀cs∈css,cs.length=34∧∀u∈cs,u.oneCell'=true:=λcs o=>by
  obtain⟨i,hi⟩:=List.mem_iff_getElem?.1 o
  have D:i<L.length:=by rw[←l];exact(List.getElem?_eq_some_iff.1 hi).1
  obtain⟨_,_,_,r⟩:=m i L[i] cs (getElem?_eq_getElem D) hi
  obtain⟨-,ka,kc,rfl,Z,_⟩:=r.now
  exact⟨vC Z _,Jj⟩
 obtain⟨i,hi,hz,hs,X⟩:=info_parts zg3
 have s:(css.flatMap id).length=L.length*34:=by rw[xI id 34 css (λcs o=>(q cs o).1),l]
 cases hva:va with
 |none=>
  have W:L=[]:=by
   cases L with
   |nil=>rfl
   |cons d L=>
    have T:0<css.length:=by rw[l];simp
    obtain⟨b,off,e,_⟩:=m 0 d css[0] rfl (getElem?_eq_getElem T)
    rw[hva] at e
    cases e
  subst W
  have A:css=[]:=List.eq_nil_of_length_eq_zero l
  subst A
  obtain⟨a,c,e,hle⟩:∃a c,v=.slice a n c∧n≤c:=by
   rcases F.2 with⟨rfl,rfl⟩|⟨g,R,S,rfl,_,_,h,_⟩
   ·exact⟨none,0,rfl,le_refl _⟩
   ·exact⟨_,_,rfl,h⟩
  subst e
  refine⟨[],_,w,zej w _ _ _ XB i hi a n c K hle,rfl,(λi d cs h=>by simp at h),(λ_ h=>by cases h),?_,Fr.refl _ _,λk h=>.inl h⟩
  simpa using F
 |some ad=>
  rw[hva] at m
  have p:∀j u,(css.flatMap id)[j]? =some u→w.cell? (ad.add j)=some u:=λj u G=>by
   have Y:j<L.length*34:=by rw[←s];exact(List.getElem?_eq_some_iff.1 G).1
   have C:j / 34<L.length:=by omega
   obtain⟨b,off,e,r⟩:=m (j / 34) L[j / 34] css[j / 34] (getElem?_eq_getElem C) (getElem?_eq_getElem (by rw[l];exact C))
   have hr:=r.now.1
   obtain rfl:=Option.some.inj e
   have y:=Zy id 34 css (λcs o=>(q cs o).1) (j / 34) css[j / 34] (getElem?_eq_getElem (by rw[l];exact C)) (j % 34) (by omega)
   rw[show j / 34*34+j % 34=j by omega] at y
   have z:=hr (j % 34) u (by rw[←G,y];rfl)
   rw[Zv]
   rw[show off+j / 34*34+j % 34=off+j by omega] at z
   exact z
  obtain⟨t,w',M,N,O,a4,Q⟩:=zae (P:=prog) w B 32 32 108 34 64 _ XB i hi hz hs X rfl (by decide) v n xs F ad L.length K (css.flatMap id) p s (λu E=>by
   obtain⟨cs,o,E⟩:=List.mem_flatMap.1 E
   exact(q cs o).2 u E) (by omega) (by unfold maxLen;omega) U
  exact⟨css,t,w',M,l,λi d cs y z=>(m i d cs y z).elim λb h=>h.elim λoff h=>λw' f=>(h.2 w' f).2,λcs o=>(q cs o).1,N,(Fr.refl _ w).grown O (λk e=>.inr e),Q⟩
end
theorem jv (w:World) {l:List yI} (i:xu w v l) (D:l.length≤100000):
  Calls prog 81 #[v] w λe w'=>∃j,e=.returned j∧w'.ownsRow w.heap.size 103 33 j l.length (l.flatMap zJ)∧Fr No w w':=by
 have C:∀(w:World) (a:Option Addr) (n c q o:Nat),(binOp .eql 22 (.slice a n c) (.slice none q o)).run prog w=.ok (.bool a.isNone) w:=λw a n c q o=>Lib.run_eql_slice_nil w _ _ a n c q o qN
 by_cases hnil:v=.slice none 0 0
 ·subst hnil
  have B:l=[]:=by
   obtain⟨a,c,h⟩:=(i.2).form
   injection h with h1 h2 h3
   exact List.eq_nil_of_length_eq_zero h2.symm
  subst B
  go_enter Tryz.func81,Tryz.ntmps81
  go_wp2
  go_ret
  exact⟨_,rfl,World.ownsRow_nil _ _ _ _,Fr.refl _ _⟩
 ·have u:xG (w.alloc (.cells #[] 103)) v l.length (l.flatMap zJ):=(i.2).keep ((Fr.refl _ _).alloc _)
  obtain⟨j,w',d,t,s,-,p⟩:=jH (P:=prog) (w.alloc (.cells #[] 103)) w.heap.size 22 22 103 33 40 _ qN JD rfl (by decide) (.slice (some ⟨w.heap.size,0,none⟩) 0 0) 0 [] (World.ownsRow_made w #[] 0 (le_refl _) (zero_le _) rfl) v l.length (l.flatMap zJ) u (ze7 i.1) (ze8) (by omega) (by unfold maxLen;omega) (by simp) hnil
  have r:Fr No w w':=Fr.grown ((Fr.refl _ w).alloc _) s (λk A=>by simp[Value.ownBlock] at A;exact .inl (by omega))
  have f:∃b n c,v=.slice (some b) n c:=by
   rcases(i.2) with(⟨h,_⟩|⟨g,go,z,h,_⟩)|⟨a0,z,h,-⟩
   ·exact absurd h hnil
   ·exact⟨_,_,_,h⟩
   ·exact⟨_,_,_,h⟩
  obtain⟨b,n,c,rfl⟩:=f
  have m:=J d
  have y:=@J (w'.ownsRow w.heap.size 103 33 j l.length (l.flatMap zJ)) (by simpa using t)
  have x:=J r
  clear u d t s p r hnil
  go_enter Tryz.func81,Tryz.ntmps81
  go_wp2_with (at_builtin;refine zQ rfl rfl rfl rfl m.o ?_)
  go_ret
  exact⟨_,rfl,y.o,x.o⟩
theorem Vh (w:World) {l:List Int} (p:zbo w v l) (D:l.length≤100000):
  Calls prog 82 #[v] w λe w'=>∃i,e=.returned i∧w'.ownsRow w.heap.size 5 1 i l.length (l.map zN)∧Fr No w w':=by
 have C:∀(w:World) (a:Option Addr) (n c q m:Nat),(binOp .eql 106 (.slice a n c) (.slice none q m)).run prog w=.ok (.bool a.isNone) w:=λw a n c q m=>Lib.run_eql_slice_nil w _ _ a n c q m XA
 by_cases hnil:v=.slice none 0 0
 ·subst hnil
  have B:l=[]:=by
   obtain⟨a,c,h⟩:=(p.2).form
   injection h with h1 h2 h3
   exact List.eq_nil_of_length_eq_zero h2.symm
  subst B
  go_enter Tryz.func82,Tryz.ntmps82
  go_wp2
  go_ret
  exact⟨_,rfl,World.ownsRow_nil _ _ _ _,Fr.refl _ _⟩
 ·have u:xG (w.alloc (.cells #[] 5)) v l.length (l.map zN):=(p.2).keep ((Fr.refl _ _).alloc _)
  obtain⟨i,w',d,t,s,-,o⟩:=jH (P:=prog) (w.alloc (.cells #[] 5)) w.heap.size 106 106 5 1 1 _ XA XX rfl (by decide) (.slice (some ⟨w.heap.size,0,none⟩) 0 0) 0 [] (World.ownsRow_made w #[] 0 (le_refl _) (zero_le _) rfl) v l.length (l.map zN) u (by simp) (zcA) (by omega) (by unfold maxLen;omega) (by simp) hnil
  have r:Fr No w w':=Fr.grown ((Fr.refl _ w).alloc _) s (λk A=>by simp[Value.ownBlock] at A;exact .inl (by omega))
  have f:∃b n c,v=.slice (some b) n c:=by
   rcases(p.2) with(⟨h,_⟩|⟨g,go,z,h,_⟩)|⟨a0,z,h,-⟩
   ·exact absurd h hnil
   ·exact⟨_,_,_,h⟩
   ·exact⟨_,_,_,h⟩
  obtain⟨b,n,c,rfl⟩:=f
  have j:=J d
  have y:=@J (w'.ownsRow w.heap.size 5 1 i l.length (l.map zN)) (by simpa using t)
  have x:=J r
  clear u d t s o r hnil
  go_enter Tryz.func82,Tryz.ntmps82
  go_wp2_with (at_builtin;refine zQ rfl rfl rfl rfl j.o ?_)
  go_ret
  exact⟨_,rfl,y.o,x.o⟩
theorem Zj (w:World) {L:List InD} (r:Kept V w (λw=>Vc w v L)) (O:L.length≤100000):
  Calls prog 80 #[v] w λe w'=>∃(y:Value) (css:List (List Value)),e=.returned y∧css.length=L.length∧(∀(i:Nat) (d:InD) (cs:List Value),L[i]? =some d→css[i]? =some cs→Kept V w' (λw=>InQ w d cs))∧(∀cs∈css,cs.length=34)∧w'.ownsRow w.heap.size 108 34 y L.length (css.flatMap id)∧Fr No w w':=by
 have M:∀(w:World) (a:Option Addr) (n c x t:Nat),(binOp .eql 32 (.slice a n c) (.slice none x t)).run prog w=.ok (.bool a.isNone) w:=λw a n c x t=>Lib.run_eql_slice_nil w _ _ a n c x t XB
 obtain⟨N,Q,rfl⟩:=r.now.form
 have u:Fr No w (w.alloc (.cells #[] 108)):=(frN w).alloc _
 obtain⟨css,y,w',f,k,m,g,q,p,A⟩:=zfO (w.alloc (.cells #[] 108)) (World.ownsRow_made w #[] 0 (le_refl _) (zero_le _) rfl) (V:=λj=>V j∨j=w.heap.size) (r.step u.of0 (λj P h=>h.resolve_right (by omega))) (by omega) (by simp)
 rw[Nat.zero_add,nil_append] at q
 have z:Fr No w w':=u.trans p (λi hi e=>by simp[Value.ownBlock] at e;omega)
 have o:Fr (λj=>(Value.slice (some ⟨w.heap.size,0,none⟩) 0 0).ownBlock=some j) (w.alloc (.cells #[] 108)) w':=p
 cases N with
 |none=>
  have K:L=[]:=by
   cases L with
   |nil=>rfl
   |cons d l=>
    obtain⟨b,off,G,cs,e,-⟩:=r.now.at_ (i:=0) rfl
    injection e with e
    cases e
  subst K
  clear f q p A m g k
  go_enter Tryz.func80,Tryz.ntmps80
  go_wp2
  go_ret
  exact⟨_,[],rfl,rfl,λi d cs h=>(by simp at h),λ_ h=>(by cases h),World.ownsRow_nil _ _ _ _,Fr.refl _ _⟩
 |some ad=>
  have s:=J f
  have F:=J q
  have B:=J z
  have D:=@J (∀(i:Nat) (d:InD) (cs:List Value),L[i]? =some d→css[i]? =some cs→Kept V w' (λw=>InQ w d cs)) (λi d cs H I=>(m i d cs H I).step (V':=V) (o.mono (λj e=>.inr (by simpa[Value.ownBlock] using e.symm))) (λ_ _ h=>.inl h))
  have C:=J g
  have E:=J k
  clear f q p z A m g k o r u
  go_enter Tryz.func80,Tryz.ntmps80
  go_wp2_with (at_builtin;refine zQ rfl rfl rfl rfl s.o ?_)
  go_ret
  exact⟨_,css,rfl,E.o,D.o,C.o,F.o,B.o⟩
theorem jM {b off:Nat} (h:w.rangeAt b off cs) (a:cs≠[]):b<w.heap.size:=by
 cases cs with
 |nil=>exact absurd rfl a
 |cons v r=>exact World.block_lt_of_cell? w ⟨b,off+0,none⟩ (h 0 v rfl)
theorem zhu (h:xG w v n cs) {W:Nat→Prop} (f:Fr W w w') (d:∀j,j<w.heap.size→¬W j):xG w' v n cs:=
 h.imp (λh=>h.keep f (λj a=>d j (by
  rcases h with⟨rfl,_⟩|⟨e,off,b,rfl,g,i,k,c⟩
  ·cases a
  ·simp[Value.ownBlock] at a;subst a;exact c))) id
theorem zcX {L:List InD} (h:Vc w v L) (g:∀j,j<w.heap.size→¬V j):Kept V w (λw=>Vc w v L):=λw' f=>by
 obtain⟨q,r,e,n,h⟩:=h
 refine⟨q,r,e,n,λi d hi=>?_⟩
 obtain⟨b,off,cs,k,a,o,p,rfl,l,c⟩:=h i d hi
 have m:=jM a (by unfold inC;simp)
 exact⟨b,off,_,k,za a f (g b m),o,p,rfl,l,c.1,zhu c.2 f g⟩
theorem Xo {k r:Nat} {v:Value} (b:r<k):∀ {css:List (List Value)} {m:Nat} {cs:List Value},(∀c∈css,c.length=k)→css[m]? =some cs→(css.flatMap id).set (m*k+r) v=(css.set m (cs.set r v)).flatMap id
 |[],m,cs,_,h=>by simp at h
 |c::l,0,cs,hk,h=>by
  simp at h
  subst h
  have a:=hk c (.head _)
  simp only[List.flatMap_cons,id,List.set_cons_zero,Nat.zero_mul,Nat.zero_add]
  rw[List.set_append_left _ _ (by omega)]
 |c::l,m+1,cs,hk,h=>by
  have a:=hk c (.head _)
  have ih:=Xo (v:=v) b (css:=l) (m:=m) (λx d=>hk x (.tail _ d)) (by simpa using h)
  simp only[List.flatMap_cons,id,List.set_cons_succ] at ih⊢
  rw[←ih,Nat.succ_mul,List.set_append_right _ _ (by omega)]
  congr 2
  omega
theorem zg2 {p:zE} (ok:p.ok) (a b:Value):(inC p a).set 33 b=inC p b:=by
 unfold inC
 rw[List.set_append_right _ _ (by rw[z6 ok];exact le_refl _),z6 ok]
 rfl
def zl0 (B:Nat) (t:TxD) (w2:World) (s:Value) (wc:World):Prop:=
 ∃(qd:Nat) (ia:Option Addr) (ic:Nat) (oa:Option Addr) (oc:Nat) (css:List (List Value)),s=.pointer (some ⟨qd,0,none⟩)∧B≤qd∧Fr No w2 wc∧
  wc.heap[qd]? =some (.cells #[.int .u32 t.ver,.slice ia t.ins.length ic,.slice oa t.outs.length oc] 34 (0,0))∧
  css.length=t.ins.length∧(∀(i:Nat) (d:InD) (cs:List Value),t.ins[i]? =some d→css[i]? =some cs→Kept (λj=>B≤j) wc (λw=>InQ w d cs))∧(∀cs∈css,cs.length=34)∧
  wc.ownsRow B 108 34 (.slice ia t.ins.length ic) t.ins.length (css.flatMap id)∧wc.ownsRow B 103 33 (.slice oa t.outs.length oc) t.outs.length (t.outs.flatMap zJ)∧
  (∀j,(Value.slice ia t.ins.length ic).ownBlock=some j→j≠qd∧(Value.slice oa t.outs.length oc).ownBlock≠some j)
theorem zaf (t:Int) (a b:Option Addr) (n c m d:Nat) (w:World):(Instr.build 34 #[(0,.int .u32 t),(1,.slice a n c),(2,.slice b m d)]).run prog w=.ok (.agg [.int .u32 t,.slice a n c,.slice b m d].toArray) w:=by kernel_rfl
def zl3 (w:World) (t:TxD) (e:Ending) (w':World):Prop:=∃cs,e=.returned (.agg cs.toArray)∧Fr No w w'∧∀V:Nat→Prop,(∀j,V j→j<w.heap.size)→Kept V w' (λw=>TxQ w t cs)
structure zhr (B qd:Nat) (ia:Option Addr) (ic:Nat) (t:TxD) (wz wr:World) (n:Nat) (css:List (List Value)):Prop where
 len:css.length=t.ins.length
 c34:∀cs∈css,cs.length=34
 row:wr.ownsRow B 108 34 (.slice ia t.ins.length ic) t.ins.length (css.flatMap id)
 new:∀(i:Nat) (d:InD) (cs:List Value),i<n→t.ins[i]? =some d→css[i]? =some cs→Kept (λj=>j<B∨(Value.slice ia t.ins.length ic).ownBlock=some j) wr (λw=>InQ w d cs)
 old:∀(i:Nat) (d:InD) (cs:List Value),n≤i→t.ins[i]? =some d→css[i]? =some cs→Kept (λj=>B≤j) wr (λw=>InQ w d cs)
 fr:Fr (λj=>(Value.slice ia t.ins.length ic).ownBlock=some j) wz wr
theorem zic (w:World) {t:TxD} (ht:TxQ w t cs) (hI:t.ins.length≤1000∧t.outs.length≤1000∧∀x∈t.ins,x.key.length≤1000):
  Calls prog 49 #[.agg cs.toArray] w (zl3 w t):=by
 obtain⟨ia,ic,oa,oc,rfl,hv,hi,ho⟩:=ht
 have zT:=jZ
 have f1:Fr No w (w.alloc (.cells #[.int .u32 t.ver,.slice ia t.ins.length ic,.slice oa t.outs.length oc] 34)):=(frN w).alloc _
 have Y:Fr No (w.alloc (.cells #[.int .u32 t.ver,.slice ia t.ins.length ic,.slice oa t.outs.length oc] 34)) _:=(frN _).alloc (.cells (txC 0 (.slice none 0 0) (.slice none 0 0)).toArray 34)
 obtain⟨c0,c1,c2,-⟩:=qW w t.ver (.slice ia t.ins.length ic) (.slice oa t.outs.length oc)
 have F2:=J (f1.trans0 Y)
 have FD:=J (F2.o.drew)
 have Q:=J ((Y.drew).cell c0 _root_.id)
 have R:=J ((Y.drew).cell c1 _root_.id)
 have S:=J ((Y.drew).cell c2 _root_.id)
 have B2:=J (yJ (w.alloc (.cells #[.int .u32 t.ver,.slice ia t.ins.length ic,.slice oa t.outs.length oc] 34)) (.cells (txC 0 (.slice none 0 0) (.slice none 0 0)).toArray 34) (n:=w.heap.size+1) (by simp))
 have HO:=J (ho.keep FD.o)
 have HK:=J ((zcX hi (V:=λj=>w.heap.size+2≤j) (λj c=>by omega)).step FD.o.of0 (λ_ _ h=>h))
 have Z2:=@J (((w.alloc (.cells #[.int .u32 t.ver,.slice ia t.ins.length ic,.slice oa t.outs.length oc] 34)).alloc (.cells (txC 0 (.slice none 0 0) (.slice none 0 0)).toArray 34)).heap.size=w.heap.size+2) (by simp)
 have HV:=J hv
 have HI:=J hI
 clear c0 c1 c2 f1 Y ho hv hi hI
 show Calls prog 49 #[.agg #[.int .u32 t.ver,.slice ia t.ins.length ic,.slice oa t.outs.length oc]] w _
 go_enter Tryz.func49,Tryz.ntmps49
 go_wp2_with fail
 generalize (w.alloc (.cells #[.int .u32 t.ver,.slice ia t.ins.length ic,.slice oa t.outs.length oc] 34)).alloc (.cells (txC 0 (.slice none 0 0) (.slice none 0 0)).toArray 34)=w2 at*
 go_cut [3] from 5 to 14 (λs3 wc=>zl0 (w.heap.size+2) t w2 s3 wc)
 case first=>
  refine vQ 11 [0,1,2,3,4,5,6,7,8,9,10] (λw'=>w'.cell? ⟨w.heap.size,0,none⟩=some (.int .u32 t.ver)∧w'.cell? ⟨w.heap.size,1,none⟩=some (.slice ia t.ins.length ic)∧w'.cell? ⟨w.heap.size,2,none⟩=some (.slice oa t.outs.length oc)) (by kernel_rfl) (by kernel_rfl) (by kernel_rfl) (by kernel_rfl) ?_ (λK hK=>?_)
  ·exact⟨Q.o,R.o,S.o⟩
  have X:=@J (w2.drew.heap.size=w.heap.size+2) (Z2.o)
  have FW:=@J (Fr No w2 w2.drew) ((frN w2).drew)
  generalize w2.drew=w3 at*
  (((first|(refine zV 0 (by kernel_rfl) rfl rfl ?_;apply Exists.intro;refine⟨?_,?_⟩;(focus(first|(intro w' hS;obtain⟨s1,s2,s3⟩:=hS;exact goS))))|(refine zW 0 (by kernel_rfl) rfl rfl ?_));try simp only[Act.put,pA,pB,pC]);((first|(refine zV 1 (by kernel_rfl) rfl rfl ?_;apply Exists.intro;refine⟨?_,?_⟩;(focus(first|(intro w' hS;obtain⟨s1,s2,s3⟩:=hS;exact goS))))|(refine zW 1 (by kernel_rfl) rfl rfl ?_));try simp only[Act.put,pA,pB,pC]);((first|(refine zV 2 (by kernel_rfl) rfl rfl ?_;apply Exists.intro;refine⟨?_,?_⟩;(focus(first|(intro w' hS;obtain⟨s1,s2,s3⟩:=hS;exact goS))))|(refine zW 2 (by kernel_rfl) rfl rfl ?_));try simp only[Act.put,pA,pB,pC]);((first|(refine zV 3 (by kernel_rfl) rfl rfl ?_;apply Exists.intro;refine⟨?_,?_⟩;(focus(first|(intro w' hS;obtain⟨s1,s2,s3⟩:=hS;exact goS))))|(refine zW 3 (by kernel_rfl) rfl rfl ?_));try simp only[Act.put,pA,pB,pC]);((first|(refine zV 5 (by kernel_rfl) rfl rfl ?_;apply Exists.intro;refine⟨?_,?_⟩;(focus(first|(intro w' hS;obtain⟨s1,s2,s3⟩:=hS;exact goS))))|(refine zW 5 (by kernel_rfl) rfl rfl ?_));try simp only[Act.put,pA,pB,pC]);((first|(refine zV 6 (by kernel_rfl) rfl rfl ?_;apply Exists.intro;refine⟨?_,?_⟩;(focus(first|(intro w' hS;obtain⟨s1,s2,s3⟩:=hS;exact goS))))|(refine zW 6 (by kernel_rfl) rfl rfl ?_));try simp only[Act.put,pA,pB,pC]))
  refine J0 4 9 (by kernel_rfl) rfl rfl rfl rfl (λK' hK'=>?_) (λK' hK'=>?_)
  ·skip
   go_simp
   refine(Zj w3 (HK.o.step (frN w3).of0 (λ_ _ h=>h)) (by have:=HI.o.1;omega)).mono ?_
   rintro e H ⟨aM,css,rfl,F,aa,Z,z,f4⟩
   obtain⟨m,o,ak⟩:=z.slice.arg.form
   subst ak
   have u:=J f4
   have CL:=J F
   have KP:=J aa
   have af:=J Z
   have W:=J z
   clear F aa Z z f4
   refine nXt hK' ?_ λhS=>?_
   ·exact⟨u.o.cell Q.o _root_.id,u.o.cell R.o _root_.id,u.o.cell S.o _root_.id⟩
   try simp only[Act.put,pA,pB,pC]
   refine J0 7 9 (by kernel_rfl) rfl rfl rfl rfl (λK' hK'=>?_) (λK' hK'=>?_)
   ·skip
    go_simp
    refine(jv H (HO.o.keep u.o) (by have:=HI.o.2.1;omega)).mono ?_
    rintro e w5 ⟨aC,rfl,p,f5⟩
    obtain⟨k,l,ab⟩:=p.slice.arg.form
    subst ab
    have I:=J f5
    have T:=J p
    clear p f5
    have a:=J (u.o.trans0 I.o)
    refine nXt hK' ?_ λhS=>?_
    ·exact⟨a.o.cell Q.o _root_.id,a.o.cell R.o _root_.id,a.o.cell S.o _root_.id⟩
    try simp only[Act.put,pA,pB,pC]
    (((first|(refine zV 8 (by kernel_rfl) rfl rfl ?_;apply Exists.intro;refine⟨?_,?_⟩;(focus(first|exact λw' _=>yk (t:=34) rfl rfl (zaf t.ver m k t.ins.length o t.outs.length l w')|(intro w' hS;obtain⟨s1,s2,s3⟩:=hS;exact goS))))|(refine zW 8 (by kernel_rfl) rfl rfl ?_));try simp only[Act.put,pA,pB,pC]))
    refine yE 9 (by kernel_rfl) rfl rfl (λK' hK'=>?_)
    refine yg (yw rfl (jZ _)) ?_
    have F6:=J ((frN w5).alloc (.cells (txC 0 (.slice none 0 0) (.slice none 0 0)).toArray 34))
    refine nXt hK' ?_ λhS=>?_
    ·exact⟨F6.o.cell (a.o.cell Q.o _root_.id) _root_.id,F6.o.cell (a.o.cell R.o _root_.id) _root_.id,F6.o.cell (a.o.cell S.o _root_.id) _root_.id⟩
    try simp only[Act.put,pA,pB,pC]
    refine yE 10 (by kernel_rfl) rfl rfl (λK' hK'=>?_)
    refine yN (zj (w:=w5) (ty:=34) (cs:=[.int .u32 t.ver,.slice m t.ins.length o,.slice k t.outs.length l]) rfl rfl rfl rfl y5 (qM rfl rfl rfl)) ?_
    have E:=J ((frN w5).alloc (.cells ([.int .u32 t.ver,.slice m t.ins.length o,.slice k t.outs.length l]).toArray 34))
    refine nXt hK' ?_ λhS=>?_
    ·exact⟨E.o.cell (a.o.cell Q.o _root_.id) _root_.id,E.o.cell (a.o.cell R.o _root_.id) _root_.id,E.o.cell (a.o.cell S.o _root_.id) _root_.id⟩
    try simp only[Act.put,pA,pB,pC]
    refine vn (hK.out _ _ ?_)
    go_wp2_with fail
    go_meet
    case rel=>exact⟨w5.heap.size,m,o,k,l,css,rfl,by have:=a.o.size;have:=X.o;omega,FW.o.trans0 (a.o.trans0 E.o),yj w5 (.cells ([.int .u32 t.ver,.slice m t.ins.length o,.slice k t.outs.length l]).toArray 34),CL.o,λi d cs D y=>(KP.o i d cs D y).step (I.o.trans0 E.o).of0 (λ_ _ h=>h),af.o,yU (zb (zb W.o I.o (λ_ _=>_root_.id)) E.o (λ_ _=>_root_.id)) (by have:=X.o;omega),yU (zb T.o E.o (λ_ _=>_root_.id)) (by have:=u.o.size;have:=X.o;omega),λj c=>⟨by have:=(W.o.lt j c).2;have:=I.o.size;omega,λe=>by have:=(W.o.lt j c).2;have:=(T.o.lt j e).1;omega⟩⟩
   ·refine yg (yw rfl (jZ _)) ?_
    have FA:=J ((frN H).alloc (.cells (txC 0 (.slice none 0 0) (.slice none 0 0)).toArray 34))
    have BA:=J (yj H (.cells (txC 0 (.slice none 0 0) (.slice none 0 0)).toArray 34))
    have ZA:=@J ((H.alloc (.cells (txC 0 (.slice none 0 0) (.slice none 0 0)).toArray 34)).heap.size=H.heap.size+1) (by simp)
    generalize H.alloc (.cells (txC 0 (.slice none 0 0) (.slice none 0 0)).toArray 34)=wa at*
    generalize an:H.heap.size=G at*
    have s:=J (u.o.trans0 FA.o)
    refine nXt hK' ?_ λhS=>?_
    ·exact⟨s.o.cell Q.o _root_.id,s.o.cell R.o _root_.id,s.o.cell S.o _root_.id⟩
    try simp only[Act.put,pA,pB,pC]
    refine yE 7 (by kernel_rfl) rfl rfl (λK' hK'=>?_)
    go_simp
    refine(jv wa (HO.o.keep s.o) (by have:=HI.o.2.1;omega)).mono ?_
    rintro e w5 ⟨aC,rfl,p,f5⟩
    obtain⟨k,l,ab⟩:=p.slice.arg.form
    subst ab
    have I:=J f5
    have T:=J p
    clear p f5
    have a:=J (s.o.trans0 I.o)
    have B5:=J (I.o.obj BA.o _root_.id)
    refine nXt hK' ?_ λhS=>?_
    ·exact⟨a.o.cell Q.o _root_.id,a.o.cell R.o _root_.id,a.o.cell S.o _root_.id⟩
    try simp only[Act.put,pA,pB,pC]
    (((first|(refine zV 8 (by kernel_rfl) rfl rfl ?_;apply Exists.intro;refine⟨?_,?_⟩;(focus(first|exact λw' _=>yk (t:=34) rfl rfl (zaf t.ver m k t.ins.length o t.outs.length l w')|(intro w' hS;obtain⟨s1,s2,s3⟩:=hS;exact goS))))|(refine zW 8 (by kernel_rfl) rfl rfl ?_));try simp only[Act.put,pA,pB,pC]))
    refine yE 10 (by kernel_rfl) rfl rfl (λK' hK'=>?_)
    refine yN (zK (ty:=34) (b:=G) (off:=0) (cs:=[.int .u32 t.ver,.slice m t.ins.length o,.slice k t.outs.length l]) rfl rfl rfl (zX B5.o (le_refl 3)) y5 (qM rfl rfl rfl)) ?_
    have E:=J (zu G ([.int .u32 t.ver,.slice m t.ins.length o,.slice k t.outs.length l]) 0 w5)
    have HQ:=@J (w3.heap.size≤G) (by have:=u.o.size;omega)
    have C:=@J (Fr No w3 _) (a.o.trans E.o (λi hi e=>by have:=HQ.o;omega))
    refine nXt hK' ?_ λhS=>?_
    ·exact⟨C.o.cell Q.o _root_.id,C.o.cell R.o _root_.id,C.o.cell S.o _root_.id⟩
    try simp only[Act.put,pA,pB,pC]
    refine vn (hK.out _ _ ?_)
    go_wp2_with fail
    go_meet
    case rel=>exact⟨G,m,o,k,l,css,rfl,by have:=HQ.o;have:=X.o;omega,FW.o.trans0 C.o,Yj (cs:=[.int .u32 t.ver,.slice m t.ins.length o,.slice k t.outs.length l]) B5.o rfl,CL.o,λi d cs D y=>((KP.o i d cs D y).step (FA.o.trans0 I.o).of0 (λ_ _ h=>h)).step (E.o.mono (λj e=>by have:=HQ.o;have:=X.o;omega)) (λ_ _ h=>h),af.o,yU (zb (zb W.o (FA.o.trans0 I.o) (λ_ _=>_root_.id)) E.o (λj c e=>by have:=(W.o.lt j c).2;omega)) (by have:=X.o;omega),yU (zb T.o E.o (λj c e=>by have:=(T.o.lt j c).1;have:=ZA.o;omega)) (by have:=HQ.o;have:=X.o;have:=ZA.o;omega),λj c=>⟨by have:=(W.o.lt j c).2;omega,λe=>by have:=(W.o.lt j c).2;have:=(T.o.lt j e).1;have:=ZA.o;omega⟩⟩
  ·refine yg (yw rfl (jZ _)) ?_
   have FA:=J ((frN w3).alloc (.cells (txC 0 (.slice none 0 0) (.slice none 0 0)).toArray 34))
   have BA:=J (yj w3 (.cells (txC 0 (.slice none 0 0) (.slice none 0 0)).toArray 34))
   have ZA:=@J ((w3.alloc (.cells (txC 0 (.slice none 0 0) (.slice none 0 0)).toArray 34)).heap.size=w3.heap.size+1) (by simp)
   generalize w3.alloc (.cells (txC 0 (.slice none 0 0) (.slice none 0 0)).toArray 34)=wa at*
   generalize an:w3.heap.size=G at*
   refine nXt hK' ?_ λhS=>?_
   ·exact⟨FA.o.cell Q.o _root_.id,FA.o.cell R.o _root_.id,FA.o.cell S.o _root_.id⟩
   try simp only[Act.put,pA,pB,pC]
   refine yE 4 (by kernel_rfl) rfl rfl (λK' hK'=>?_)
   go_simp
   refine(Zj wa (HK.o.step (FA.o).of0 (λ_ _ h=>h)) (by have:=HI.o.1;omega)).mono ?_
   rintro e H ⟨aM,css,rfl,F,aa,Z,z,f4⟩
   obtain⟨m,o,ak⟩:=z.slice.arg.form
   subst ak
   have u:=J f4
   have CL:=J F
   have KP:=J aa
   have af:=J Z
   have W:=J z
   clear F aa Z z f4
   have s:=J (FA.o.trans0 u.o)
   refine nXt hK' ?_ λhS=>?_
   ·exact⟨s.o.cell Q.o _root_.id,s.o.cell R.o _root_.id,s.o.cell S.o _root_.id⟩
   try simp only[Act.put,pA,pB,pC]
   refine yE 7 (by kernel_rfl) rfl rfl (λK' hK'=>?_)
   go_simp
   refine(jv H (HO.o.keep s.o) (by have:=HI.o.2.1;omega)).mono ?_
   rintro e w5 ⟨aC,rfl,p,f5⟩
   obtain⟨k,l,ab⟩:=p.slice.arg.form
   subst ab
   have I:=J f5
   have T:=J p
   clear p f5
   have a:=J (s.o.trans0 I.o)
   have B5:=J (I.o.obj (u.o.obj BA.o _root_.id) _root_.id)
   refine nXt hK' ?_ λhS=>?_
   ·exact⟨a.o.cell Q.o _root_.id,a.o.cell R.o _root_.id,a.o.cell S.o _root_.id⟩
   try simp only[Act.put,pA,pB,pC]
   (((first|(refine zV 8 (by kernel_rfl) rfl rfl ?_;apply Exists.intro;refine⟨?_,?_⟩;(focus(first|exact λw' _=>yk (t:=34) rfl rfl (zaf t.ver m k t.ins.length o t.outs.length l w')|(intro w' hS;obtain⟨s1,s2,s3⟩:=hS;exact goS))))|(refine zW 8 (by kernel_rfl) rfl rfl ?_));try simp only[Act.put,pA,pB,pC]))
   refine yE 10 (by kernel_rfl) rfl rfl (λK' hK'=>?_)
   refine yN (zK (ty:=34) (b:=G) (off:=0) (cs:=[.int .u32 t.ver,.slice m t.ins.length o,.slice k t.outs.length l]) rfl rfl rfl (zX B5.o (le_refl 3)) y5 (qM rfl rfl rfl)) ?_
   have E:=J (zu G ([.int .u32 t.ver,.slice m t.ins.length o,.slice k t.outs.length l]) 0 w5)
   have C:=@J (Fr No w3 _) (a.o.trans E.o (λi hi e=>by omega))
   refine nXt hK' ?_ λhS=>?_
   ·exact⟨C.o.cell Q.o _root_.id,C.o.cell R.o _root_.id,C.o.cell S.o _root_.id⟩
   try simp only[Act.put,pA,pB,pC]
   refine vn (hK.out _ _ ?_)
   go_wp2_with fail
   go_meet
   case rel=>exact⟨G,m,o,k,l,css,rfl,by have:=X.o;omega,FW.o.trans0 C.o,Yj (cs:=[.int .u32 t.ver,.slice m t.ins.length o,.slice k t.outs.length l]) B5.o rfl,CL.o,λi d cs D y=>((KP.o i d cs D y).step I.o.of0 (λ_ _ h=>h)).step (E.o.mono (λj e=>by have:=X.o;omega)) (λ_ _ h=>h),af.o,yU (zb (zb W.o I.o (λ_ _=>_root_.id)) E.o (λj c e=>by have:=(W.o.lt j c).1;have:=ZA.o;omega)) (by have:=X.o;have:=ZA.o;omega),yU (zb T.o E.o (λj c e=>by have:=(T.o.lt j c).1;have:=u.o.size;have:=ZA.o;omega)) (by have:=X.o;have:=ZA.o;have:=u.o.size;omega),λj c=>⟨by have:=(W.o.lt j c).1;have:=ZA.o;omega,λe=>by have:=(W.o.lt j c).2;have:=(T.o.lt j e).1;omega⟩⟩
 case rest=>
  rename World=>wz
  obtain⟨G,A,q,N,O,css,rfl,an,fc,bq,F,ax,ah,z,p,av⟩:=hcut
  have FC:=J fc
  have T:=J p
  have AP:=J av
  have aD:=J (fc.obj B2.o _root_.id)
  have c1:wz.cell? ⟨G,1,none⟩=some (.slice A t.ins.length q):=by have:=zq bq 1 _ rfl;simpa using this
  have L8:=J HI.o.1
  have BQ:=J bq
  have HR:=@J (∃css,zhr (w.heap.size+2) G A q t wz wz 0 css) (⟨css,F,ah,z,λi d cs h D y=>absurd h (Nat.not_lt_zero i),λi d cs h D y=>ax i d cs D y,Fr.refl _ _⟩)
  clear an fc bq F ax ah z p av
  have iz:=HI.o.1
  go_wp2_with fail
  clear c1
  go_loopw [17] (λiv wr=>∃n:Nat,iv=.int .i64 n∧n≤t.ins.length∧∃css,zhr (w.heap.size+2) G A q t wz wr n css) (λiv _=>t.ins.length-(intOf iv).toNat)
  case atStart=>exact⟨0,rfl,zero_le _,HR.o⟩
  case round=>
   obtain⟨n,rfl,hn,css,aB⟩:=hrel
   have B:=J aB
   clear aB
   by_cases az:n<t.ins.length
   ·have i1:(n:Int)<(t.ins.length:Int):=by omega
    obtain⟨x,hx⟩:∃x,t.ins[n]? =some x:=⟨_,getElem?_eq_getElem az⟩
    have HX:=J hx
    obtain⟨cs,hcs⟩:∃cs,css[n]? =some cs:=⟨_,getElem?_eq_getElem (by rw[B.o.len];exact az)⟩
    obtain⟨ka,kc,aw,ad,ai⟩:=(B.o.old n x cs (le_refl _) hx hcs).now
    have au:=J ai
    have ar:=@J (css[n]? =some (inC x.from_ (.slice ka x.key.length kc))) (by rw[hcs,aw])
    have aj:=J ad
    obtain⟨g,aN,aJ,ay,aK⟩:=JF (f:=id) (by decide) B.o.c34 B.o.row ar.o
    cases aJ
    have GL:=J ((B.o.row.lt g rfl))
    have FZ:=J B.o.fr
    have AG:=J (AP.o g rfl)
    have NQ:=@J (G≠g) (λe=>AG.o.1 e.symm)
    have aq:=@J (wr.cell? ⟨G,1,none⟩=some (.slice (some ⟨g,0,none⟩) t.ins.length q)) (by
     have:=zq (FZ.o.obj BQ.o (λe=>by cases e;exact NQ.o rfl)) 1 _ rfl
     simpa using this)
    have CK:=@J (wr.cell? ⟨g,n*34+33,none⟩=some (.slice ka x.key.length kc)) ((zeI ay ad).2)
    have aH:=J (HI.o.2.2 x (mem_of_getElem? hx))
    have i2:(n:Int)<(t.ins.length:Int):=i1
    clear hx hcs aw ad ai ay aK
    go_wp2_with fail
    have ae:=J ((frN wr).drew)
    refine yp [ff,ff,ff,ff,ff,ff,ff,ff,ff,tt,ff,ff,tt] (λw'=>w'.cell? ⟨G,1,none⟩=some (.slice (some ⟨g,0,none⟩) t.ins.length q)∧w'.cell? ⟨g,n*34+33,none⟩=some (.slice ka x.key.length kc)) (by kernel_rfl) (by kernel_rfl) 12 (by kernel_rfl) (by kernel_rfl) ?_ (λK hK=>?_)
    ·exact⟨ae.o.cell aq.o _root_.id,ae.o.cell CK.o _root_.id⟩
    repeat((first|(refine yb rfl ?_;constructor;constructor;(focus(first|(rintro w' ⟨s1,s2⟩;exact goS))))|(refine yc rfl ?_));try simp only[Act.put,pA,pB,pC])
    (refine ya rfl (λK' hK'=>?_))
    go_simp
    refine(Vh wr.drew (au.o.keep ae.o) (by have:=aH.o;omega)).mono ?_
    rintro e H ⟨kv,rfl,al,f4⟩
    obtain⟨L,M,aL⟩:=al.slice.arg.form
    subst aL
    have u:=J (ae.o.trans0 f4)
    have KO:=J al
    clear al f4
    refine hK'.out _ _ (λ_=>?_) (λhS=>?_)
    ·exact⟨u.o.cell aq.o _root_.id,u.o.cell CK.o _root_.id⟩
    try simp only[Act.put,pA,pB,pC]
    repeat((first|(refine yb rfl ?_;constructor;constructor;(focus(first|(rintro w' ⟨s1,s2⟩;exact goS))))|(refine yc rfl ?_));try simp only[Act.put,pA,pB,pC])
    have ag:=J (zb B.o.row u.o (λ_ _=>_root_.id))
    have fz:H.frozen? ⟨g,n*34+33,none⟩=false:=ag.o.frozenAt _
    have cz:=u.o.cell CK.o _root_.id
    have NK:=@J (n*34+33+1≤t.ins.length*34) (by omega)
    have fs:Fr (λj=>j=g) H (H.setCell ⟨g,n*34+33,none⟩ (.slice L x.key.length M)):=(Fr.refl (λj=>j=g) H).setCell _ (.inr rfl) _
    have FS:=J fs
    have aI:=@J (zhr (w.heap.size+2) G (some ⟨g,0,none⟩) q t wz (H.setCell ⟨g,n*34+33,none⟩ (.slice L x.key.length M)) (n+1) (css.set n (inC x.from_ (.slice L x.key.length M)))) (by
     refine⟨by rw[List.length_set];exact B.o.len,λcs hc=>?_,?_,λi d cs hi D y=>?_,λi d cs hi D y=>?_,?_⟩
     ·rcases List.mem_or_eq_of_mem_set hc with hc|rfl
      ·exact B.o.c34 cs hc
      ·exact vC aj.o _
     ·have D:=qX ag.o (n*34+33) (cs:=[.slice L x.key.length M]) (by have:=NK.o;simpa using this)
      have y:=Xo (r:=33) (v:=.slice L x.key.length M) (by decide) B.o.c34 ar.o
      rw[zg2 aj.o] at y
      rw[←y]
      exact D
     ·by_cases hin:i=n
      ·subst hin
       rw[HX.o] at D
       cases D
       rw[List.getElem?_set_self (by have:=B.o.len;omega)] at y
       cases y
       have hk:=zbO KO.o au.o.1 (V:=λj=>j<w.heap.size+2∨(Value.slice (some ⟨g,0,none⟩) t.ins.length q).ownBlock=some j) (λj c=>by
        have h3:=FZ.o.size
        have h4:=FC.o.size
        have h5:=Z2.o
        have h6:=GL.o.2
        show j<wr.heap.size
        rcases c with c|c
        ·omega
        ·simp[Value.ownBlock] at c;omega)
       exact(hk.step (FS.o.mono (λj e=>.inr (by rw[e];rfl))) (λ_ _ h=>h)).imp (λw' _ h=>⟨L,M,rfl,aj.o,h⟩)
      ·rw[getElem?_set_ne (by omega)] at y
       exact((B.o.new i d cs (by omega) D y).step u.o.of0 (λ_ _ h=>h)).step (FS.o.mono (λj e=>.inr (by rw[e];rfl))) (λ_ _ h=>h)
     ·rw[getElem?_set_ne (by omega)] at y
      exact((B.o.old i d cs (by omega) D y).step u.o.of0 (λ_ _ h=>h)).step (FS.o.mono (λj e=>by rw[e];exact GL.o.1)) (λ_ _ h=>h)
     ·exact(FZ.o.trans0 u.o).trans FS.o (λj _ e=>by rw[e];rfl))
    clear fs
    (refine ya rfl (λK' hK'=>?_))
    go_simp
    refine hK'.out _ _ (λh=>absurd rfl h) (λhS=>?_)
    refine xA (hK.out _ _ ?_)
    go_wp2_with fail
    go_roundw
    case rel=>exact⟨n+1,by go_num,by omega,_,aI.o⟩
    case measure=>simp[intOf];omega
   ·have aA:n=t.ins.length:=by omega
    have i1:¬(n:Int)<(t.ins.length:Int):=by omega
    have aF:=J aA
    have FZ:=J B.o.fr
    have aE:=J (FZ.o.obj BQ.o (λe=>(AP.o G e).1 rfl))
    have RU:=J (zq aE.o)
    have ao:=J (FZ.o.obj aD.o (λe=>by have:=(B.o.row.lt _ e).1;omega))
    have aG:=@J (∀V:Nat→Prop,(∀j,V j→j<w.heap.size+2)→Kept V wr (λw=>TxQ w t [.int .u32 t.ver,.slice A t.ins.length q,.slice N t.outs.length O])) (λV hV w' f=>by
     have k1:jR (w.heap.size+2) 108 34 InQ (λj=>j<w.heap.size+2) wr (.slice A t.ins.length q) t.ins css:=⟨B.o.row,B.o.len,B.o.c34,λi d cs D y=>B.o.new i d cs (by rw[aF.o];exact(List.getElem?_eq_some_iff.1 D).1) D y⟩
     have k2:=k1.rows (U:=V) (by decide) (by unfold maxLen;have:=L8.o;omega) (λj _ e=>hV j e) (λj c e=>by have:=(k1.lt j c).1;have:=hV j e;omega) w' f
     have k3:=XZ (V:=V) (zb T.o FZ.o (λj c e=>(AP.o j e).2 c)) HO.o.1 hV w' f
     exact⟨A,q,N,O,rfl,HV.o,k2,k3⟩)
    clear aA
    have⟨K0,K1⟩:=tZ2
    go_wp2_with ((first|((with_reducible refine zt ?_);clear K0;refine zoa rfl rfl rfl RU.o rfl ?_)|((with_reducible refine zv ?_);clear K1;refine zi rfl (zK (ty:=34) (b:=w.heap.size+1) (off:=0) (cs:=[.int .u32 t.ver,.slice A t.ins.length q,.slice N t.outs.length O]) rfl rfl rfl (zX ao.o (le_refl 3)) y5 (qM rfl rfl rfl)) ?_));go_frame)
    have BE:=Yj (cs:=[.int .u32 t.ver,.slice A t.ins.length q,.slice N t.outs.length O]) ao.o rfl
    have fE:=zu (w.heap.size+1) [.int .u32 t.ver,.slice A t.ins.length q,.slice N t.outs.length O] 0 wr
    refine bodyPost_ret (v:=.agg [.int .u32 t.ver,.slice A t.ins.length q,.slice N t.outs.length O].toArray) (results_cell_row (P:=prog) (fn:=Tryz.f49) rfl _ _ (w.heap.size+1) 34 _ (0,0) _ rfl BE Tryz.underlying34 rfl y5) rfl ⟨_,rfl,?_,λV hV w' f=>aG.o (λj=>V j∨j=w.heap.size+1) (λj c=>by rcases c with c|c;have:=hV j c;omega;omega) w' ((fE.mono (λj c=>.inr c)).trans (f.mono (λj c=>.inl c)) (λ_ _ h=>h))⟩
    exact(((F2.o.trans0 FC.o).trans FZ.o (λj c e=>by have:=(B.o.row.lt _ e).1;omega))).trans fE (λi hi e=>by omega)
theorem zhl:prog.underlying 191=some (.slice 127):=by kernel_rfl
theorem zjG:(prog.info? 127).map (λi=>(i.zero,i.size,i.bytes))=some (some (.agg #[.int .u64 0,.int .i64 0]),2,16):=by kernel_rfl
theorem zhT:(prog.info? 127).map (λi=>(i.zero,i.size))=some (some (.agg #[.int .u64 0,.int .i64 0]),2):=by kernel_rfl
def vF (L:List yd) (U:List zd) (n:Nat):List yd:=(L.take n).filter λe=>decide (e.id∉U)
theorem zfQ {L:List yd} {U:List zd} {e:yd} (h:L[n]? =some e):vF L U (n+1)=if e.id∈U then vF L U n else vF L U n++[e]:=by
 unfold vF
 rw[take_add_one,h,Option.toList_some,filter_append]
 by_cases hu:e.id∈U
 ·simp[hu]
 ·simp[hu]
theorem zhy (L:List yd) (U:List zd) (n:Nat):(vF L U n).length≤L.length:=by
 unfold vF
 have a:=List.length_filter_le (λe=>decide (yd.id e∉U)) (L.take n)
 have b:(L.take n).length≤L.length:=by rw[length_take];omega
 omega
section
variable {w0 w:World} {p ma ms g N:Nat} {VG X:Nat→Prop} {C:zd→List Value} {L:List yd}
theorem yq.mapLen (h:yq w0 w p ma ms g VG X C L N) {M:List (zd×List Value)} (l:qJ w ma M) (i:∀x cs,(x,cs)∈M↔∃e∈L,e.id=x∧cs=C x):M.length=L.length:=by
 have j:=l.nodup
 have k:=h.nd
 have f:∀x,x∈M.map (·.1)↔x∈xt L:=λx=>by
  constructor
  ·intro a
   obtain⟨y,m,rfl⟩:=mem_map.1 a
   obtain⟨e,d,hi,_⟩:=(i y.1 y.2).1 m
   rw[←hi]
   exact mem_map.2 ⟨e,d,rfl⟩
  ·intro a
   obtain⟨e,d,rfl⟩:=mem_map.1 a
   exact mem_map.2 ⟨(e.id,C e.id),(i _ _).2 ⟨e,d,rfl,rfl⟩,rfl⟩
 have b:=qp j (λx a=>(f x).1 a)
 have c:=qp k (λx a=>(f x).2 a)
 rw[length_map] at b c
 unfold xt at b c
 rw[length_map] at b c
 omega
def zad (w0 w:World) (p ma ms g:Nat) (VG X:Nat→Prop) (C:zd→List Value) (L:List yd) (N:Nat) (x:Int×Int) (ps:List zd) (e:Ending) (w':World):Prop:=
 ∃gv,e=.returned (.tuple #[gv,.int .i64 (JO L x ps)])∧∃VG',yq w0 w' p ma ms g VG' X C (xj L (vU L x ps)) N∧Fr (poV p ma ms VG) w w'∧(∀j,VG' j→VG j)∧
  w'.ownsRow w.heap.size 41 32 gv (vU L x ps).length ((vU L x ps).flatMap zf)
theorem zad.none {x:Int×Int} {ps:List zd} (h:yq w0 w p ma ms g VG X C L N) (b:JO L x ps=c) (a:vU L x ps=[]) (f:Fr No w w'):zad w0 w p ma ms g VG X C L N x ps (.returned (.tuple #[.slice none 0 0,.int .i64 c])) w':=
 ⟨_,by rw[b],VG,by rw[a,XT];exact h.fr0 f,f.of0,λ_ h=>h,by rw[a];exact World.ownsRow_nil _ _ _ _⟩
theorem zj9 (h:yq w0 w p ma ms g VG X C L N) (bE:N≤900) (aE:L.Pairwise λa b=>∀q∈zZ a.tx,q∉zZ b.tx) (aL:∀e∈L,e.tx.ins.length≤1000) (Z:∀e∈L,WOk (wgt e)) {x:Int×Int} (hx:WOk x) {ps:List zd} (hv:yP w v ps) (bt:ps.length≤1000):
  Calls prog 48 #[.pointer (some ⟨p,0,none⟩),.agg (xy x).toArray,v] w (zad w0 w p ma ms g VG X C L N x ps):=by
 obtain⟨dW,uW,rW⟩:=Vl
 have zh:=yS
 have m:=J h
 have HV:=J hv
 have AP:=J aE
 have a6:=J aL
 have aA:=J Z
 have HX:=J hx
 have LN:=J h.len
 have f1:Fr No w (w.alloc (.cells (xy x).toArray 127)):=(frN w).alloc _
 have F1:=J f1
 have RW:=J (zy w (xy x) 127)
 have c0:=(h.fr0 f1).cells.1
 have c2:=(h.fr0 f1).cells.2.2
 obtain⟨M,hM,hm⟩:=h.am
 have a7:=J (h.mapLen hM hm)
 have Y:=λty=>(hM.keep f1 id).lenRun Qf ty
 rw[a7.o] at Y
 have ai:=J Y
 have HM:=J hM
 have a8:=J hm
 clear h hv aE aL Z hx f1 hM hm Y
 by_cases h32:L.length<32
 ·have RE:=@J (JO L x ps=0∧vU L x ps=[]) (⟨by unfold JO;rw[if_pos h32],by unfold vU;rw[if_pos h32]⟩)
  have i1:(L.length:Int)<32:=by omega
  go_enter Tryz.func48,Tryz.ntmps48
  go_wp2_with (refine zg rfl (jj rfl rfl (ai.o _)) ?_)
  go_ret2
  exact zad.none m.o RE.o.1 RE.o.2 F1.o
 have i1:¬(L.length:Int)<32:=by omega
 have aS:=λw' (f:Fr No w w')=>znb (m.o.gr.fr0 f) (by omega) (HV.o.keep f) bt
 have ba:=J aS
 have aZ:=J (λw' (f:Fr No w w')=>ziY (m.o.gr.fr0 f) (by omega))
 have bl:=@J (∀y∈upS (gOf L) ps,zY y) (λy hy=>m.o.gr.okId y ((jQ ps).subset hy))
 have UL:=@J ((upS (gOf L) ps).length≤1000) (by have:=qp (m.o.gr.gok.nd.sublist (jQ ps)) (λx hx=>(jQ ps).subset hx);rw[vm] at this;unfold xt at this;rw[length_map] at this;have:=LN.o;omega)
 have CD:=@J (vF L (upS (gOf L) ps) L.length=Y0 L ps) (by unfold vF Y0;rw[take_length])
 have bb:=@J ((ids (gOf L)).length=L.length) (by rw[vm];unfold xt;simp)
 have aj:=@J (∀r,YX L ps=r→JO L x ps=(match r with|none=>18|some e=>if QG (wgt e) x<0 then 0 else 18)∧vU L x ps=(match r with|none=>[]|some e=>if QG (wgt e) x<0 then vk (gOf L) [e.id] else[])) (λr hr=>by
  unfold JO vU
  rw[if_neg h32,if_neg h32,hr]
  exact⟨rfl,rfl⟩)
 have WP:=@J (YX L ps=(Zc ((Y0 L ps).map wgt) (Y0 L ps).length).bind λk=>(Y0 L ps)[k]?) (rfl)
 have iL:L.length≤900:=by have:=LN.o;omega
 clear aS h32
 generalize hU:upS (gOf L) ps=U at*
 go_enter Tryz.func48,Tryz.ntmps48
 have⟨H,K1,K2⟩:=tZ3
 go_wp2_with ((first|((with_reducible refine zt ?_);clear H;refine zg rfl (jj rfl rfl (ai.o _)) ?_;generalize bF:w.heap.size=qw at*;generalize bz:w.alloc (.cells (xy x).toArray 127)=w1 at*;clear bz)|(clear K1;go_at_call 87;refine(ba.o _ F1.o).mono ?_;rintro e w2 ⟨uv,rfl,o⟩;obtain⟨ua,uc,bu⟩:=o.1.slice.arg.form;subst bu;have aW:=J o.2;have F2:=J (F1.o.trans0 o.2);have UI:=J (yP.own o.1 bl.o);clear o;have bB:=(m.o.fr0 F2.o).cells.2.2)|(clear K2;go_at_call 55;refine(aZ.o _ F2.o).mono ?_;rintro e w3 ⟨av,rfl,o⟩;obtain⟨aa,ac,bp⟩:=o.1.slice.arg.form;subst bp;have ay:=J o.2;have F3:=J (F2.o.trans0 o.2);have AI:=J (yP.own o.1 (λy hy=>m.o.gr.okId y hy));clear o;have bk:=J (UI.o.keep ay.o)));go_frame)
 have H3:=J (m.o.fr0 F3.o)
 rw[bb.o]
 go_loopw [9,10,34] (λov wv iv wr=>∃n:Nat,iv=.int .i64 n∧n≤L.length∧∃ia ic wa wc,ov=.slice ia (vF L U n).length ic∧wv=.slice wa (vF L U n).length wc∧wr.ownsRow w3.heap.size 41 32 (.slice ia (vF L U n).length ic) (vF L U n).length (((vF L U n).map (·.id)).flatMap zf)∧wr.ownsRow w3.heap.size 127 2 (.slice wa (vF L U n).length wc) (vF L U n).length (((vF L U n).map wgt).flatMap xy)∧(∀j,(Value.slice ia (vF L U n).length ic).ownBlock=some j→(Value.slice wa (vF L U n).length wc).ownBlock=some j→False)∧Fr No w3 wr) (λ_ _ iv _=>L.length-(intOf iv).toNat)
 case atStart=>exact⟨0,rfl,zero_le _,none,0,none,0,rfl,rfl,World.ownsRow_nil _ _ _ _,World.ownsRow_nil _ _ _ _,λj h _=>(by cases h),Fr.refl _ _⟩
 case round=>
  obtain⟨n,rfl,hn,ia,ic,wa,wc,rfl,rfl,aM,Z,aG,aJ⟩:=hrel
  have FR:=J aJ
  have D:=J aM
  have WO:=J Z
  have DS:=J aG
  have CL:=J (zhy L U n)
  clear aJ aM Z aG
  by_cases bs:n<L.length
  ·have i2:(n:Int)<(L.length:Int):=by omega
   obtain⟨e,O⟩:∃e,L[n]? =some e:=⟨_,getElem?_eq_getElem bs⟩
   have V:(ids (gOf L))[n]? =some e.id:=by rw[vm];unfold xt;rw[getElem?_map,O];rfl
   obtain⟨b,off,bC,e0,hr,-⟩:=(AI.o.keep FR.o).at_ V
   injection e0 with e1 e2 e3
   subst e1
   have G:=J (AI.o.1 e.id (mem_of_getElem? V))
   have Q:=J (zx G.o)
   have R1:=J hr
   have RN:=J (zy wr (zf e.id) 41)
   have FA:=J ((frN wr).alloc (.cells (zf e.id).toArray 41))
   have ad:=J (YH _ (bk.o.keep (FR.o.trans0 FA.o)) (by have:=UL.o;omega) e.id G.o)
   have SN:=J (zfQ (U:=U) O)
   have ah:=J (mem_of_getElem? O)
   clear hr O V e2 e3
   by_cases hu:e.id∈U
   ·have du:decide (e.id∈U)=true:=decide_eq_true hu
    rw[du] at ad
    rw[if_pos hu] at SN
    clear hu du
    have⟨H,K1,K2,K3⟩:=tZ4
    go_wp2_with ((first|((with_reducible refine zt ?_);first|(clear H;refine zoc rfl rfl rfl R1.o Q.o ?_)|(clear K2;refine zoc rfl rfl rfl RN.o Q.o ?_))|((with_reducible refine zv ?_);clear K1;refine zol (w:=wr) (cs:=zf e.id) rfl rfl rfl rfl Q.o zU ?_)|(clear K3;go_at_call 88;refine ad.o.mono ?_;rintro e' w5 ⟨rfl,F⟩;have A:=J (FA.o.trans0 F);clear F));go_frame)
    go_roundw
    case rel=>exact⟨n+1,by go_num,by omega,ia,ic,wa,wc,by rw[SN.o],by rw[SN.o],by rw[SN.o];exact zb D.o A.o (λ_ _=>id),by rw[SN.o];exact zb WO.o A.o (λ_ _=>id),by rw[SN.o];exact DS.o,FR.o.trans0 A.o⟩
    case measure=>simp[intOf];omega
   ·have du:decide (e.id∈U)=false:=decide_eq_false hu
    rw[du] at ad
    rw[if_neg hu] at SN
    clear hu du
    obtain⟨ta,tc,oa,oc,aF⟩:=(H3.o.data e ah.o).now.form
    have ak:YF C L e.id=[.int .u32 e.tx.ver,.slice ta e.tx.ins.length tc,.slice oa e.tx.outs.length oc,.int .u64 e.fee,.int .i64 e.size,.int .u64 e.added]:=by
     unfold YF
     rw[if_pos (show e.id∈xt L from mem_map.2 ⟨e,ah.o,rfl⟩),aF]
    have LK:=J (λw' (h':qJ w' ma M)=>Yq (w:=w') G.o h' a8.o ak)
    clear aF ak
    have⟨H,K1,K2,K3,K4,K5,K6⟩:=tZ7
    go_wp2_with ((first|((with_reducible refine zt ?_);first|(clear H;refine zoc rfl rfl rfl R1.o Q.o ?_)|(clear K2;refine zoc rfl rfl rfl RN.o Q.o ?_)|(clear K4;refine zoc rfl rfl rfl aC.o Q.o ?_)|(clear K5;refine zg rfl (zS (t:=38) rfl rfl xP qK rfl (by decide) (by decide) Q.o) ?_)|(clear K6;at_builtin;refine zQ rfl rfl rfl rfl A1.o ?_))|((with_reducible refine zv ?_);clear K1;refine zol (w:=wr) (cs:=zf e.id) rfl rfl rfl rfl Q.o zU ?_;generalize aP:wr.heap.size=qx at*)|(clear K3;go_at_call 88;refine ad.o.mono ?_;rintro e' w5 ⟨rfl,F⟩;have A:=J (FA.o.trans0 F);have aC:=J (za RN.o F id);clear F;obtain⟨v6,w6,a1,a2,a3,-,a5⟩:=yY (P:=prog) w5 w3.heap.size 38 38 41 32 32 _ xP qm rfl (by decide) (zb D.o A.o (λ_ _=>id)) (zf e.id) Q.o zU (by have:=CL.o;omega) (by have:=CL.o;unfold maxLen;omega) (by have:=FR.o.size;have:=A.o.size;omega);obtain⟨au,aw,bx⟩:=a2.slice.arg.form;subst bx;have A1:=J a1;have A2:=J a2;have A3:=J a3;have A5:=J a5;clear a1 a2 a3 a5));go_frame)
    have NI:=@J (∀j,(Value.slice ia (vF L U n).length ic).ownBlock=some j→w3.heap.size≤j∧j<qx) (λj s=>⟨(D.o.lt j s).1,by rw[←aP];exact(D.o.lt j s).2⟩)
    have NW:=@J (∀j,(Value.slice wa (vF L U n).length wc).ownBlock=some j→w3.heap.size≤j∧j<qx) (λj s=>⟨(WO.o.lt j s).1,by rw[←aP];exact(WO.o.lt j s).2⟩)
    have aX:=@J (Fr No w3 w6) ((FR.o.trans0 A.o).trans A3.o (λi hi e=>by have:=(NI.o i e).1;omega))
    have bh:=J (za aC.o A3.o (λe=>by have:=(NI.o _ e).2;omega))
    have bn:=J (zb (zb WO.o A.o (λ_ _=>id)) A3.o (λj s e=>DS.o j e s))
    have FD:=J ((frN w6).drew)
    have ab:=J (aX.o.trans0 FD.o)
    have u:=J (H3.o.fr0 ab.o)
    have ao:=J (za bh.o FD.o id)
    have az:=J (HM.o.keep (F3.o.trans0 ab.o) id)
    have bo:=J (zb bn.o FD.o (λ_ _=>id))
    have ax:=J (zb A2.o FD.o (λ_ _=>id))
    have D6:=@J (∀j,(Value.slice au ((vF L U n).length+1) aw).ownBlock=some j→(Value.slice wa (vF L U n).length wc).ownBlock=some j→False) (λj h1 h2=>by
     rcases A5.o j h1 with h|h
     ·exact DS.o j h h2
     ·have:=(NW.o j h2).2;have:=A.o.size;omega)
    refine wrLx [ff,ff,ff,ff,ff,ff,ff,ff,tt,tt,ff] (λw'=>w'.cell? ⟨p,0,none⟩=some (.map (some ma))∧w'.rangeAt qx 0 (zf e.id)∧qJ w' ma M) ?_ (λK hK=>?_)
    ·exact⟨u.o.cells.1,ao.o,az.o⟩
    generalize w6.drew=w7 at*
    obtain⟨v8,w8,b1,b2,b3,-,b5⟩:=yY (P:=prog) w7 w3.heap.size 191 191 127 2 16 _ zhl zjG rfl (by decide) bo.o (xy (wgt e)) rfl V3 (by have:=CL.o;omega) (by have:=CL.o;unfold maxLen;omega) ab.o.size
    obtain⟨aT,aU,ag⟩:=b2.slice.arg.form
    subst ag
    have B1:=J b1
    have B2:=J b2
    have B3:=J b3
    have B5:=J b5
    clear b1 b2 b3 b5
    have al:=@J (Fr No w3 w8) (ab.o.trans B3.o (λi hi e=>by have:=(NW.o i e).1;omega))
    have bj:=J (za ao.o B3.o (λe=>by have:=(NW.o _ e).2;omega))
    have I8:=J (zb ax.o B3.o (λj s e=>D6.o j s e))
    have D8:=@J (∀j,(Value.slice au ((vF L U n).length+1) aw).ownBlock=some j→(Value.slice aT ((vF L U n).length+1) aU).ownBlock=some j→False) (λj h1 h2=>by
     rcases B5.o j h2 with h|h
     ·exact D6.o j h1 h
     ·have:=(ax.o.lt j h1).2;omega)
    repeat((first|(refine zl rfl ?_;constructor;constructor;(focus(first|exact zog rfl (λw h=>h.2.1) Q.o|exact λw' h=>zM (t:=133) rfl rfl rfl (LK.o w' h.2.2)|exact λw' _=>vY (t:=129) (f:=1) rfl rfl (zl5 e.tx.ver ta oa e.tx.ins.length tc e.tx.outs.length oc e.fee e.size e.added w')|(rintro w' ⟨s1,s2,s3⟩;exact goS))))|(refine zm rfl ?_));try simp only[Act.put,pA,pB,pC])
    (refine zF rfl (λK' hK'=>?_))
    refine yg (zS (t:=191) (cs:=xy (wgt e)) rfl rfl zhl zhT rfl (by decide) (by decide) rfl) ?_
    have FB:=J ((frN w7).alloc (.cells (xy (wgt e)).toArray 127))
    refine nXt hK' ?_ λhS=>?_
    ·exact⟨FB.o.cell u.o.cells.1 id,za ao.o FB.o id,az.o.keep FB.o id⟩
    try simp only[Act.put,pA,pB,pC]
    (refine zF rfl (λK' hK'=>?_))
    refine yr rfl rfl rfl B1.o ?_
    refine nXt hK' ?_ λhS=>?_
    ·exact⟨(H3.o.fr0 al.o).cells.1,bj.o,HM.o.keep (F3.o.trans0 al.o) id⟩
    try simp only[Act.put,pA,pB,pC]
    repeat((first|(refine zl rfl ?_;constructor;constructor;(focus(first|(rintro w' -;exact goS))))|(refine zm rfl ?_));try simp only[Act.put,pA,pB,pC])
    refine zL (hK.out _ _ ?_)
    have T:=@J ((vF L U (n+1)).length=(vF L U n).length+1) (by rw[SN.o];simp)
    go_wp2_with fail
    go_roundw
    case rel=>exact⟨n+1,by go_num,by omega,au,aw,aT,aU,by rw[T.o],by rw[T.o],by rw[T.o,SN.o,map_append,List.flatMap_append];simpa using I8.o,by rw[T.o,SN.o,map_append,List.flatMap_append];simpa using B2.o,by rw[T.o];exact D8.o,al.o⟩
    case measure=>simp[intOf];omega
  ·have aO:n=L.length:=by omega
   have i2:¬(n:Int)<(L.length:Int):=by omega
   have CE:=@J (vF L U n=Y0 L ps) (by rw[aO];exact CD.o)
   clear aO
   rw[CE.o]
   rw[CE.o] at D WO
   generalize hK:Y0 L ps=K at*
   have KM:=@J (∀e∈K,e∈L∧e.id∉U) (λe O=>by
    rw[←hK] at O
    unfold Y0 at O
    rw[hU] at O
    simpa using O)
   have KL:=@J (K.length≤900) (by have:=CL.o;rw[CE.o] at this;omega)
   have WI:=@J (Qx wr (.slice wa K.length wc) (K.map wgt)) (⟨λy hy=>by
    obtain⟨e,O,rfl⟩:=mem_map.1 hy
    exact aA.o e (KM.o e O).1,by rw[length_map];exact WO.o.slice.arg⟩)
   have II:=@J (yP wr (.slice ia K.length ic) (K.map (·.id))) (⟨λy hy=>by
    obtain⟨e,O,rfl⟩:=mem_map.1 hy
    exact m.o.ids _ (mem_map.2 ⟨e,(KM.o e O).1,rfl⟩),by rw[length_map];exact D.o.slice.arg⟩)
   have ar:=ziK wr WI.o (by rw[length_map];have:=KL.o;omega)
   rw[length_map] at ar
   have S:=J ar
   have af:=J (za RW.o ((aW.o.trans0 ay.o).trans0 FR.o) id)
   clear ar hK
   have an:=J (F3.o.trans0 FR.o)
   cases hw:Zc (K.map wgt) K.length with
   |none=>
    have RE:=J (aj.o none (by rw[WP.o,hw];rfl))
    have WN:Zb (K.map wgt) K.length= -1:=by unfold Zb;rw[hw]
    rw[WN] at S
    clear hw WN
    have H:=tru
    go_wp2_with (clear H;go_at_call 89;refine S.o.mono ?_;rintro e w5 ⟨rfl,F⟩;have A:=J F;clear F;go_frame)
    refine wrLx [ff,ff,ff,ff,ff,ff,ff,ff,tt,ff,ff] (λ_=>True) ?_ (λK hK=>?_)
    ·trivial
    repeat((first|(refine zl rfl ?_;constructor;constructor;(focus(first|(rintro w' -;exact goS))))|(refine zm rfl ?_));try simp only[Act.put,pA,pB,pC])
    refine zL (hK.out _ _ ?_)
    go_wp2_with fail
    go_ret2
    exact zad.none m.o RE.o.1 RE.o.2 ((an.o.trans0 A.o).drew)
   |some k=>
    have hk:=zaF _ _ k hw
    obtain⟨d,W⟩:∃d,K[k]? =some d:=⟨_,getElem?_eq_getElem hk⟩
    have RE:=J (aj.o (some d) (by rw[WP.o,hw];exact W))
    have WN:Zb (K.map wgt) K.length=k:=by unfold Zb;rw[hw]
    rw[WN] at S
    have EK:=J (KM.o d (mem_of_getElem? W))
    have G:=J (m.o.ids d.id (mem_map.2 ⟨d,EK.o.1,rfl⟩))
    have Q:=J (zx G.o)
    obtain⟨bw,ow,cw,e0,aR,-⟩:=WI.o.at_ (i:=k) (c:=wgt d) (by rw[getElem?_map,W];rfl)
    injection e0 with e1 e2 e3
    subst e1
    obtain⟨bi,oi,ci,e4,aQ,bq⟩:=II.o.at_ (i:=k) (c:=d.id) (by rw[getElem?_map,W];rfl)
    injection e4 with e5 e6 e7
    subst e5
    have ae:=J aR
    have bg:=J aQ
    have bc:=@J (w3.heap.size≤bi) ((D.o.lt bi rfl).1)
    have i5:¬(k:Int)<0:=by omega
    have i6:(k:Int)<(K.length:Int):=by omega
    have LS:=J (λw=>zjN (aA.o d EK.o.1) HX.o w)
    clear hw WN W aR aQ e2 e3 e6 e7 bq
    by_cases hc:QG (wgt d) x<0
    ·have I:=@J (JO L x ps=0∧vU L x ps=vk (gOf L) [d.id]) (⟨by rw[RE.o.1];exact if_pos hc,by rw[RE.o.2];exact if_pos hc⟩)
     rw[decide_eq_true hc] at LS
     clear hc
     have H:=tru
     go_wp2_with (clear H;go_at_call 89;refine S.o.mono ?_;rintro e w5 ⟨rfl,F⟩;have A:=J F;clear F;go_frame)
     have B:=J (A.o.drew)
     refine wrLx [ff,ff,ff,ff,ff,ff,ff,ff,tt,ff,ff] (λw'=>w'.rangeAt bw (ow+k*2) (xy (wgt d))∧w'.rangeAt qw 0 (xy x)) ?_ (λK hK=>?_)
     ·exact⟨za ae.o B.o id,za af.o B.o id⟩
     generalize w5.drew=bA at*
     repeat((first|(refine zl rfl ?_;constructor;constructor;(focus(first|exact xB (ty:=127) rfl (λw h=>h.1) uW rW (show _=some (xy (wgt d)).length from qn)|exact xB (ty:=127) rfl (λw h=>h.2) uW rW (show _=some (xy x).length from qn)|(rintro w' ⟨s1,s2⟩;exact goS))))|(refine zm rfl ?_));try simp only[Act.put,pA,pB,pC])
     (refine zF rfl (λK' hK'=>?_))
     go_simp
     refine(LS.o _).mono ?_
     rintro e w6 ⟨rfl,f6⟩
     have z:=J (B.o.trans0 f6)
     clear f6
     refine nXt hK' ?_ λhS=>?_
     ·exact⟨za ae.o z.o id,za af.o z.o id⟩
     try simp only[Act.put,pA,pB,pC]
     repeat((first|(refine zl rfl ?_;constructor;constructor;(focus(first|(rintro w' ⟨s1,s2⟩;exact goS))))|(refine zm rfl ?_));try simp only[Act.put,pA,pB,pC])
     refine zL (hK.out _ _ ?_)
     have F6:=J (an.o.trans0 z.o)
     have bd:=J (za bg.o z.o id)
     have bm:=@J (∀j,VG j→j<w.heap.size) (m.o.gr.hi)
     go_wp2_with fail
     have F7:=J ((frN w6).drew)
     have R:=J (F6.o.trans0 F7.o)
     have u:=J (m.o.fr0 R.o)
     have aB:=J (za bd.o F7.o id)
     refine wrLx [ff,ff,ff,ff,ff,ff,ff,ff,tt,ff,ff,ff,ff,ff] (λw'=>w'.cell? ⟨p,2,none⟩=some (.pointer (some ⟨g,0,none⟩))∧w'.rangeAt bi (oi+k*32) (zf d.id)) ?_ (λK hK=>?_)
     ·exact⟨u.o.cells.2.2,aB.o⟩
     generalize w6.drew=w7 at*
     repeat((first|(refine zl rfl ?_;constructor;constructor;(focus(first|exact zog rfl (λw h=>h.2) Q.o|(rintro w' ⟨s1,s2⟩;exact goS))))|(refine zm rfl ?_));try simp only[Act.put,pA,pB,pC])
     (refine zF rfl (λK' hK'=>?_))
     go_simp
     refine(zmC u.o.gr (by omega) G.o).mono ?_
     rintro e' w8 ⟨gv,rfl,V8,aK,aH,ag,aq⟩
     obtain⟨ga,gc,br⟩:=aq.slice.arg.form
     subst br
     have aY:=@J (d.id∈ids (gOf L)) (by rw[vm];exact mem_map.2 ⟨d,EK.o.1,rfl⟩)
     have G8:=J aK
     have F8:=J aH
     have E:=J ag
     have O8:=J aq
     clear aK aH ag aq
     rw[if_pos aY.o]
     have c8:=J (F8.o.cell u.o.cells.2.2 u.o.apart.2.2.2.1)
     have bf:=J (za aB.o F8.o (λe=>by have:=bm.o _ e;have:=bc.o;have:=F3.o.size;omega))
     refine nXt hK' ?_ λhS=>?_
     ·exact⟨c8.o,bf.o⟩
     try simp only[Act.put,pA,pB,pC]
     repeat((first|(refine zl rfl ?_;constructor;constructor;(focus(first|(rintro w' ⟨s1,s2⟩;exact goS))))|(refine zm rfl ?_));try simp only[Act.put,pA,pB,pC])
     refine zL (hK.out _ _ ?_)
     have M8:=@J (JW w0 w8 p ma ms g X C L) (u.o.m.frV F8.o ⟨u.o.apart.2.2.2.1,u.o.apart.2.2.2.2.1,u.o.apart.2.2.2.2.2⟩ u.o.gr.lo (λj s=>u.o.sub j (.inr (.inr (.inr s)))) (λ_ _ h=>h) u.o.m.subX)
     have MW:=@J (ma<w.heap.size∧ms<w.heap.size) (⟨m.o.hi ma (.inr (.inl rfl)),m.o.hi ms (.inr (.inr (.inl rfl)))⟩)
     have aV:=@J (∀y∈vk (gOf L) [d.id],zY y) (λy hy=>m.o.gr.okId y ((vl [d.id]).subset hy))
     have DL:=@J ((vk (gOf L) [d.id]).length≤100000) (by have:=qp (m.o.gr.gok.nd.sublist (vl [d.id])) (λx hx=>(vl [d.id]).subset hx);rw[vm] at this;unfold xt at this;rw[length_map] at this;omega)
     have HD:=J (zmD M8.o AP.o m.o.nd a6.o (v:=.slice ga (vk (gOf L) [d.id]).length gc) (l:=vk (gOf L) [d.id]) (λw' f=>yP.own (zb O8.o f (λj s e=>by have:=(O8.o.lt j s).1;have:=R.o.size;have:=MW.o;rcases e with e|e<;>omega)) aV.o) (λy hy=>by rw[←vm];exact(vl [d.id]).subset hy) (m.o.gr.gok.nd.sublist (vl [d.id])) DL.o)
     have aD:=J (zcL m.o.gr.gok [d.id])
     rw[zeq aD.o] at G8
     generalize bD:vk (gOf L) [d.id]=DD at*
     have H:=tru
     go_wp2_with (clear H;go_at_call 92;refine HD.o.mono ?_;rintro e' w9 ⟨rfl,aN,aI⟩;have M9:=J aN;have F9:=J aI;clear aN aI;go_frame)
     go_ret2
     refine⟨_,by rw[I.o.1];rfl,V8,?_,?_,E.o,?_⟩
     ·rw[I.o.2]
      exact M9.o.at_ (G8.o.frV F9.o (λj s e=>by rcases e with e|e;(rw[e] at s;exact u.o.apart.2.2.2.2.1 (E.o _ s));(rw[e] at s;exact u.o.apart.2.2.2.2.2 (E.o _ s))) (λj e=>by have:=m.o.lo3;rcases e with e|e<;>omega)) ⟨λe=>u.o.apart.2.2.2.1 (E.o _ e),λe=>u.o.apart.2.2.2.2.1 (E.o _ e),λe=>u.o.apart.2.2.2.2.2 (E.o _ e)⟩ (λj s=>m.o.sub j (s.imp_right (λh=>h.imp_right (λh=>h.imp_right (E.o j)))))
     ·exact(R.o.of0.trans F8.o (λj _ e=>.inr (.inr (.inr e)))).trans F9.o (λj _ e=>by rcases e with e|e;exact .inr (.inl e);exact .inr (.inr (.inl e)))
     ·rw[I.o.2]
      exact yU (zb O8.o F9.o (λj s e=>by have:=(O8.o.lt j s).1;have:=R.o.size;have:=MW.o;rcases e with e|e<;>omega)) R.o.size
    ·have I:=@J (JO L x ps=18∧vU L x ps=[]) (⟨by rw[RE.o.1];exact if_neg hc,by rw[RE.o.2];exact if_neg hc⟩)
     rw[decide_eq_false hc] at LS
     clear hc
     have H:=tru
     go_wp2_with (clear H;go_at_call 89;refine S.o.mono ?_;rintro e w5 ⟨rfl,F⟩;have A:=J F;clear F;go_frame)
     have B:=J (A.o.drew)
     refine wrLx [ff,ff,ff,ff,ff,ff,ff,ff,tt,ff,ff] (λw'=>w'.rangeAt bw (ow+k*2) (xy (wgt d))∧w'.rangeAt qw 0 (xy x)) ?_ (λK hK=>?_)
     ·exact⟨za ae.o B.o id,za af.o B.o id⟩
     generalize w5.drew=bA at*
     repeat((first|(refine zl rfl ?_;constructor;constructor;(focus(first|exact xB (ty:=127) rfl (λw h=>h.1) uW rW (show _=some (xy (wgt d)).length from qn)|exact xB (ty:=127) rfl (λw h=>h.2) uW rW (show _=some (xy x).length from qn)|(rintro w' ⟨s1,s2⟩;exact goS))))|(refine zm rfl ?_));try simp only[Act.put,pA,pB,pC])
     (refine zF rfl (λK' hK'=>?_))
     go_simp
     refine(LS.o _).mono ?_
     rintro e w6 ⟨rfl,f6⟩
     have z:=J (B.o.trans0 f6)
     clear f6
     refine nXt hK' ?_ λhS=>?_
     ·exact⟨za ae.o z.o id,za af.o z.o id⟩
     try simp only[Act.put,pA,pB,pC]
     repeat((first|(refine zl rfl ?_;constructor;constructor;(focus(first|(rintro w' ⟨s1,s2⟩;exact goS))))|(refine zm rfl ?_));try simp only[Act.put,pA,pB,pC])
     refine zL (hK.out _ _ ?_)
     have F6:=J (an.o.trans0 z.o)
     go_wp2_with fail
     go_ret2
     exact zad.none m.o I.o.1 I.o.2 F6.o
end
theorem zka {L:List yd} {x:Int×Int} {ps:List zd} (h:JO L x ps≠0):vU L x ps=[]:=by
 unfold JO at h
 unfold vU
 by_cases h1:L.length<32
 ·rw[if_pos h1] at h;exact absurd rfl h
 ·rw[if_neg h1] at h⊢
  cases hw:YX L ps with
  |none=>rfl
  |some e=>
   rw[hw] at h
   simp only at h⊢
   by_cases h2:QG (wgt e) x<0
   ·rw[if_pos h2] at h;exact absurd rfl h
   ·rw[if_neg h2]
theorem vS.wok {S:List zr} {I:List zd} {L:List yd} (n:vS S I L) (hS:∀c∈S,c.ok) (f:∀e∈L,∀x∈e.tx.outs,x.ok):∀e∈L,WOk (wgt e):=by
 induction n with
 |nil=>simp
 |@snoc A e hA hc hl he ih=>
  intro x d
  have b:∀e∈A,∀x∈e.tx.outs,x.ok:=λa l=>f a (by simp[l])
  rcases mem_append.1 d with d|d
  ·exact ih b x d
  ·obtain rfl:=mem_singleton.1 d
   obtain⟨-,-,h,i⟩:=zdJ he
   have m:∀y∈xO S A x.tx,y.ok:=λy o=>by
    obtain⟨q,r,rfl⟩:=mem_map.1 o
    unfold qP
    split
    ·exact vI hS q
    ·exact Yn b q
   have j:=za9 (t:=x.tx) m (f x (by simp))
   have k:=Xz (Jl hc).1
   unfold WOk wgt
   rw[h,i]
   exact⟨j,k.1,by omega⟩
theorem vS.ins8 {S:List zr} {I:List zd} {L:List yd} (b:vS S I L):∀e∈L,e.tx.ins.length≤8:=λe a=>(yZ.1 (Jl (b.ent e a).1).1).2.1
theorem zlk {L:List yd} (h:∀e∈L,e.tx.ins.length≤8):(L.flatMap λe=>zZ e.tx).length≤8*L.length:=by
 induction L with
 |nil=>simp
 |cons e l ih=>
  have b:=ih (λx a=>h x (.tail _ a))
  have c:=h e (.head _)
  rw[List.flatMap_cons,List.length_append,vM,List.length_cons]
  omega
theorem zly {w:World} {q:Nat} {T:TypeId} {a b c d e f x y z:Value} (h:w.heap[q]? =some (.cells #[a,b,c,d,e,f] T (0,0))):(w.setCells q 0 [x,y,z]).heap[q]? =some (.cells #[x,y,z,d,e,f] T (0,0)):=by
 have i:=heap_setCell_same w q 0 _ _ x h
 have j:=heap_setCell_same _ q 1 _ _ y i
 have k:=heap_setCell_same _ q 2 _ _ z j
 simpa[World.setCells] using k
def zeb (w0 w:World) (p ma ms g:Nat) (VG X:Nat→Prop) (S:List zr) (I:List zd) (L:List yd) (t:TxD) (now:Int) (N:Nat) (e:Ending) (w':World):Prop:=
 ∃gv,e=.returned (.tuple #[gv,.int .i64 (Zh S I L t)])∧(∃VG' C',yq w0 w' p ma ms g VG' (λj=>X j∨VG' j) C' (Zi S I L t now) (N+1)∧Fr (poV p ma ms VG) w w'∧∀j,VG' j→VG j∨w.heap.size≤j)∧
  w'.ownsRow w.heap.size 41 32 gv (Qy S I L t).length ((Qy S I L t).flatMap zf)
section
variable {w0 w:World} {p ma ms g N:Nat} {VG X:Nat→Prop} {C:zd→List Value} {L:List yd} {S:List zr} {I:List zd}
theorem zeb.bad {t:TxD} {now:Int} (h:yq w0 w p ma ms g VG X C L N) (d:Zh S I L t=c) (l:c≠0) (f:Fr No w w'):zeb w0 w p ma ms g VG X S I L t now N (.returned (.tuple #[.slice none 0 0,.int .i64 c])) w':=by
 have b:Zh S I L t≠0:=by rw[d];exact l
 have k:Zi S I L t now=L:=by unfold Zi;rw[if_neg b]
 have i:Qy S I L t=[]:=by unfold Qy;rw[if_neg b]
 refine⟨_,by rw[d],⟨VG,C,?_,f.of0,λj a=>.inl a⟩,by rw[i];exact World.ownsRow_nil _ _ _ _⟩
 rw[k]
 exact((h.mono (Nat.le_succ N)).frV f (λ_ _=>id) (λ_ h=>h.elim) (λ_ h=>h.elim) (λj _ a=>a.elim id (λe=>h.sub j (.inr (.inr (.inr e))))) (λj a=>.inl (h.sub j a)))
theorem zeg (hg:q9 w) (h:yq w0 w p ma ms g VG X C L N) (dc:N≤800) (hX:∀j,X j→j<w.heap.size) (hv:vS S I L) (cW:L.length≤32) {w1:World} {bs:List yB} (hc:Cn w1 w pc VC S bs I) (hS:∀c∈S,c.ok) {t:TxD} (ht:Kept X w (λw=>TxQ w t cs)) {now:Nat} (c9:now<18446744073709551616):
  Calls prog 16 #[.pointer (some ⟨p,0,none⟩),.pointer (some ⟨pc,0,none⟩),.agg cs.toArray,.int .u64 now] w (zeb w0 w p ma ms g VG X S I L t now N):=by
 obtain⟨dE,uE,rE⟩:=zgX
 obtain⟨dW,uW,rW⟩:=Vl
 have ze:=show ∀w,(zeroValue 129).run prog w=.ok (.agg vy.toArray) w from V6
 have zh:=yS
 have zp:=vR
 obtain⟨ia,ic,oa,oc,rfl⟩:=ht.now.form
 have f1:Fr No w (w.alloc (.cells #[.int .u32 t.ver,.slice ia t.ins.length ic,.slice oa t.outs.length oc] 34)):=(frN w).alloc _
 have F1:=J f1
 have R1:=J (qW w t.ver (.slice ia t.ins.length ic) (.slice oa t.outs.length oc)).2.2.2
 have HT:=J ht
 have HG:=J hg
 have H:=J h
 have H1:=@J (yq w0 w p ma ms g VG (λj=>X j∨w.heap.size≤j) C L N) (h.frV (frN w) (λ_ _=>id) (λ_ h=>h.elim) (λ_ h=>h.elim) (λj a e=>e.resolve_right (by omega)) (λj a=>.inl (h.sub j a)))
 have HC:=J hc
 have HS:=J hS
 have ba:=J hv
 have cT:=J hX
 have an:=J (XK _ ((HT.o.same F1.o.of0).now))
 have aL:=J (λw' (f:Fr No w w')=>Xq (HG.o.keep0 f) (HT.o w' f.of0))
 clear f1 ht hg h hc hS hv hX
 show Calls prog 16 #[.pointer (some ⟨p,0,none⟩),.pointer (some ⟨pc,0,none⟩),.agg #[.int .u32 t.ver,.slice ia t.ins.length ic,.slice oa t.outs.length oc],.int .u64 now] w _
 by_cases c1:yC t=0
 rotate_left
 ·have LE:=@J (Zh S I L t=yC t) (by unfold Zh;rw[if_pos c1])
  have je:(yC t==0)=false:=by simpa using c1
  have NE:=J c1
  clear c1
  go_enter Tryz.func16,Tryz.ntmps16
  have⟨K0,K1⟩:=tZ2
  go_wp2_with ((first|((with_reducible refine zt ?_);clear K0;refine zoa rfl rfl rfl R1.o rfl ?_;generalize aj:w.heap.size=B at*;generalize P:w.alloc (.cells #[.int .u32 t.ver,.slice ia t.ins.length ic,.slice oa t.outs.length oc] 34)=wa at*;have Z1:=@J (B<wa.heap.size) (by rw[←P,←aj];simp);clear P)|(clear K1;go_at_call 32;refine an.o.mono ?_;rintro e w3 ⟨rfl,f3⟩;have F3:=J (F1.o.trans0 f3);have R3:=J (za R1.o f3 id);have Z3:=@J (B<w3.heap.size) (by have:=Z1.o;have:=f3.size;omega);clear f3;have ao:=J (aL.o _ F3.o)));go_frame)
  go_ret2
  exact zeb.bad H.o LE.o NE.o F3.o
 unfold jA at an
 rw[c1] at an
 have FM:=J (Jl c1).1
 have a6:=J c1
 have bb:=@J (idE t=0) (by unfold idE;rw[if_pos FM.o])
 have bp:=J (qC t)
 have XL:=J (zx bp.o)
 by_cases c2:qO S I L t=0
 rotate_left
 ·have LE:=@J (Zh S I L t=qO S I L t) (by unfold Zh;rw[if_neg (by simp[c1]),if_pos c2])
  have je:(qO S I L t==0)=false:=by simpa using c2
  have NE:=J c2
  clear c1 c2
  go_enter Tryz.func16,Tryz.ntmps16
  have⟨K0,K1,K2,K3,K4,K5,K6,K7,K8⟩:=tZ9
  go_wp2_with ((first|((with_reducible refine zt ?_);first|(clear K0;refine zoa rfl rfl rfl R1.o rfl ?_;generalize aj:w.heap.size=B at*;generalize P:w.alloc (.cells #[.int .u32 t.ver,.slice ia t.ins.length ic,.slice oa t.outs.length oc] 34)=wa at*;have Z1:=@J (B<wa.heap.size) (by rw[←P,←aj];simp);clear P)|(clear K2;refine zoa rfl rfl rfl R3.o rfl ?_)|(clear K5;refine zoc rfl rfl rfl RH.o XL.o ?_)|(clear K6;refine zoa rfl rfl rfl R5.o rfl ?_))|(clear K1;go_at_call 32;refine an.o.mono ?_;rintro e w3 ⟨rfl,f3⟩;have F3:=J (F1.o.trans0 f3);have R3:=J (za R1.o f3 id);have Z3:=@J (B<w3.heap.size) (by have:=Z1.o;have:=f3.size;omega);clear f3;have ao:=J (aL.o _ F3.o))|(clear K3;go_at_call 15;refine ao.o.mono ?_;rintro e w4 ⟨rfl,f4⟩;rw[bb.o];have F4:=J (F3.o.trans0 f4);have R4:=J (za R3.o f4 id);have Z4:=@J (B<w4.heap.size) (by have:=Z3.o;have:=f4.size;omega);clear f4;have RH:=J (zy w4 (zf (idH t)) 41);have ad:=J ((frN w4).alloc (.cells (zf (idH t)).toArray 41)))|(clear K7;go_at_call 47;refine ay.o.mono ?_;rintro e Q ⟨l,pv,rfl,f6,O,aH⟩;have EO:=J O.2;have EL:=J O.1;clear aH;have F6:=J (F5.o.trans0 f6);have R6:=J (za R5.o f6 id);have aA:=J (za RH.o f6 id);have Z6:=@J (qh<Q.heap.size) (by have:=Z5.o;have:=f6.size;omega);clear f6 O;have RE:=J (zy Q l 129);have A:=J ((frN Q).alloc (.cells l.toArray 129));have BE:=J (yj Q (.cells l.toArray 129)))|((with_reducible refine zv ?_);first|(clear K4;refine zol (w:=w4) (cs:=zf (idH t)) rfl rfl rfl rfl XL.o zU ?_;generalize aC:w4.heap.size=qh at*;generalize af:w4.alloc (.cells (zf (idH t)).toArray 41)=w5 at*;have Z5:=@J (qh<w5.heap.size) (by rw[←af,←aC];simp);clear af;have F5:=J (F4.o.trans0 ad.o);have R5:=J (za R4.o ad.o id);have ay:=J (zbV (HG.o.keep0 F5.o) (H1.o.fr0 F5.o) (by omega) (HC.o.fr0 F5.o) HS.o (HT.o w5 F5.o.of0) a6.o))|(clear K8;refine zi rfl (zj (w:=Q) (ty:=129) (cs:=l) rfl rfl rfl (by rw[EL.o];rfl) (by rw[EL.o];exact qj) EO.o) ?_;generalize ak:Q.heap.size=E at*;generalize ag:Q.alloc (.cells l.toArray 129)=w7 at*;have Z7:=@J (E<w7.heap.size) (by rw[←ag,←ak];simp);clear ag;have F7:=J (F6.o.trans0 A.o);have R7:=J (za R6.o A.o id);have bl:=J (za aA.o A.o id))));go_frame)
  go_ret2
  exact zeb.bad H.o LE.o NE.o F7.o
 have aM:=J c2
 obtain⟨l1,l2,l3,l4,l5,l6⟩:=zeV c2
 have cw:=J l1
 have cP:=J (zfg.1 l3).1
 have ct:=J l6
 have bj:=@J ((xC L t).length≤8) (le_trans (zfb L t) (yZ.1 FM.o).2.1)
 have bk:=@J (∀y∈xC L t,zY y) (λy hy=>H.o.ids y (Yu hy))
 have bE:=@J (WOk (Ja t (xO S L t),qQ t)) (by
  have hp:∀y∈xO S L t,y.ok:=λy hy=>by
   obtain⟨q,hq,rfl⟩:=mem_map.1 hy
   unfold qP
   split
   ·exact vI HS.o q
   ·exact Yn H.o.outs_ok q
  have s:=za9 (t:=t) hp HT.o.now.oks.2
  have h2:=Xz FM.o
  exact⟨s,h2.1,by show qQ t≤_;omega⟩)
 have AP:=J ba.o.apart
 have bc:=J ba.o.ins8
 have WO:=J (ba.o.wok HS.o H.o.outs_ok)
 have E0:=@J (Zh S I L t=JO L (Ja t (xO S L t),qQ t) (xC L t)) (by unfold Zh;rw[if_neg (by simp[c1]),if_neg (by simp[c2])])
 clear l1 l2 l3 l4 l5 l6
 generalize aB:((Ja t (xO S L t),qQ t):Int×Int)=v at*
 by_cases c3:JO L v (xC L t)=0
 rotate_left
 ·have LE:=@J (Zh S I L t=JO L v (xC L t)) (E0.o)
  have RG:=J (zka c3)
  have je:(JO L v (xC L t)==0)=false:=by simpa using c3
  have NE:=J c3
  clear c1 c2 c3
  go_enter Tryz.func16,Tryz.ntmps16
  have⟨K0,K1,K2,K3,K4,K5,K6,K7,K8,K9,bd⟩:=tZ11
  go_wp2_with ((first|((with_reducible refine zt ?_);first|(clear K0;refine zoa rfl rfl rfl R1.o rfl ?_;generalize aj:w.heap.size=B at*;generalize P:w.alloc (.cells #[.int .u32 t.ver,.slice ia t.ins.length ic,.slice oa t.outs.length oc] 34)=wa at*;have Z1:=@J (B<wa.heap.size) (by rw[←P,←aj];simp);clear P)|(clear K2;refine zoa rfl rfl rfl R3.o rfl ?_)|(clear K5;refine zoc rfl rfl rfl RH.o XL.o ?_)|(clear K6;refine zoa rfl rfl rfl R5.o rfl ?_)|(clear K9;refine zg rfl (z7 (ty:=127) rfl rfl bm.o uW rW (show _=some (xy v).length from qn)) ?_))|(clear K1;go_at_call 32;refine an.o.mono ?_;rintro e w3 ⟨rfl,f3⟩;have F3:=J (F1.o.trans0 f3);have R3:=J (za R1.o f3 id);have Z3:=@J (B<w3.heap.size) (by have:=Z1.o;have:=f3.size;omega);clear f3;have ao:=J (aL.o _ F3.o))|(clear K3;go_at_call 15;refine ao.o.mono ?_;rintro e w4 ⟨rfl,f4⟩;rw[bb.o];have F4:=J (F3.o.trans0 f4);have R4:=J (za R3.o f4 id);have Z4:=@J (B<w4.heap.size) (by have:=Z3.o;have:=f4.size;omega);clear f4;have RH:=J (zy w4 (zf (idH t)) 41);have ad:=J ((frN w4).alloc (.cells (zf (idH t)).toArray 41)))|(clear K7;go_at_call 47;refine ay.o.mono ?_;rintro e Q ⟨l,pv,rfl,f6,O,aH⟩;have EO:=J O.2;have EL:=J O.1;obtain⟨aF,aG⟩:=aH aM.o;have PV:=J aG;have EC:=J aF;clear aF aG;rw[aM.o];obtain⟨b7,b8,bx⟩:=PV.o.slice.arg.form;subst bx;have F6:=J (F5.o.trans0 f6);have R6:=J (za R5.o f6 id);have aA:=J (za RH.o f6 id);have Z6:=@J (qh<Q.heap.size) (by have:=Z5.o;have:=f6.size;omega);clear f6 O;have RE:=J (zy Q l 129);have A:=J ((frN Q).alloc (.cells l.toArray 129));have BE:=J (yj Q (.cells l.toArray 129)))|(clear bd;go_at_call 48;refine a8.o.mono ?_;rintro e w8 ⟨gv,rfl,ae,h8,f8,aE,ai⟩;obtain⟨ga,gc,br⟩:=ai.slice.arg.form;subst br;have H8:=J h8;have F8:=J f8;have V8:=J aE;have O8:=J ai;clear h8 f8 aE ai)|((with_reducible refine zv ?_);first|(clear K4;refine zol (w:=w4) (cs:=zf (idH t)) rfl rfl rfl rfl XL.o zU ?_;generalize aC:w4.heap.size=qh at*;generalize af:w4.alloc (.cells (zf (idH t)).toArray 41)=w5 at*;have Z5:=@J (qh<w5.heap.size) (by rw[←af,←aC];simp);clear af;have F5:=J (F4.o.trans0 ad.o);have R5:=J (za R4.o ad.o id);have ay:=J (zbV (HG.o.keep0 F5.o) (H1.o.fr0 F5.o) (by omega) (HC.o.fr0 F5.o) HS.o (HT.o w5 F5.o.of0) a6.o))|(clear K8;refine zi rfl (zj (w:=Q) (ty:=129) (cs:=l) rfl rfl rfl (by rw[EL.o];rfl) (by rw[EL.o];exact qj) EO.o) ?_;generalize ak:Q.heap.size=E at*;generalize ag:Q.alloc (.cells l.toArray 129)=w7 at*;have Z7:=@J (E<w7.heap.size) (by rw[←ag,←ak];simp);clear ag;have F7:=J (F6.o.trans0 A.o);have R7:=J (za R6.o A.o id);have bl:=J (za aA.o A.o id);have aq:=J (zb PV.o A.o (λ_ _=>id));have bh:=J (yP.own aq.o bk.o);have bm:=@J (w7.rangeAt E 3 (xy v)) (by intro j u a;have bt:j<2:=(List.getElem?_eq_some_iff.1 a).1;have hr:=RE.o (3+j) u (by rw[EC.o,←aB] at*;match j,bt with|0,_=>exact a|1,_=>exact a);simpa using hr);have a8:=J (zj9 (H1.o.fr0 F7.o) (by omega) AP.o (λe d=>by have:=bc.o e d;omega) WO.o bE.o bh.o (by have:=bj.o;omega)))));go_frame)
  have T:=@J (∀j,poV p ma ms VG j→j<B) (λj a=>by have:=H.o.hi j a;omega)
  go_ret2
  have D:Zh S I L t≠0:=by rw[LE.o];exact NE.o
  refine⟨_,by rw[LE.o];rfl,⟨ae,C,?_,F7.o.of0.trans F8.o (λ_ _ h=>h),λj a=>.inl (V8.o j a)⟩,?_⟩
  ·have h9:=H8.o
   rw[RG.o,XT] at h9
   rw[show Zi S I L t now=L by unfold Zi;rw[if_neg D]]
   exact(h9.mono (Nat.le_succ N)).frV (frN _) (λ_ _=>id) (λ_ h=>h.elim) (λ_ h=>h.elim) (λj a e=>e.elim .inl (λe=>.inl (H.o.sub j (.inr (.inr (.inr (V8.o j e))))))) (λj a=>.inl (H.o.sub j (a.imp_right (λh=>h.imp_right (λh=>h.imp_right (V8.o j))))))
  ·rw[show Qy S I L t=[] by unfold Qy;rw[if_neg D]]
   exact World.ownsRow_nil _ _ _ _
 have LE:=@J (Zh S I L t=0) (by rw[E0.o];exact c3)
 have LG:=@J (Qy S I L t=vU L v (xC L t)) (by unfold Qy;rw[if_pos LE.o,aB])
 have LL:=@J (Zi S I L t now=xj L (vU L v (xC L t))++[mkE S L t now]) (by unfold Zi;rw[if_pos LE.o,LG.o])
 have RZ:=J c3
 obtain⟨s1,s2⟩:=zda H.o.gr.gok v (xC L t)
 have SH:=J s1
 have cA:=J s2
 have aT:=@J ((xj L (vU L v (xC L t))).length≤32) (le_trans (zhL _ _) cW)
 clear c1 c2 c3 s1 s2
 go_enter Tryz.func16,Tryz.ntmps16
 have⟨K0,K1,K2,K3,K4,K5,K6,K7,K8,K9,bd,cp,cq,cr⟩:=tZ14
 go_wp2_with ((first|((with_reducible refine zt ?_);first|(clear K0;refine zoa rfl rfl rfl R1.o rfl ?_;generalize aj:w.heap.size=B at*;generalize P:w.alloc (.cells #[.int .u32 t.ver,.slice ia t.ins.length ic,.slice oa t.outs.length oc] 34)=wa at*;have Z1:=@J (B<wa.heap.size) (by rw[←P,←aj];simp);clear P)|(clear K2;refine zoa rfl rfl rfl R3.o rfl ?_)|(clear K5;refine zoc rfl rfl rfl RH.o XL.o ?_)|(clear K6;refine zoa rfl rfl rfl R5.o rfl ?_)|(clear K9;refine zg rfl (z7 (ty:=127) rfl rfl bm.o uW rW (show _=some (xy v).length from qn)) ?_)|(clear cp;refine zoa rfl rfl rfl R8.o rfl ?_))|(clear K1;go_at_call 32;refine an.o.mono ?_;rintro e w3 ⟨rfl,f3⟩;have F3:=J (F1.o.trans0 f3);have R3:=J (za R1.o f3 id);have Z3:=@J (B<w3.heap.size) (by have:=Z1.o;have:=f3.size;omega);clear f3;have ao:=J (aL.o _ F3.o))|(clear K3;go_at_call 15;refine ao.o.mono ?_;rintro e w4 ⟨rfl,f4⟩;rw[bb.o];have F4:=J (F3.o.trans0 f4);have R4:=J (za R3.o f4 id);have Z4:=@J (B<w4.heap.size) (by have:=Z3.o;have:=f4.size;omega);clear f4;have RH:=J (zy w4 (zf (idH t)) 41);have ad:=J ((frN w4).alloc (.cells (zf (idH t)).toArray 41)))|(clear K7;go_at_call 47;refine ay.o.mono ?_;rintro e Q ⟨l,pv,rfl,f6,O,aH⟩;have EO:=J O.2;have EL:=J O.1;obtain⟨aF,aG⟩:=aH aM.o;have PV:=J aG;have EC:=J aF;clear aF aG;rw[aM.o];obtain⟨b7,b8,bx⟩:=PV.o.slice.arg.form;subst bx;have F6:=J (F5.o.trans0 f6);have R6:=J (za R5.o f6 id);have aA:=J (za RH.o f6 id);have Z6:=@J (qh<Q.heap.size) (by have:=Z5.o;have:=f6.size;omega);clear f6 O;have RE:=J (zy Q l 129);have A:=J ((frN Q).alloc (.cells l.toArray 129));have BE:=J (yj Q (.cells l.toArray 129)))|(clear bd;go_at_call 48;refine a8.o.mono ?_;rintro e w8 ⟨gv,rfl,ae,h8,f8,aE,ai⟩;obtain⟨ga,gc,br⟩:=ai.slice.arg.form;subst br;rw[RZ.o];have H8:=J h8;have F8:=J f8;have V8:=J aE;have O8:=J ai;clear h8 f8 aE ai;have T:=@J (∀j,poV p ma ms VG j→j<B) (λj a=>by have:=H.o.hi j a;omega);have R8:=J (za R7.o F8.o (λe=>by have:=T.o _ e;omega));have cI:=J (za bl.o F8.o (λe=>by have:=T.o _ e;have:=Z4.o;omega));have bA:=@J (w8.heap[E]? =some (.cells #[.int .u32 t.ver,.slice ia t.ins.length ic,.slice oa t.outs.length oc,.int .u64 v.1,.int .i64 v.2,.int .u64 0] 129 (0,0))) (by have h9:=F8.o.obj BE.o (λe=>by have:=T.o _ e;have:=Z4.o;have:=Z6.o;omega);rw[EC.o] at h9;rw[←aB];exact h9);have cS:=J (HT.o w8 (F7.o.of0.trans F8.o (λj _ e=>H.o.sub j e)));have ch:=J (zic w8 cS.o ⟨by have:=(yZ.1 FM.o).2.1;omega,by have:=(yZ.1 FM.o).2.2;omega,λy hy=>by have:=(yZ.1 FM.o).1 y hy;omega⟩))|(clear cq;go_at_call 49;refine ch.o.mono ?_;rintro e w9 ⟨df,rfl,f9,bu⟩;obtain⟨U,W,Y,Z,rfl⟩:=(bu (λ_=>False) (λ_ h=>h.elim)).now.form;have F9:=J f9;have K9:=J bu;clear f9 bu;have bB:=J (F9.o.obj bA.o id);have S3:=J (zly (x:=.int .u32 t.ver) (y:=.slice U t.ins.length W) (z:=.slice Y t.outs.length Z) bB.o);have cc:=J (zu E [.int .u32 t.ver,.slice U t.ins.length W,.slice Y t.outs.length Z] 0 w9))|((with_reducible refine zv ?_);first|(clear K4;refine zol (w:=w4) (cs:=zf (idH t)) rfl rfl rfl rfl XL.o zU ?_;generalize aC:w4.heap.size=qh at*;generalize af:w4.alloc (.cells (zf (idH t)).toArray 41)=w5 at*;have Z5:=@J (qh<w5.heap.size) (by rw[←af,←aC];simp);clear af;have F5:=J (F4.o.trans0 ad.o);have R5:=J (za R4.o ad.o id);have ay:=J (zbV (HG.o.keep0 F5.o) (H1.o.fr0 F5.o) (by omega) (HC.o.fr0 F5.o) HS.o (HT.o w5 F5.o.of0) a6.o))|(clear K8;refine zi rfl (zj (w:=Q) (ty:=129) (cs:=l) rfl rfl rfl (by rw[EL.o];rfl) (by rw[EL.o];exact qj) EO.o) ?_;generalize ak:Q.heap.size=E at*;generalize ag:Q.alloc (.cells l.toArray 129)=w7 at*;have Z7:=@J (E<w7.heap.size) (by rw[←ag,←ak];simp);clear ag;have F7:=J (F6.o.trans0 A.o);have R7:=J (za R6.o A.o id);have bl:=J (za aA.o A.o id);have aq:=J (zb PV.o A.o (λ_ _=>id));have bh:=J (yP.own aq.o bk.o);have bm:=@J (w7.rangeAt E 3 (xy v)) (by intro j u a;have bt:j<2:=(List.getElem?_eq_some_iff.1 a).1;have hr:=RE.o (3+j) u (by rw[EC.o,←aB] at*;match j,bt with|0,_=>exact a|1,_=>exact a);simpa using hr);have a8:=J (zj9 (H1.o.fr0 F7.o) (by omega) AP.o (λe d=>by have:=bc.o e d;omega) WO.o bE.o bh.o (by have:=bj.o;omega)))|(clear cr;refine zi rfl (zK (ty:=34) (b:=E) (off:=0) (cs:=[.int .u32 t.ver,.slice U t.ins.length W,.slice Y t.outs.length Z]) rfl rfl rfl (zX bB.o (Nat.le_of_ble_eq_true rfl)) y5 (qM rfl rfl rfl)) ?_;generalize da:w9.setCells E 0 [.int .u32 t.ver,.slice U t.ins.length W,.slice Y t.outs.length Z]=au at*;have c5:au.cell? ⟨E,5,none⟩=some (.int .u64 0):=(by have:=zq S3.o 5 _ rfl;simpa using this);have cV:=yn (i:=5) S3.o)));go_frame)
 have cM:=S3
 clear S3
 have S5:=@J ((au.setCell ⟨E,5,none⟩ (.int .u64 now)).heap[E]? =some (.cells #[.int .u32 t.ver,.slice U t.ins.length W,.slice Y t.outs.length Z,.int .u64 v.1,.int .i64 v.2,.int .u64 now] 129 (0,0))) (by
  have:=heap_setCell_same au E 5 _ _ (.int .u64 now) cM.out
  simpa using this)
 have R:=@J (B<E∧qh<E∧B<qh) (⟨by have:=Z6.o;have:=Z4.o;omega,Z6.o,Z4.o⟩)
 have a7:=@J (Fr (λj=>j=E) w9 (au.setCell ⟨E,5,none⟩ (.int .u64 now))) (cc.o.trans ((Fr.refl (λj=>j=E) au).setCell _ (.inr rfl) _) (λ_ _ h=>h))
 clear c5 cV
 generalize au.setCell ⟨E,5,none⟩ (.int .u64 now)=aI at*
 have al:=J ((frN aI).drew)
 have ab:=@J (Fr (λj=>j=E) w8 aI.drew) ((F9.o.of0.trans a7.o (λ_ _ h=>h)).trans0 al.o)
 have bz:=J (al.o.obj S5.o id)
 have aU:=@J (aI.drew.rangeAt E 0 [.int .u32 t.ver,.slice U t.ins.length W,.slice Y t.outs.length Z,.int .u64 v.1,.int .i64 v.2,.int .u64 now]) (zq bz.o)
 have G:=@J (yq w0 aI.drew p ma ms g ae (λj=>X j∨B≤j) C (xj L (vU L v (xC L t))) N) (H8.o.frV ab.o (λj a e=>by
  have s:=T.o j (a.imp_right (λh=>h.imp_right (λh=>h.imp_right (V8.o j))))
  have h2:=R.o
  omega) (λj e=>by rw[e];have:=H.o.fr.size;have:=R.o;omega) (λj e=>.inr (by rw[e];have:=R.o;omega)) (λ_ _ h=>h) H8.o.sub)
 have aV:=J (za cI.o ab.o (λe=>by have:=R.o;omega))
 have cF:=J (za R8.o ab.o (λe=>by have:=R.o;omega))
 have bf:=@J (idH t∉xt (xj L (vU L v (xC L t)))) (λe=>by
  rw[XN] at e
  exact cw.o (mem_filter.1 e).1)
 generalize bq:xj L (vU L v (xC L t))=LD at*
 obtain⟨M,hM,hm⟩:=G.o.am
 have b0:=G.o.mapLen hM hm
 obtain⟨av,M2,aD,bR,bV,bT,-⟩:=hM.upd xR.keyed Qf (λ_ _=>y3) (yu bp.o) (by rw[b0];have:=aT.o;unfold maxLen;omega) [.int .u32 t.ver,.slice U t.ins.length W,.slice Y t.outs.length Z,.int .u64 v.1,.int .i64 v.2,.int .u64 now]
 have cn:=J aD
 have k:=J bT.fr
 have cg:=J bR
 have cm:=@J (∀y cs,(y,cs)∈M2↔∃e∈LD++[mkE S L t now],e.id=y∧cs=(if y=idH t then[.int .u32 t.ver,.slice U t.ins.length W,.slice Y t.outs.length Z,.int .u64 v.1,.int .i64 v.2,.int .u64 now] else C y)) (λy cs=>by
  rw[bV y cs,hm]
  constructor
  ·rintro(⟨rfl,rfl⟩|⟨D,e,d,rfl,rfl⟩)
   ·exact⟨mkE S L t now,by simp,rfl,by rw[if_pos rfl]⟩
   ·exact⟨e,List.mem_append_left _ d,rfl,by rw[if_neg D]⟩
  ·rintro⟨e,d,rfl,rfl⟩
   rcases mem_append.1 d with d|d
   ·have D:e.id≠idH t:=λh=>bf.o (by rw[←h];exact mem_map.2 ⟨e,d,rfl⟩)
    exact .inr ⟨D,e,d,rfl,by rw[if_neg D]⟩
   ·obtain rfl:=mem_singleton.1 d
    exact .inl ⟨rfl,by rw[if_pos (show(mkE S L t now).id=idH t from rfl)]⟩)
 have o:=J G.o.apart
 have ML:=@J (ma<B∧ms<B∧p<B) (⟨T.o ma (.inr (.inl rfl)),T.o ms (.inr (.inr (.inl rfl))),T.o p (.inl rfl)⟩)
 have ah:=@J (∀j,ae j→j<B∧j≠p∧j≠ma∧j≠ms) (λj a=>⟨T.o j (.inr (.inr (.inr (V8.o j a)))),λe=>o.o.2.2.2.1 (e▸a),λe=>o.o.2.2.2.2.1 (e▸a),λe=>o.o.2.2.2.2.2 (e▸a)⟩)
 clear aD hM hm b0 bR bV bT
 have cd:=J (G.o.gr.frV k.o (λj a e=>(ah.o j a).2.2.1 e) (λj e=>by rw[e];exact G.o.lo3.2.1))
 have bg:=J (k.o.obj G.o.obj o.o.1)
 have aW:=J (za aV.o k.o (λe=>by have:=R.o;have:=ML.o;omega))
 have bM:=J (za aU.o k.o (λe=>by have:=R.o;have:=ML.o;omega))
 have cG:=J (za cF.o k.o (λe=>by have:=ML.o;omega))
 refine wrLx [ff,ff,ff,ff,ff,ff,tt] (λw'=>w'.cell? ⟨p,0,none⟩=some (.map (some ma))∧w'.rangeAt qh 0 (zf (idH t))∧w'.rangeAt E 0 [.int .u32 t.ver,.slice U t.ins.length W,.slice Y t.outs.length Z,.int .u64 v.1,.int .i64 v.2,.int .u64 now]) ?_ (λK hK=>?_)
 ·exact⟨G.o.cells.1,aV.o,aU.o⟩
 generalize aI.drew=wd at*
 repeat((first|(refine zl rfl ?_;constructor;constructor;(focus(first|exact zog rfl (λw h=>h.2.1) XL.o|exact xB (ty:=129) rfl (λw h=>h.2.2) uE rE qj|(rintro w' ⟨s1,s2,s3⟩;exact goS))))|(refine zm rfl ?_));try simp only[Act.put,pA,pB,pC])
 (refine zF rfl (λK' hK'=>?_))
 refine yN (y4 rfl rfl rfl rfl cn.o) ?_
 refine nXt hK' ?_ λhS=>?_
 ·exact⟨(zq bg.o 0 _ rfl),aW.o,bM.o⟩
 try simp only[Act.put]
 refine zL (hK.out _ _ ?_)
 have bJ:=@J (av.ownsRow w5.heap.size 41 32 (.slice b7 (xC L t).length b8) (xC L t).length ((xC L t).flatMap zf)) (zb (zb (zb aq.o F8.o (λj a e=>by have:=T.o j e;have:=(aq.o.lt j a).1;have:=Z5.o;have:=R.o;omega)) ab.o (λj a e=>by have:=(PV.o.lt j a).2;omega)) k.o (λj a e=>by have:=(aq.o.lt j a).1;have:=Z5.o;have:=ML.o;have:=R.o;omega))
 go_wp2_with fail
 have aa:=J ((frN av).drew)
 have az:=J (za aW.o aa.o id)
 have bC:=@J (av.drew.cell? ⟨p,2,none⟩=some (.pointer (some ⟨g,0,none⟩))) (aa.o.cell (zq bg.o 2 _ rfl) id)
 have cB:=@J (∀y∈xC L t,y∈ids (gOf LD)) (λy hy=>by
  rw[vm,←bq,XN]
  exact mem_filter.2 ⟨Yu hy,by simpa using cA.o y hy⟩)
 have cU:=@J (idH t∉ids (gOf LD)) (by rw[vm];exact bf.o)
 have cu:=@J ((upS (gOf LD) (xC L t)).length<6) (by
  have:=zdj H.o.gr.gok SH.o (xC L t)
  rw[bq] at this
  have:=ct.o
  omega)
 have b9:=J (zgL cU.o cB.o cu.o)
 have cf:=J (znv (cd.o.fr0 aa.o) (by omega) bp.o (yP.own (zb bJ.o aa.o (λ_ _=>id)) bk.o) (by have:=bj.o;omega))
 refine wrLx [ff,ff,ff,ff,ff,ff,tt] (λw'=>w'.cell? ⟨p,2,none⟩=some (.pointer (some ⟨g,0,none⟩))∧w'.rangeAt qh 0 (zf (idH t))) ?_ (λK hK=>?_)
 ·exact⟨bC.o,az.o⟩
 generalize av.drew=wf at*
 repeat((first|(refine zl rfl ?_;constructor;constructor;(focus(first|exact zog rfl (λw h=>h.2) XL.o|(rintro w' ⟨s1,s2⟩;exact goS))))|(refine zm rfl ?_));try simp only[Act.put,pA,pB,pC])
 (refine zF rfl (λK' hK'=>?_))
 go_simp
 refine cf.o.mono ?_
 rintro e aw ⟨rfl,aP,ar,bX,b6⟩
 rw[if_pos b9.o] at ar
 have GN:=J ar
 have FN:=J bX
 have VN:=J b6
 clear ar bX b6
 have ca:=J (FN.o.cell bC.o o.o.2.2.2.1)
 have aX:=J (za az.o FN.o (λe=>by have:=(ah.o _ e).1;have:=R.o;omega))
 refine nXt hK' ?_ λhS=>?_
 ·exact⟨ca.o,aX.o⟩
 try simp only[Act.put,pA,pB,pC]
 repeat((first|(refine zl rfl ?_;constructor;constructor;(focus(first|(rintro w' ⟨s1,s2⟩;exact goS))))|(refine zm rfl ?_));try simp only[Act.put,pA,pB,pC])
 refine zL (hK.out _ _ ?_)
 have r:=@J (Fr ae av aw) (aa.o.of0.trans FN.o (λ_ _ h=>h))
 have ax:=@J (Fr (λj=>j=E∨j=ma∨ae j) w8 aw) (((ab.o.mono (λj e=>.inl e)).trans k.o (λj _ e=>.inr (.inl e))).trans r.o (λj _ e=>.inr (.inr e)))
 have bF:=@J (Fr X w aw) ((F7.o.of0.trans F8.o (λj _ e=>H.o.sub j e)).trans ax.o (λj a e=>by
  rcases e with e|e|e
  ·have:=R.o;omega
  ·rw[e];exact H.o.sub ma (.inr (.inl rfl))
  ·exact H.o.sub j (.inr (.inr (.inr (V8.o j e))))))
 have aZ:=J (HT.o aw bF.o)
 have bL:=J (za cG.o r.o (λe=>by have:=(ah.o _ e).1;omega))
 have bH:=J (r.o.obj bg.o o.o.2.2.2.1)
 have cv:=J (cg.o.keep r.o o.o.2.2.2.2.1)
 obtain⟨MS,b3,a1⟩:=G.o.sm
 have cK:=J ((b3.keep k.o (λe=>o.o.2.2.1 e.symm)).keep r.o o.o.2.2.2.2.2)
 have SM:=J a1
 have cj:=J (jd aw aZ.o (by have:=(yZ.1 FM.o).2.1;omega))
 have de:t.ins.length≤8:=(yZ.1 FM.o).2.1
 clear b3 a1
 have⟨K0,K1⟩:=tZ2
 go_wp2_with ((first|((with_reducible refine zt ?_);clear K0;refine zoa rfl rfl rfl bL.o rfl ?_)|(clear K1;go_at_call 33;refine cj.o.mono ?_;rintro e aS ⟨dg,rfl,bw,bQ⟩;obtain⟨c4,c6,cY⟩:=bw.slice.arg.form;subst cY;have aJ:=J bQ;have PO:=J bw;clear bQ bw));go_frame)
 have aO:=J (vM t)
 have bI:=@J (∀q∈zZ t,q.ok) (λq hq=>by obtain⟨y,hy,rfl⟩:=mem_map.1 hq;exact aZ.o.oks.1 y hy)
 have cL:=J (cK.o.keep aJ.o id)
 have cy:=J (aJ.o.obj bH.o id)
 have aY:=J (za aX.o aJ.o id)
 have bG:=@J (∀e∈LD,e∈L) (λe d=>by rw[←bq] at d;exact(Zq.1 d).1)
 have cD:=J (zlk (L:=LD) (λe d=>bc.o e (bG.o e d)))
 have cE:=@J (B<aS.heap.size∧qh<aS.heap.size) (by have s:=jM aY.o (by intro h0;have:=XL.o;rw[h0] at this;cases this);have:=R.o;exact⟨by omega,s⟩)
 go_loopw [79] (λiv wr=>∃n:Nat,iv=.int .i64 n∧n≤t.ins.length∧(∃M,zaI wr ms M∧∀q y,(q,y)∈M↔(∃e∈LD,q∈zZ e.tx∧e.id=y)∨(q∈(zZ t).take n∧y=idH t))∧Fr (λj=>j=ms) aS wr) (λiv _=>t.ins.length-(intOf iv).toNat)
 case atStart=>exact⟨0,rfl,zero_le _,⟨MS,cL.o,λq y=>by rw[SM.o];simp⟩,Fr.refl _ _⟩
 case round=>
  obtain⟨n,rfl,hn,⟨Mn,bS,b1⟩,bY⟩:=hrel
  have FR:=J bY
  have bo:=J bS
  have bn:=J b1
  clear bY bS b1
  by_cases hlt:n<t.ins.length
  ·have i1:(n:Int)<(t.ins.length:Int):=by omega
   obtain⟨q,hq⟩:∃q,(zZ t)[n]? =some q:=⟨_,getElem?_eq_getElem (by rw[aO.o];exact hlt)⟩
   have bK:=J (bI.o q (mem_of_getElem? hq))
   have cC:=J (zb PO.o FR.o (λj a e=>by have:=(PO.o.lt j a).1;have:=ML.o;have s:=jM bL.o (by simp);omega))
   have b4:xL wr (.slice c4 t.ins.length c6) (zZ t):=⟨bI.o,by rw[aO.o];exact cC.o.slice.arg⟩
   obtain⟨b2,db,c8,e2,b5,-⟩:=b4.at_ hq
   injection e2 with e3 e4 e5
   subst e3
   have R2:=J b5
   have PL:=J (z6 bK.o)
   have RQ:=J (zy wr (zn q) 95)
   have FQ:=J ((frN wr).alloc (.cells (zn q).toArray 95))
   have HQ:=J hq
   have cx:=@J (∀e∈LD,q∉zZ e.tx) (λe d ak=>by
    have:=cP.o q (mem_of_getElem? hq)
    rw[Jm.2 ⟨e,bG.o e d,ak⟩] at this
    cases this)
   clear b5 hq e4 e5 b4
   have⟨K0,K1⟩:=tZ2
   go_wp2_with ((first|((with_reducible refine zt ?_);clear K0;refine zod rfl rfl rfl R2.o PL.o ?_)|((with_reducible refine zv ?_);clear K1;refine zom (w:=wr) (cs:=zn q) rfl rfl rfl rfl PL.o yK ?_));go_frame)
   generalize dd:wr.heap.size=qq at*
   generalize c0:wr.alloc (.cells (zn q).toArray 95)=wb at*
   have aK:=J FQ.o.drew
   have bP:=J (za RQ.o (frN wb).drew id)
   have OD:=J (aK.o.obj (FR.o.obj cy.o o.o.2.1) id)
   have bN:=J (za (za aY.o FR.o (λe=>by have:=ML.o;have:=R.o;omega)) aK.o id)
   have cO:=J (bo.o.keep aK.o id)
   clear c0
   have bO:=@J (Mn.length<maxLen) (by
    have s:=qp bo.o.nodup (m:=(LD.flatMap λe=>zZ e.tx)++zZ t) (λy hy=>by
     obtain⟨z,hz,rfl⟩:=mem_map.1 hy
     rcases(bn.o z.1 z.2).1 hz with⟨e,d,s,-⟩|⟨s,-⟩
     ·exact List.mem_append_left _ (List.mem_flatMap.2 ⟨e,d,s⟩)
     ·exact List.mem_append_right _ (List.mem_of_mem_take s))
    rw[length_map,List.length_append,aO.o] at s
    have:=cD.o
    have:=aT.o
    unfold maxLen
    omega)
   obtain⟨c7,M5,aD,bZ,bW,bU,-⟩:=cO.o.upd JA.keyed V0 (λ_ _=>vw) (qz bK.o) bO.o (idH t)
   have ck:=J aD
   have FM:=J bU.fr
   have cN:=J bZ
   have cQ:=@J (∀y z,(y,z)∈M5↔(∃e∈LD,y∈zZ e.tx∧e.id=z)∨(y∈(zZ t).take (n+1)∧z=idH t)) (λy z=>by
    rw[bW y z,bn.o]
    have cZ:∀y,y∈(zZ t).take (n+1)↔y∈(zZ t).take n∨y=q:=λy=>by
     rw[take_add_one,HQ.o]
     simp
    rw[cZ]
    constructor
    ·rintro(⟨rfl,rfl⟩|⟨s,h2|⟨h2,h3⟩⟩)
     ·exact .inr ⟨.inr rfl,rfl⟩
     ·exact .inl h2
     ·exact .inr ⟨.inl h2,h3⟩
    ·rintro(⟨e,d,s,h2⟩|⟨s|rfl,h2⟩)
     ·exact .inr ⟨λe'=>cx.o e d (e'▸s),.inl ⟨e,d,s,h2⟩⟩
     ·by_cases hyq:y=q
      ·exact .inl ⟨hyq,h2⟩
      ·exact .inr ⟨hyq,.inr ⟨s,h2⟩⟩
     ·exact .inl ⟨rfl,h2⟩)
   have cb:=@J (Fr (λj=>j=ms) aS c7) ((FR.o.trans0 aK.o).trans FM.o (λj _ e=>e))
   have cz:=J (FM.o.obj OD.o o.o.2.1)
   have cJ:=J (za bP.o FM.o (λe=>by have:=FR.o.size;have:=cE.o;have:=ML.o;omega))
   have cH:=J (za bN.o FM.o (λe=>by have:=ML.o;have:=R.o;omega))
   clear aD bZ bW bU
   refine wrLx [ff,ff,ff,ff,ff,ff,tt] (λw'=>w'.cell? ⟨p,1,none⟩=some (.map (some ms))∧w'.rangeAt qq 0 (zn q)∧w'.rangeAt qh 0 (zf (idH t))) ?_ (λK hK=>?_)
   ·exact⟨zq OD.o 1 _ rfl,bP.o,bN.o⟩
   generalize wb.drew=z1 at*
   repeat((first|(refine zl rfl ?_;constructor;constructor;(focus(first|exact zof rfl (λw h=>h.2.1) PL.o|exact zog rfl (λw h=>h.2.2) XL.o|(rintro w' ⟨s1,s2,s3⟩;exact goS))))|(refine zm rfl ?_));try simp only[Act.put,pA,pB,pC])
   (refine zF rfl (λK' hK'=>?_))
   refine yN (y4 rfl rfl rfl rfl ck.o) ?_
   refine nXt hK' ?_ λhS=>?_
   ·exact⟨zq cz.o 1 _ rfl,cJ.o,cH.o⟩
   try simp only[Act.put]
   refine zL (hK.out _ _ ?_)
   go_wp2_with fail
   go_roundw
   case rel=>exact⟨n+1,by go_num,by omega,⟨M5,cN.o,cQ.o⟩,cb.o⟩
   case measure=>simp[intOf];omega
  ·have D:n=t.ins.length:=by omega
   have i1:¬(n:Int)<(t.ins.length:Int):=by omega
   have cR:=@J ((zZ t).take n=zZ t) (by rw[D,←aO.o,take_length])
   have F:=@J (Fr (λj=>j=ms) aw wr) (aJ.o.of0.trans FR.o (λ_ _ h=>h))
   have bD:=@J (Fr (poV p ma ms VG) w wr) (((F7.o.of0.trans F8.o (λ_ _ h=>h)).trans ax.o (λj a e=>by
    rcases e with e|e|e
    ·have:=R.o;omega
    ·exact .inr (.inl e)
    ·exact .inr (.inr (.inr (V8.o j e))))).trans F.o (λj _ e=>.inr (.inr (.inl e))))
   have aR:=@J (B<wf.heap.size∧w9.heap.size≤wf.heap.size) (by
    have s:=a7.o.size
    have h2:=al.o.size
    have h3:=k.o.size
    have h4:=aa.o.size
    have h5:=F9.o.size
    have h6:=F8.o.size
    have h7:=jM R8.o (by simp)
    exact⟨by omega,by omega⟩)
   have aQ:=@J (∀j,aP j→ae j∨wf.heap.size≤j) (VN.o)
   have aN:=@J (∀j,(j=p∨j=ma∨j=ms)→¬aP j) (λj a hv=>by
    rcases aQ.o j hv with h|h
    ·have:=ah.o j h
     rcases a with a|a|a
     ·exact this.2.1 a
     ·exact this.2.2.1 a
     ·exact this.2.2.2 a
    ·have s:=ML.o
     have h2:=aR.o
     rcases a with a|a|a<;>omega)
   clear D
   go_wp2_with fail
   go_ret2
   refine⟨_,by rw[LE.o];rfl,⟨aP,λy=>if y=idH t then[.int .u32 t.ver,.slice U t.ins.length W,.slice Y t.outs.length Z,.int .u64 v.1,.int .i64 v.2,.int .u64 now] else C y,?_,bD.o,λj a=>?_⟩,?_⟩
   ·rw[LL.o]
    refine⟨F.o.obj bH.o o.o.2.1,?_,⟨M2,cv.o.keep F.o o.o.2.2.1,cm.o⟩,⟨Mn,bo.o,λq y=>?_⟩,λe d=>?_,⟨o.o.1,o.o.2.1,o.o.2.2.1,aN.o p (.inl rfl),aN.o ma (.inr (.inl rfl)),aN.o ms (.inr (.inr rfl))⟩,G.o.lo3,λj a=>?_⟩
    ·have cX:Qj (gOf LD) (idH t) (xC L t)=gOf (LD++[mkE S L t now]):=by rw[zeB];rfl
     have ar:=GN.o
     rw[cX] at ar
     exact ar.frV F.o (λj a e=>aN.o j (.inr (.inr e)) a) (λj e=>by rw[e];exact G.o.lo3.2.2)
    ·rw[bn.o,cR.o]
     constructor
     ·rintro(⟨e,d,s,h2⟩|⟨s,rfl⟩)
      ·exact⟨e,List.mem_append_left _ d,s,h2⟩
      ·exact⟨mkE S L t now,by simp,s,rfl⟩
     ·rintro⟨e,d,s,rfl⟩
      rcases mem_append.1 d with d|d
      ·exact .inl ⟨e,d,s,rfl⟩
      ·obtain rfl:=mem_singleton.1 d
       exact .inr ⟨s,rfl⟩
    ·rcases mem_append.1 d with d|d
     ·have D:e.id≠idH t:=λh=>bf.o (by rw[←h];exact mem_map.2 ⟨e,d,rfl⟩)
      rw[if_neg D]
      have f1:Fr (λj=>X j∨B≤j) wd wr:=(k.o.mono (λj e=>.inl (by rw[e];exact H.o.sub ma (.inr (.inl rfl))))).trans (show Fr (λj=>ae j∨j=ms) av wr from(r.o.mono (λj e=>Or.inl e)).trans F.o (λj _ e=>Or.inr e)) (λj _ e=>.inl (by
       rcases e with e|e
       ·exact H.o.sub j (.inr (.inr (.inr (V8.o j e))))
       ·rw[e];exact H.o.sub ms (.inr (.inr (.inl rfl)))))
      exact(G.o.data e d).step f1 (λj a e=>e.elim .inl (λe=>(aQ.o j e).elim (λe=>.inl (H.o.sub j (.inr (.inr (.inr (V8.o j e)))))) (λe=>.inr (by have:=aR.o;omega))))
     ·obtain rfl:=mem_singleton.1 d
      rw[if_pos (show(mkE S L t now).id=idH t from rfl)]
      have k1:=K9.o (λj=>j<w8.heap.size) (λ_ h=>h)
      have h8:=jM (zq bA.o) (by simp)
      have f1:Fr (λj=>j<w8.heap.size) w9 wr:=((a7.o.trans0 al.o).mono (λj e=>by rw[e];exact h8)).trans ((k.o.mono (V:=λj=>j<w8.heap.size) (λj e=>by rw[e];have:=ML.o;have:=R.o;omega)).trans ((r.o.mono (V:=λj=>j<w8.heap.size) (λj e=>by have:=(ah.o j e).1;have:=R.o;omega)).trans (F.o.mono (V:=λj=>j<w8.heap.size) (λj e=>by rw[e];have:=ML.o;have:=R.o;omega)) (λ_ _ h=>h)) (λ_ _ h=>h)) (λ_ _ h=>h)
      refine(k1.step f1 (V':=λj=>X j∨aP j) (λj a e=>?_)).imp (λw' _ hq=>⟨_,?_,hq⟩)
      ·rcases e with e|e
       ·have:=cT.o j e;have:=R.o;omega
       ·rcases aQ.o j e with e|e
        ·have:=(ah.o j e).1;have:=R.o;omega
        ·have:=aR.o;omega
      ·rw[←aB]
       rfl
    ·rcases a with e|e|e|e
     ·exact .inl (H.o.sub j (.inl e))
     ·exact .inl (H.o.sub j (.inr (.inl e)))
     ·exact .inl (H.o.sub j (.inr (.inr (.inl e))))
     ·exact .inr e
   ·rcases aQ.o j a with e|e
    ·exact .inl (V8.o j e)
    ·exact .inr (by have:=aR.o;omega)
   ·rw[LG.o]
    exact yU (zb (zb O8.o ax.o (λj a e=>by
     have s:=(O8.o.lt j a).1
     have h2:=Z7.o
     have h3:=R.o
     rcases e with e|e|e
     ·omega
     ·have:=ML.o;omega
     ·have:=(ah.o j e).1;omega)) F.o (λj a e=>by
     have s:=(O8.o.lt j a).1
     have h2:=Z7.o
     have h3:=R.o
     have:=ML.o
     omega)) F7.o.size
end
theorem zik (w:World):(Instr.makeMap 133 none).run prog w=.ok (.map (some w.heap.size)) (w.alloc (.map #[] 0)):=by kernel_rfl
theorem zim (w:World):(Instr.makeMap 134 none).run prog w=.ok (.map (some w.heap.size)) (w.alloc (.map #[] 0)):=by kernel_rfl
def zmk (w0 w:World) (p:Nat) (e:Ending) (w':World):Prop:=
 e=.returned (.tuple #[])∧Fr (λj=>j=p) w w'∧∃ma ms g VG,(∀j,(j=ma∨j=ms∨VG j)→w.heap.size≤j)∧∀X:Nat→Prop,(∀j,poV p ma ms VG j→X j)→∀C,yq w0 w' p ma ms g VG X C [] 0
theorem zgS (m w:World) (f:Fr No m w) {p:Nat} (hp:m.heap.size≤p) {a b c:Value} (M:w.heap[p]? =some (.cells #[a,b,c] 137 (0,0))):
  Calls prog 72 #[.pointer (some ⟨p,0,none⟩)] w (zmk m w p):=by
 have m1:=zik
 have m2:=zim
 have u:=J (yF M)
 have v:=J ((frN w).alloc (.map #[] 0))
 have r:=J (v.o.obj M id)
 have E:=@J (qJ (w.alloc (.map #[] 0)) w.heap.size []) (yD.made w)
 have L:=J (heap_setCell_same (w.alloc (.map #[] 0)) p 0 _ _ (.map (some w.heap.size)) r.o)
 have H:=@J (Fr (λj=>j=p) w ((w.alloc (.map #[] 0)).setCell ⟨p,0,none⟩ (.map (some w.heap.size)))) ((show Fr (λj=>j=p) w (w.alloc (.map #[] 0)) from v.o.of0).setCell ⟨p,0,none⟩ (.inr rfl) _)
 have k:=@J (qJ ((w.alloc (.map #[] 0)).setCell ⟨p,0,none⟩ (.map (some w.heap.size))) w.heap.size []) (E.o.keep ((Fr.refl (λj=>j=p) _).setCell ⟨p,0,none⟩ (.inr rfl) _) (λe=>by have:=u.o;omega))
 have W:=@J (((w.alloc (.map #[] 0)).setCell ⟨p,0,none⟩ (.map (some w.heap.size))).heap.size=w.heap.size+1) (by simp[World.setCell])
 have c0:(w.alloc (.map #[] 0)).cell? ⟨p,0,none⟩=some a:=by have:=zq r.o 0 _ rfl;simpa using this
 have Y:=yn (i:=0) r.o
 have o:=J ((frN ((w.alloc (.map #[] 0)).setCell ⟨p,0,none⟩ (.map (some w.heap.size)))).alloc (.map #[] 0))
 have s:=J (o.o.obj L.o id)
 have F:=J (k.o.keep o.o id)
 have I:=@J (zaI (((w.alloc (.map #[] 0)).setCell ⟨p,0,none⟩ (.map (some w.heap.size))).alloc (.map #[] 0)) (w.heap.size+1) []) (by have:=yD.made (P:=prog) (kt:=95) (kV:=Jb) (vV:=y7) ((w.alloc (.map #[] 0)).setCell ⟨p,0,none⟩ (.map (some w.heap.size)));rw[W.o] at this;exact this)
 have T:=J (heap_setCell_same (((w.alloc (.map #[] 0)).setCell ⟨p,0,none⟩ (.map (some w.heap.size))).alloc (.map #[] 0)) p 1 _ _ (.map (some (w.heap.size+1))) s.o)
 have A:=@J (Fr (λj=>j=p) w ((((w.alloc (.map #[] 0)).setCell ⟨p,0,none⟩ (.map (some w.heap.size))).alloc (.map #[] 0)).setCell ⟨p,1,none⟩ (.map (some (w.heap.size+1))))) ((H.o.trans0 o.o).setCell ⟨p,1,none⟩ (.inr rfl) _)
 have g:=@J (Fr (λj=>j=p) (((w.alloc (.map #[] 0)).setCell ⟨p,0,none⟩ (.map (some w.heap.size))).alloc (.map #[] 0)) ((((w.alloc (.map #[] 0)).setCell ⟨p,0,none⟩ (.map (some w.heap.size))).alloc (.map #[] 0)).setCell ⟨p,1,none⟩ (.map (some (w.heap.size+1))))) ((Fr.refl (λj=>j=p) _).setCell ⟨p,1,none⟩ (.inr rfl) _)
 have G:=J (F.o.keep g.o (λe=>by have:=u.o;omega))
 have K:=J (I.o.keep g.o (λe=>by have:=u.o;omega))
 have c1:(((w.alloc (.map #[] 0)).setCell ⟨p,0,none⟩ (.map (some w.heap.size))).alloc (.map #[] 0)).cell? ⟨p,1,none⟩=some b:=by have:=zq s.o 1 _ rfl;simpa using this
 have Z:=yn (i:=1) s.o
 have z:=@J (Fr No m ((((w.alloc (.map #[] 0)).setCell ⟨p,0,none⟩ (.map (some w.heap.size))).alloc (.map #[] 0)).setCell ⟨p,1,none⟩ (.map (some (w.heap.size+1))))) (f.trans A.o (λi hi e=>by omega))
 clear v r E L H k o s F I g
 go_enter Tryz.func72,Tryz.ntmps72
 have S:=tru
 go_wp2_with (clear S;go_at_call 125;generalize ab:((((w.alloc (.map #[] 0)).setCell ⟨p,0,none⟩ (.map (some w.heap.size))).alloc (.map #[] 0)).setCell ⟨p,1,none⟩ (.map (some (w.heap.size+1))))=wc at*;refine(znU m wc z.o).mono ?_;rintro e n ⟨B,rfl,V,O,N,Q⟩;have R:=J O;have t:=J N;have l:=J Q;clear O N Q;have y:=J (t.o.obj T.o id);have c2:n.cell? ⟨p,2,none⟩=some c:=(by have:=zq y.o 2 _ rfl;simpa using this);have aa:=yn (i:=2) y.o;go_frame)
 refine bodyPost_end (results_none rfl _ _ _) rfl ?_
 have U:=heap_setCell_same n p 2 _ _ (.pointer (some ⟨B,0,none⟩)) y.o
 have d:Fr (λj=>j=p) n (n.setCell ⟨p,2,none⟩ (.pointer (some ⟨B,0,none⟩))):=(Fr.refl (λj=>j=p) n).setCell ⟨p,2,none⟩ (.inr rfl) _
 have ZC:=A.o.size
 have PZ:=u.o
 have MZ:w.heap.size<wc.heap.size∧w.heap.size+1<wc.heap.size:=⟨G.o.lt,K.o.lt⟩
 have W0:=f.size
 refine⟨rfl,(A.o.trans0 t.o).trans d (λ_ _ h=>h),w.heap.size,w.heap.size+1,B,V,λj D=>?_,λX hX C=>?_⟩
 ·rcases D with e|e|e
  ·omega
  ·omega
  ·have:=l.o j e;omega
 ·refine⟨?_,?_,⟨[],(G.o.keep t.o id).keep d (λe=>by omega),λx cs=>by simp⟩,⟨[],(K.o.keep t.o id).keep d (λe=>by omega),λq x=>by simp⟩,λe he=>(by cases he),⟨by omega,by omega,by omega,λe=>by have:=l.o _ e;omega,λe=>by have:=l.o _ e;omega,λe=>by have:=l.o _ e;omega⟩,⟨hp,by omega,by omega⟩,hX⟩
  ·simpa using U
  ·exact R.o.frV d (λj D e=>by have:=l.o j D;omega) (λj e=>by omega)
theorem zkF (w:World):(Instr.build 137 #[]).run prog w=.ok (.agg #[.map none,.map none,.pointer none]) w:=by kernel_rfl
theorem zl8 (c w:World) (f:Fr No c w):
  Calls prog 37 #[] w λe w'=>e=.returned (.pointer (some ⟨w.heap.size,0,none⟩))∧Fr No w w'∧∃ma ms g a,(∀j,poV w.heap.size ma ms a j→w.heap.size≤j)∧∀X:Nat→Prop,(∀j,poV w.heap.size ma ms a j→X j)→∀C,yq c w' w.heap.size ma ms g a X C [] 0:=by
 have b:=J ((frN w).alloc (.cells #[.map none,.map none,.pointer none] 137))
 have l:=J (yj w (.cells #[.map none,.map none,.pointer none] 137))
 have n:=J (zgS c _ (f.trans0 b.o) f.size l.o)
 go_enter Tryz.func37,Tryz.ntmps37
 have⟨o,p⟩:=tZ2
 go_wp2_with ((first|((with_reducible refine zt ?_);clear o;with_reducible refine yv 2 ?_;refine zg rfl (yk (t:=137) rfl rfl (zkF _)) ?_)|(clear p;go_at_call 72;refine n.o.mono ?_;rintro e u ⟨rfl,d,ma,ms,g,a,k,h⟩;have m:=J d;have r:=J k;have q:=J h;clear d k h));go_frame)
 go_ret
 exact⟨rfl,b.o.trans m.o (λi hi e=>by omega),ma,ms,g,a,λj s=>by
  have:=b.o.size
  rcases s with e|e
  ·omega
  ·have:=r.o j e;omega,q.o⟩
def Zk (L:List yd) (x:zd):Bool:=decide (x∈xt L)
def zeH (b:zd→Bool):List zd→Int
 |[]=> -1
 |y::r=>if b y=true then 0 else if r.any b=true then 1+zeH b r else -1
theorem zcT {b:zd→Bool}:∀ {l:List zd},(∀y∈l,b y=false)→zeH b l= -1
 |[],_=>rfl
 |y::r,h=>by
  have a:=h y (.head _)
  have c:r.any b=false:=by rw[List.any_eq_false];intro z d;simp[h z (.tail _ d)]
  simp[zeH,a,c]
theorem zdE {b:zd→Bool} {x:zd}:∀ {l:List zd} {n:Nat},l[n]? =some x→b x=true→(∀y∈l.take n,b y=false)→zeH b l=n
 |[],n,h,_,_=>by simp at h
 |y::r,0,h,a,_=>by
  simp at h
  subst h
  simp[zeH,a]
 |y::r,n+1,h,a,hn=>by
  have d:b y=false:=hn y (by simp)
  have c:r[n]? =some x:=by simpa using h
  have e:r.any b=true:=any_eq_true.2 ⟨x,mem_of_getElem? c,a⟩
  have:=zdE c a (λz f=>hn z (by simp[f]))
  simp only[zeH,d,Bool.false_eq_true,if_false,e,if_true,this]
  omega
def zeD (p:Nat):Value:=.func (.func 99) #[.pointer (some ⟨p,0,none⟩)] #[]
structure qZ (b:zd→Bool) (l R:List zd) (n m:Nat):Prop where
 len:R.length=l.length
 pre:R.take n=(l.take m).filter λx=> !b x
 suf:R.drop m=l.drop m
 lt:n<m
 le:m≤l.length
theorem qZ.start {b:zd→Bool} {l:List zd} {k:zd} (h:l[n]? =some k) (c:b k=true) (d:∀y∈l.take n,b y=false):qZ b l l n (n+1):=by
 have a:=(List.getElem?_eq_some_iff.1 h).1
 refine⟨rfl,?_,rfl,by omega,a⟩
 rw[take_add_one,h,filter_append]
 simp only[Option.toList_some]
 rw[List.filter_eq_self.2 (λx e=>by simp[d x e])]
 simp[c]
theorem qZ.skip {b:zd→Bool} {k:zd} {l R:List zd} {n m:Nat} (h:qZ b l R n m) (c:l[m]? =some k) (d:b k=true):qZ b l R n (m+1):=by
 have a:=(List.getElem?_eq_some_iff.1 c).1
 refine⟨h.len,?_,?_,by have:=h.lt;omega,a⟩
 ·rw[take_add_one,c,filter_append,h.pre]
  simp[d]
 ·rw[←drop_drop,h.suf,drop_drop]
theorem qZ.keep {b:zd→Bool} {x:zd} {l R:List zd} {n m:Nat} (h:qZ b l R n m) (c:l[m]? =some x) (f:b x=false):qZ b l (R.set n x) (n+1) (m+1):=by
 have a:=(List.getElem?_eq_some_iff.1 c).1
 have j:=h.lt
 have d:=h.len
 refine⟨by rw[List.length_set,d],?_,?_,by omega,a⟩
 ·rw[take_add_one (l:=l),c,filter_append,←h.pre,take_add_one,List.getElem?_set_self (by omega)]
  have e:(R.set n x).take n=R.take n:=by
   apply List.ext_getElem?
   intro i
   rw[List.getElem?_take,List.getElem?_take]
   split
   ·rw[getElem?_set_ne (by omega)]
   ·rfl
  rw[e]
  simp[f]
 ·rw[List.drop_set_of_lt (by omega),←drop_drop,h.suf,drop_drop]
theorem qZ.at_ {b:zd→Bool} {x:zd} {l R:List zd} {n m:Nat} (h:qZ b l R n m) (c:l[m]? =some x):R[m]? =some x:=by
 have a:(R.drop m)[0]? =(l.drop m)[0]? :=by rw[h.suf]
 simpa[c] using a
theorem qZ.done {b:zd→Bool} {l R:List zd} (h:qZ b l R n l.length):R.take n=l.filter λx=> !b x:=by rw[h.pre,take_length]
def zmi (B:Nat) (w:World) (v:Value) (b:zd→Bool) (l:List zd) (v':Value) (w':World):Prop:=
 w'.ownsRow B 41 32 v' (l.filter λx=> !b x).length ((l.filter λx=> !b x).flatMap zf)∧Fr (λj=>v.ownBlock=some j) w w'∧(∀j,v'.ownBlock=some j→v.ownBlock=some j)
section
variable {w0 w:World} {p ma ms g N:Nat} {VG X:Nat→Prop} {C:zd→List Value} {L:List yd}
theorem zbK (h:yq w0 w p ma ms g VG X C L N) {l:List zd} (u:yP w v l) (Q:l.length≤100000):
  Calls prog 137 #[v,zeD p] w λe w'=>e=.returned (.int .i64 (zeH (Zk L) l))∧Fr No w w':=by
 obtain⟨S,T,rfl⟩:=u.2.form
 unfold zeD
 have A:=J u
 have B:=J (λw' (f:Fr No w w')=>h.fr0 f)
 clear u h
 go_enter Tryz.func137,Tryz.ntmps137
 go_wp2
 go_loopw [8] (λz wr=>∃n:Nat,z=.int .i64 n∧n≤l.length∧(∀y∈l.take n,Zk L y=false)∧Fr No w wr) (λz _=>l.length-(intOf z).toNat)
 case atStart=>exact⟨0,rfl,zero_le _,by simp,Fr.refl _ _⟩
 case round=>
  obtain⟨n,rfl,R,m,fr⟩:=hrel
  have d:=J fr
  have r:=J m
  clear fr m
  by_cases h:n<l.length
  ·have O:(n:Int)<(l.length:Int):=by omega
   obtain⟨x,i⟩:∃x,l[n]? =some x:=⟨_,getElem?_eq_getElem h⟩
   obtain⟨b,off,c,M,F,K⟩:=(A.o.keep d.o).at_ i
   cases M
   have t:=J (A.o.1 x (mem_of_getElem? i))
   have D:=J (zx t.o)
   have E:=J F
   clear F K
   by_cases hxk:Zk L x=true
   ·have H:=J (zdE i hxk r.o)
    have o:=@J (decide (x∈xt L)=true) (hxk)
    clear i hxk
    go_wp2_with (first|(refine zoc rfl rfl rfl E.o D.o ?_)|(go_at_call 99;refine(zeE (B.o _ d.o) t.o).mono ?_;rintro e P ⟨rfl,k⟩;rw[o.o];have q:=J (d.o.trans0 k);clear k))
    go_ret
    exact⟨by rw[H.o];rfl,q.o⟩
   ·have o:=@J (decide (x∈xt L)=false) (by simpa[Zk] using hxk)
    have s:=@J (∀y∈l.take (n+1),Zk L y=false) (λy a=>by
     rw[take_add_one,i] at a
     rcases mem_append.1 a with a|a
     ·exact r.o y a
     ·simp at a;subst a;simpa using hxk)
    clear i hxk
    go_wp2_with (first|(refine zoc rfl rfl rfl E.o D.o ?_)|(go_at_call 99;refine(zeE (B.o _ d.o) t.o).mono ?_;rintro e P ⟨rfl,k⟩;rw[o.o];have q:=J (d.o.trans0 k);clear k))
    go_roundw
    case rel=>exact⟨n+1,by simp,by omega,s.o,q.o⟩
    case measure=>show l.length-(n+1)<l.length-n;omega
  ·have O:¬(n:Int)<(l.length:Int):=by omega
   have G:n=l.length:=by omega
   have j:∀y∈l,Zk L y=false:=by have:=r.o;rw[G,take_length] at this;exact this
   have I:=J (zcT j)
   clear j G
   go_wp2
   go_ret
   exact⟨by rw[I.o];rfl,d.o⟩
theorem zaX (h:yq w0 w p ma ms g VG X C L N) {B:Nat} {l:List zd} (q:w.ownsRow B 41 32 v l.length (l.flatMap zf)) (ok:∀x∈l,zY x) (hN:l.length≤100000) (hq:∀gb,v.ownBlock=some gb→∀w',Fr (· =gb) w w'→yq w0 w' p ma ms g VG X C L N):
  Calls prog 98 #[v,zeD p] w λe w'=>∃v',e=.returned v'∧zmi B w v (Zk L) l v' w':=by
 have zh:=yS
 have M:=J (zbK h (yP.own q ok) hN)
 by_cases hin:l.any (Zk L)=true
 ·obtain⟨va,s,e⟩:=q.slice.arg.form
  subst e
  obtain⟨i,k,hi⟩:∃i k,l[i]? =some k∧Zk L k=true∧∀y∈l.take i,Zk L y=false:=by
   clear q ok hN M h hq
   induction l with
   |nil=>cases hin
   |cons y r ih=>
    by_cases e:Zk L y=true
    ·exact⟨0,y,by simp,e,by simp⟩
    ·have U:r.any (Zk L)=true:=by
      rw[List.any_cons] at hin
      rw[show Zk L y=false by simpa using e,Bool.false_or] at hin
      exact hin
     obtain⟨i,k,h1,h2,h3⟩:=ih U
     refine⟨i+1,k,by simpa using h1,h2,λz hz=>?_⟩
     rw[List.take_succ_cons] at hz
     rcases mem_cons.1 hz with rfl|hz
     ·simpa using e
     ·exact h3 z hz
  have EI:=J (zdE hi.1 hi.2.1 hi.2.2)
  have ST:=J (qZ.start hi.1 hi.2.1 hi.2.2)
  have al:=(List.getElem?_eq_some_iff.1 hi.1).1
  obtain⟨g,rfl⟩:∃g,va=some ⟨g,0,none⟩:=by
   rcases q.2 with⟨e,_⟩|⟨g,c,ak,e,_⟩
   ·injection e with e1 e2;omega
   ·injection e with e1;exact⟨g,e1⟩
  have j1:¬(i:Int)= -1:=by omega
  have HL:=J q
  have OK:=J ok
  have NQ:=J (hq g rfl)
  clear q ok h hq hi hin
  unfold zeD
  unfold zeD at M
  go_enter Tryz.func98,Tryz.ntmps98
  go_wp2_with (go_at_call 137;refine M.o.mono ?_;rintro e w1 ⟨rfl,T⟩;rw[EI.o];have I:=J T;clear T)
  rw[show((i:Int)== -1)=false from by simp]
  clear j1
  go_loopw [5,6] (λnv mv wr=>∃(n m:Nat) (R:List zd),nv=.int .i64 n∧mv=.int .i64 m∧qZ (Zk L) l R n m∧wr.ownsRow B 41 32 (.slice (some ⟨g,0,none⟩) l.length s) l.length (R.flatMap zf)∧(∀x∈R,zY x)∧Fr (· =g) w wr) (λ_ mv _=>l.length-(intOf mv).toNat)
  case atStart=>exact⟨i,i+1,l,rfl,by simp,ST.o,zb HL.o I.o (λ_ _=>id),OK.o,I.o.of0⟩
  case round=>
   obtain⟨n,m,R,rfl,rfl,o,ho,hok,fr⟩:=hrel
   have Y:=J o
   have A:=J ho
   have b:=J hok
   have Z:=J fr
   have an:=o.le
   have ao:=o.lt
   have D:=J o.len
   clear o ho hok fr
   by_cases h:m<l.length
   ·have i1:(m:Int)<(l.length:Int):=by omega
    have i2:(n:Int)<(l.length:Int):=by omega
    obtain⟨x,H⟩:∃x,l[m]? =some x:=⟨_,getElem?_eq_getElem h⟩
    have W:=Y.o.at_ H
    have O:=@J (wr.ownsRow B 41 32 (.slice (some ⟨g,0,none⟩) R.length s) R.length (R.flatMap zf)) (by rw[D.o];exact A.o)
    obtain⟨b2,aj,ah,hv,V,hb⟩:=(yP.own O.o b.o).at_ W
    cases hv
    have OX:=J (OK.o x (mem_of_getElem? H))
    have d:=J (zx OX.o)
    have R1:=@J (wr.rangeAt g (m*32) (zf x)) (by simpa using V)
    have FA:=J ((frN wr).alloc (.cells (zf x).toArray 41))
    have RN:=J (zy wr (zf x) 41)
    have S:=J (NQ.o _ (Z.o.trans0 FA.o))
    clear V hb W
    by_cases hxk:Zk L x=true
    ·have D1:=@J (decide (x∈xt L)=true) (hxk)
     have u:=J (Y.o.skip H hxk)
     clear H hxk
     go_wp2_with (first|(refine zoc rfl rfl rfl R1.o d.o ?_)|(refine zi rfl (zj (w:=wr) (cs:=zf x) (ty:=41) rfl rfl rfl (by rw[d.o];rfl) (by rw[d.o];exact yt) zU) ?_)|(refine zoc rfl rfl rfl RN.o d.o ?_)|(go_at_call 99;refine(zeE S.o OX.o).mono ?_;rintro e w2 ⟨rfl,G⟩;rw[D1.o];have K:=J (FA.o.trans0 G);clear G))
     go_roundw
     case rel=>exact⟨n,m+1,R,rfl,by simp,u.o,zb A.o K.o (λ_ _=>id),b.o,Z.o.trans0 K.o⟩
     case measure=>show l.length-(m+1)<l.length-m;omega
    ·have D1:=@J (decide (x∈xt L)=false) (by simpa[Zk] using hxk)
     have u:=J (Y.o.keep H (by simpa using hxk))
     clear H hxk
     go_wp2_with (first|(refine zoc rfl rfl rfl af.o d.o ?_)|(refine zi rfl (zK (ty:=41) rfl rfl rfl (by rw[d.o];exact TH.o) (by rw[d.o];exact yt) zU) ?_)|(refine zoc rfl rfl rfl R1.o d.o ?_)|(refine zi rfl (zj (w:=wr) (cs:=zf x) (ty:=41) rfl rfl rfl (by rw[d.o];rfl) (by rw[d.o];exact yt) zU) ?_)|(refine zoc rfl rfl rfl RN.o d.o ?_)|(go_at_call 99;refine(zeE S.o OX.o).mono ?_;rintro e w2 ⟨rfl,G⟩;rw[D1.o];have K:=J (FA.o.trans0 G);have af:=J (za RN.o G id);have Q:=J (zb O.o K.o (λ_ _=>id));have TH:=J (Js Q.o (show n<R.length by rw[D.o];omega));clear G))
     have ad:=J (zg9 (f:=zf) (λy F=>zx (b.o y F)) Q.o (show n<R.length by rw[D.o];omega) x d.o)
     have ae:=@J ((w2.setCells g (n*32) (zf x)).ownsRow B 41 32 (.slice (some ⟨g,0,none⟩) l.length s) l.length ((R.set n x).flatMap zf)) (by have:=ad.o;rw[D.o] at this;exact this)
     go_roundw
     case rel=>exact⟨n+1,m+1,R.set n x,by simp,by simp,u.o,ae.o,λy F=>(List.mem_or_eq_of_mem_set F).elim (b.o y) (λe=>e▸OX.o),(Z.o.trans0 K.o).trans (zu g (zf x) (n*32) w2) (λ_ _ h=>h)⟩
     case measure=>show l.length-(m+1)<l.length-m;omega
   ·have i1:¬(m:Int)<(l.length:Int):=by omega
    have ag:m=l.length:=by omega
    subst ag
    have DN:=J Y.o.done
    have ab:=@J ((R.flatMap zf).length=l.length*32) (A.o.1)
    have LN:=@J ((l.filter λx=> !Zk L x).length=n) (by rw[←DN.o,length_take,D.o];omega)
    obtain⟨cs,E,t⟩:=ZK (P:=prog) wr 38 41 0 (zf yR) xP yS zU (by rw[zx xM];decide) g (n*32) (l.length-n) (s-n) (by omega) (λj hj=>by
     rw[zx xM] at hj
     refine⟨?_,A.o.frozenAt _⟩
     rw[A.o.cellAt (n*32+j) (by omega),getElem?_eq_getElem (by rw[ab.o];omega)]
     rfl)
    rw[zx xM] at E
    have HS:=J (qX A.o (n*32) (cs:=cs) (by rw[E];omega))
    have HT:=J (Zr HS.o (m:=n) (by omega))
    have HF:=@J ((setM (R.flatMap zf) (n*32) cs).take (n*32)=(l.filter λx=> !Zk L x).flatMap zf) (by
     rw[YR _ _ _ _ (le_refl _),←DN.o]
     conv=>lhs;rw[←List.take_append_drop n R]
     rw[List.flatMap_append,List.take_append_of_le_length,List.take_of_length_le]
     ·rw[xI zf 32 _ (λa ha=>zx (b.o a (List.mem_of_mem_take ha))),length_take,D.o];omega
     ·rw[xI zf 32 _ (λa ha=>zx (b.o a (List.mem_of_mem_take ha))),length_take,D.o];omega)
    have FZ:=J (Z.o.trans (zu g cs (n*32) wr) (λ_ _ h=>h))
    have aa:=J t
    have ai:l.length≤s:=xG.cap A.o.slice.arg
    have jc:¬s=n:=by omega
    have aq:¬n=s:=by omega
    clear t E
    go_wp2_with (refine jX rfl rfl rfl aa.o ?_)
    go_ret
    refine⟨.slice (some ⟨g,0,none⟩) n s,by rfl,?_,FZ.o.mono (λj hj=>by rw[hj];rfl),λ_ h=>h⟩
    rw[LN.o,←HF.o]
    exact HT.o
 ·have EI:=@J (zeH (Zk L) l= -1) (zcT (λy F=>by cases o:Zk L y with|false=>rfl|true=>exact absurd (any_eq_true.2 ⟨y,F,o⟩) hin))
  have FN:=J ((List.filter_eq_self.2 (λy F=>by cases o:Zk L y with|false=>rfl|true=>exact absurd (any_eq_true.2 ⟨y,F,o⟩) hin):l.filter (λx=> !Zk L x)=l))
  obtain⟨va,s,e⟩:=q.slice.arg.form
  subst e
  have HL:=J q
  clear q ok h hq hin
  unfold zeD
  unfold zeD at M
  go_enter Tryz.func98,Tryz.ntmps98
  go_wp2_with (go_at_call 137;refine M.o.mono ?_;rintro e w1 ⟨rfl,T⟩;rw[EI.o];have I:=J T;clear T)
  go_ret
  exact⟨_,by rfl,by rw[FN.o];exact zb HL.o I.o (λ_ _=>id),I.o.of0,λ_ h=>h⟩
end
theorem zfj {w:World} {b off:Nat} {l k:List Value} (f:l.length=k.length) (d:w.rangeAt b off l) (e:w.rangeAt b off k):l=k:=by
 refine List.ext_getElem f (λi x y=>?_)
 have a:=d i _ (getElem?_eq_getElem x)
 have c:=e i _ (getElem?_eq_getElem y)
 exact Option.some.inj (a.symm.trans c)
section
variable {w0 w:World} {p ma ms g N:Nat} {VG X:Nat→Prop} {C:zd→List Value} {L:List yd} {S:List zr} {I:List zd}
theorem znw (h:yq w0 w p ma ms g VG X C L N) (i:N≤1000):
  Calls prog 25 #[.pointer (some ⟨p,0,none⟩)] w λe w'=>∃a,e=.returned a∧RowK w w' a (xt L):=by
 have c2:=h.cells.2.2
 have c:=J (ziY h.gr i)
 clear h
 go_enter Tryz.func25,Tryz.ntmps25
 have d:=tru
 go_wp2_with (clear d;go_at_call 55;refine c.o.mono ?_;rintro e j ⟨a,rfl,b⟩;have f:=J b;clear b;go_frame)
 go_ret
 exact⟨a,rfl,by have:=f.o;rw[vm] at this;exact this⟩
def zbp (w0 w1:World) (p:Nat) (X:Nat→Prop) (S:List zr) (I:List zd) (n:Nat) (A:List yd) (wr:World):Prop:=
 ∃ma ms g VG Xn C N,yq w0 wr p ma ms g VG Xn C A N∧N≤n∧(∀j,Xn j→X j∨w1.heap.size≤j)∧(∀j,X j→Xn j)∧(∀j,Xn j→j<wr.heap.size)∧(∀j,poV p ma ms VG j→j=p∨w1.heap.size≤j)∧vS S I A∧A.length≤32∧Fr (λj=>j=p) w1 wr
theorem zfl {r wr:World} {A:List yd} (B:q9 w0) (D:X p) (h:zbp w0 r p X S I n A wr) (G:n≤800) {wc:World} {s:Nat} {u:Nat→Prop} {y:List yB} (z:Cn wc wr s u S y I) (hS:∀c∈S,c.ok) {t:TxD} (E:Kept X r (λw=>TxQ w t cs)) {now:Nat} (k:now<18446744073709551616):
  Calls prog 16 #[.pointer (some ⟨p,0,none⟩),.pointer (some ⟨s,0,none⟩),.agg cs.toArray,.int .u64 now] wr λe w'=>∃v,e=.returned v∧zbp w0 r p X S I (n+1) (Zi S I A t now) w':=by
 obtain⟨ma,ms,g,VG,x,C,N,d,F,b,l,i,a,q,f,fr⟩:=h
 have o:Kept x wr (λw=>TxQ w t cs):=E.step (fr.mono (λj e=>by rw[e];exact D)) (λj m e=>(b j e).resolve_right (by omega))
 refine(zeg (B.keep0 d.fr) d (by omega) i q f z hS o k).mono λe w' ⟨gv,he,⟨VG',C',hpo',f',hV'⟩,_⟩=>⟨_,he,ma,ms,g,VG',_,C',N+1,hpo',by omega,?_,λj m=>.inl (l j m),?_,?_,q.acc t now,za3 q f t now,fr.trans f' (λj m e=>(a j e).resolve_right (by omega))⟩
 ·intro j e
  rcases e with e|e
  ·exact b j e
  ·rcases hV' j e with e|e
   ·exact b j (d.sub j (.inr (.inr (.inr e))))
   ·exact .inr (le_trans fr.size e)
 ·intro j e
  rcases e with e|e
  ·exact Nat.lt_of_lt_of_le (i j e) f'.size
  ·exact hpo'.hi j (.inr (.inr (.inr e)))
 ·intro j e
  rcases e with e|e|e|e
  ·exact .inl e
  ·exact a j (.inr (.inl e))
  ·exact a j (.inr (.inr (.inl e)))
  ·rcases hV' j e with e|e
   ·exact a j (.inr (.inr (.inr e)))
   ·exact .inr (le_trans fr.size e)
theorem zbp.fr0 {k wr w':World} {A:List yd} (h:zbp w0 k p X S I n A wr) (f:Fr No wr w'):zbp w0 k p X S I n A w':=by
 obtain⟨ma,ms,g,VG,l,C,N,i,m,d,b,c,e,q,a,fr⟩:=h
 exact⟨ma,ms,g,VG,l,C,N,i.fr0 f,m,d,b,λj o=>Nat.lt_of_lt_of_le (c j o) f.size,e,q,a,fr.trans0 f⟩
theorem zbp.fr {a wr:World} {A:List yd} (h:zbp w0 a p X S I n A wr):Fr (λj=>j=p) a wr:=by
 obtain⟨ma,ms,g,VG,k,C,N,i,l,e,c,d,f,m,b,fr⟩:=h
 exact fr
theorem zf9 {S:List zr} {I:List zd} {A:List yd} {l:List TxD} {t:TxD} (h:l[n]? =some t) (now:Int):Zx S I A (l.take (n+1)) now=Zi S I (Zx S I A (l.take n) now) t now:=by
 unfold Zx
 rw[take_add_one,h,List.foldl_append]
 rfl
theorem zfN {S:List zr} {I:List zd} {A:List yd} {l:List yd} {t:yd} (h:l[n]? =some t):Xg S I A (l.take (n+1))=Zi S I (Xg S I A (l.take n)) t.tx t.added:=by
 unfold Xg
 rw[take_add_one,h,List.foldl_append]
 rfl
end
def zns (w0 w:World) (p:Nat) (X:Nat→Prop) (S:List zr) (I:List zd) (L:List yd) (first:List TxD) (now:Int) (e:Ending) (w':World):Prop:=
 ∃gv,e=.returned (.tuple #[gv,.int .i64 0])∧(∃ma ms g VG X' C N,yq w0 w' p ma ms g VG X' C (Ql S I L first now) N∧N≤first.length+L.length∧(∀j,X' j→X j∨w.heap.size≤j)∧(∀j,X j→X' j)∧(∀j,X' j→j<w'.heap.size)∧(∀j,poV p ma ms VG j→j=p∨w.heap.size≤j))∧Fr (λj=>j=p) w w'∧
  w'.ownsRow w.heap.size 41 32 gv (zlp S I L first now).length ((zlp S I L first now).flatMap zf)
section
variable {w0 w:World} {p ma ms g N:Nat} {VG X:Nat→Prop} {C:zd→List Value} {L:List yd} {S:List zr} {I:List zd}
theorem zlq (hg:q9 w0) (h:yq w0 w p ma ms g VG X C L N) (hN:N≤1000) (hX:∀j,X j→j<w.heap.size) (aD:L.length≤32) (Y:∀e∈L,0≤e.added∧e.added<18446744073709551616) {wc:World} {bs:List yB} (hc:∀w',Fr (λj=>j=p) w w'→Cn wc w' pc VC S bs I) (hS:∀c∈S,c.ok)
  {fv:Value} {first:List TxD} (hf:Kept X w (λw=>Jz w fv first)) (bh:first.length≤700) {now:Nat} (aH:now<18446744073709551616):
  Calls prog 52 #[.pointer (some ⟨p,0,none⟩),.pointer (some ⟨pc,0,none⟩),fv,.int .u64 now] w (zns w0 w p X S I L first now):=by
 have zT:=jZ
 have zh:=yS
 have HH:=J h
 have HG:=J hg
 have HC:=J hc
 have HS:=J hS
 have HF:=J hf
 have aB:=J hX
 have aO:=J Y
 have XP:=J (h.sub p (.inl rfl))
 have ad:=J aD
 have AK:=J (λw' (f:Fr No w w')=>ziY (h.fr0 f).gr hN)
 obtain⟨fa,fc,rfl⟩:=hf.now.form
 have HD:=J (h.fr0 (frN w).drew)
 have af:=J h.ids
 clear h hg hc hS hf hX Y aD
 go_enter Tryz.func52,Tryz.ntmps52
 go_wp2_with fail
 refine wrLx [ff,ff,ff,ff,tt,ff,ff,ff,ff,ff,ff] (λw'=>w'.cell? ⟨p,0,none⟩=some (.map (some ma))∧w'.cell? ⟨p,2,none⟩=some (.pointer (some ⟨g,0,none⟩))) ?_ (λK hK=>?_)
 ·exact⟨HD.o.cells.1,HD.o.cells.2.2⟩
 have aP:=J (AK.o w.drew (frN w).drew)
 have aa:=J (frN w).drew
 generalize w.drew=wd at*
 repeat((first|(refine zl rfl ?_;constructor;constructor;(focus(first|(rintro w' ⟨s1,s2⟩;exact goS))))|(refine zm rfl ?_));try simp only[Act.put,pA,pB,pC])
 (refine zF rfl (λK' hK'=>?_))
 go_simp
 refine aP.o.mono ?_
 rintro e l ⟨iv,rfl,G,f1⟩
 rw[vm] at G
 obtain⟨ia,ic,a7⟩:=G.slice.arg.form
 subst a7
 have O1:=J G
 have F1:=J f1
 have W:=J (HD.o.fr0 f1)
 clear G f1
 refine nXt hK' ?_ λhS=>?_
 ·exact⟨W.o.cells.1,W.o.cells.2.2⟩
 try simp only[Act.put,pA,pB,pC]
 repeat((first|(refine zl rfl ?_;constructor;constructor;(focus(first|(rintro w' ⟨s1,s2⟩;exact goS))))|(refine zm rfl ?_));try simp only[Act.put,pA,pB,pC])
 refine zL (hK.out _ _ ?_)
 have k:=J (aa.o.trans0 F1.o)
 have EL:=@J ((xt L).length=L.length) (length_map _)
 rw[EL.o]
 have ae:=@J (l.ownsRow wd.heap.size 41 32 (.slice ia L.length ic) (xt L).length ((xt L).flatMap zf)) (by have:=O1.o;rw[EL.o] at this⊢;exact this)
 have aQ:=J (zgS w0 l W.o.fr W.o.lo3.1 W.o.obj)
 have d:=@J (∀j,(Value.slice ia L.length ic).ownBlock=some j→w.heap.size≤j∧j<l.heap.size) (λj a=>by have:=ae.o.lt j a;have:=aa.o.size;omega)
 have y:=@J (p<w.heap.size) (aB.o p XP.o)
 have av:=@J (∀j,X j→j<l.heap.size) (λj a=>by have:=aB.o j a;have:=k.o.size;omega)
 have K0:=tru
 go_wp2_with (clear K0;go_at_call 72;refine aQ.o.mono ?_;rintro e w5 ⟨rfl,f5,aM,aN,g5,az,v5,p5⟩;have F5:=J f5;have V5:=J v5;have P5:=J p5;clear f5 v5 p5;go_frame)
 obtain⟨i,o⟩:∃i:Nat→Prop,i=λj=>X j∨(Value.slice ia L.length ic).ownBlock=some j:=⟨_,rfl⟩
 have aZ:=@J (∀j,i j→j<l.heap.size) (λj a=>by rw[o] at a;exact a.elim (av.o j) (λe=>(d.o j e).2))
 have ah:=@J (∀j,j<w.heap.size→i j→X j) (λj a e=>by rw[o] at e;exact e.resolve_right (λe=>by have:=(d.o j e).1;omega))
 have ai:=@J (∀j,X j→i j) (λj a=>by rw[o];exact .inl a)
 have aA:=@J (∀j,(Value.slice ia L.length ic).ownBlock=some j→i j) (λj a=>by rw[o];exact .inr a)
 clear o
 have aW:=@J (zbp w0 l p i S I 0 [] w5) (by
  have b:=P5.o (λj=>i j∨(j=aM∨j=aN∨az j)) (λj a=>a.elim (λe=>.inl (by rw[e];exact ai.o p XP.o)) .inr) (λ_=>[])
  refine⟨aM,aN,g5,az,_,_,0,b,le_refl _,λj a=>a.imp_right (V5.o j),λj a=>.inl a,λj a=>a.elim (λe=>Nat.lt_of_lt_of_le (aZ.o j e) F5.o.size) (λe=>b.hi j (.inr e)),λj a=>a.imp_right (V5.o j),.nil,by simp,F5.o⟩)
 have aw:=J (λwr (f:Fr (λj=>j=p) l wr)=>HC.o wr (k.o.of0.trans f (λ_ _ e=>e)))
 have ax:=@J (Kept i l (λw=>Jz w (.slice fa first.length fc) first)) (HF.o.step k.o.of0 (λj a e=>ah.o j a e))
 have D:=J (ai.o p XP.o)
 go_wp2_with fail
 go_loopw [35] (λiv wr=>∃n:Nat,iv=.int .i64 n∧n≤first.length∧zbp w0 l p i S I n (Zx S I [] (first.take n) now) wr) (λiv _=>first.length-(intOf iv).toNat)
 case atStart=>exact⟨0,rfl,zero_le _,aW.o⟩
 case round=>
  obtain⟨n,rfl,hn,hr⟩:=hrel
  have RR:=J hr
  have FR:=J hr.fr
  clear hr
  by_cases ar:n<first.length
  ·have i1:(n:Int)<(first.length:Int):=by omega
   obtain⟨t,O⟩:∃x,first[n]? =some x:=⟨_,getElem?_eq_getElem ar⟩
   have ag:=J (zf9 (S:=S) (I:=I) (A:=[]) O now)
   obtain⟨bb,off,a1,ts,H,-,aI,ao⟩:=VF (by decide) (λ_ _ _ h=>TxQ.len3' h) (ax.o.same (FR.o.mono (λj e=>by rw[e];exact D.o))) O
   cases H
   obtain⟨ja,jc,ka,kc,rfl⟩:=aI.form
   have R1:=J ao.now.1
   have KT:=@J (Kept i l (λw=>TxQ w t [.int .u32 t.ver,.slice ja t.ins.length jc,.slice ka t.outs.length kc])) (by
    obtain⟨bg,bc,ba,a8,aK,-,-,r⟩:=VF (by decide) (λ_ _ _ h=>TxQ.len3' h) ax.o O
    cases aK
    have F:=(r wr (FR.o.mono (λj e=>by rw[e];exact D.o))).1
    have h2:=ao.now.1
    have e1:a8=[.int .u32 t.ver,.slice ja t.ins.length jc,.slice ka t.outs.length kc]:=zfj (by rw[TxQ.len3' r.now.2];rfl) F h2
    subst e1
    exact r.imp (λ_ _ h=>h.2))
   have FA:=J ((frN wr).alloc (.cells #[.int .u32 t.ver,.slice ja t.ins.length jc,.slice ka t.outs.length kc] 34))
   have RA:=J (qW wr t.ver (.slice ja t.ins.length jc) (.slice ka t.outs.length kc)).2.2.2
   have m:=J (zfl HG.o D.o (RR.o.fr0 FA.o) (by omega) (aw.o _ (FR.o.trans0 FA.o)) HS.o KT.o aH)
   rw[←ag.o] at m
   clear aI ao O
   have⟨K0,K1,K2,K3⟩:=tZ4
   go_wp2_with ((first|((with_reducible refine zt ?_);first|(clear K0;refine zoa rfl rfl rfl R1.o rfl ?_)|(clear K2;refine zoa rfl rfl rfl RA.o rfl ?_))|((with_reducible refine zv ?_);clear K1;refine zi rfl (zj (w:=wr) (ty:=34) (cs:=[.int .u32 t.ver,.slice ja t.ins.length jc,.slice ka t.outs.length kc]) rfl rfl rfl rfl y5 (qM rfl rfl rfl)) ?_;generalize wr.alloc (.cells #[.int .u32 t.ver,.slice ja t.ins.length jc,.slice ka t.outs.length kc] 34)=wA at*)|(clear K3;go_at_call 16;refine m.o.mono ?_;rintro e w9 ⟨v9,rfl,u⟩;have R9:=J u;clear u));go_frame)
   go_roundw
   case rel=>exact⟨n+1,by go_num,by omega,R9.o⟩
   case measure=>simp[intOf];omega
  ·have s:n=first.length:=by omega
   have i1:¬(n:Int)<(first.length:Int):=by omega
   have aX:=@J (zbp w0 l p i S I first.length (Zx S I [] first now) wr) (by have:=RR.o;rw[s,take_length] at this;exact this)
   clear s
   go_wp2_with fail
   go_loopw [47] (λiv v=>∃n:Nat,iv=.int .i64 n∧n≤L.length∧zbp w0 l p i S I (first.length+n) (Xg S I (Zx S I [] first now) (L.take n)) v) (λiv _=>L.length-(intOf iv).toNat)
   case atStart=>exact⟨0,rfl,zero_le _,aX.o⟩
   case round=>
    obtain⟨n,rfl,hn,hr⟩:=hrel
    rename World=>v
    have RQ:=J hr
    have FQ:=J hr.fr
    clear hr
    by_cases ar:n<L.length
    ·have i1:(n:Int)<(L.length:Int):=by omega
     obtain⟨e,O⟩:∃x,L[n]? =some x:=⟨_,getElem?_eq_getElem ar⟩
     have ag:=J (zfN (S:=S) (I:=I) (A:=Zx S I [] first now) O)
     have q:=mem_of_getElem? O
     have EX:=@J (e.id∈xt L) (mem_map.2 ⟨e,q,rfl⟩)
     have aC:=J (af.o e.id EX.o)
     have XL:=J (zx aC.o)
     have OQ:=J (zb ae.o FQ.o (λj a e=>by have:=(d.o j a).1;have:=y.o;omega))
     have aL:(xt L)[n]? =some e.id:=by unfold xt;rw[getElem?_map,O];rfl
     obtain⟨bb,off,a1,H,aJ,-⟩:=(yP.own OQ.o af.o).at_ aL
     rw[EL.o] at H
     cases H
     have R1:=J aJ
     have A1:=J (aO.o e q)
     obtain⟨P,Q,U,V,al⟩:=(W.o.data e q).now.form
     have Z:YF C L e.id=[.int .u32 e.tx.ver,.slice P e.tx.ins.length Q,.slice U e.tx.outs.length V,.int .u64 e.fee,.int .i64 e.size,.int .u64 e.added]:=by
      unfold YF
      rw[if_pos EX.o,al]
     obtain⟨M,hM,hm⟩:=W.o.am
     have LK:=J (λw' (h':qJ w' ma M)=>Yq (w:=w') aC.o h' hm Z)
     have MN:=@J (ma≠p) (λe=>W.o.apart.1 e.symm)
     have KT:=@J (Kept i l (λw=>TxQ w e.tx [.int .u32 e.tx.ver,.slice P e.tx.ins.length Q,.slice U e.tx.outs.length V])) (((HH.o.data e q).step (V':=i) k.o.of0 (λj a e=>ah.o j a e)).imp (λw2 _ ⟨bp,F,h2⟩=>by
       rw[al] at F
       obtain⟨bk,bl,bn,bo,rfl⟩:=h2.form
       unfold zmE at F
       simp only[List.cons_append,nil_append,List.cons.injEq,and_true,true_and] at F
       rw[F.1,F.2]
       exact h2))
     have FA:=J ((frN v).alloc (.cells (zf e.id).toArray 41))
     have RX:=J (zy v (zf e.id) 41)
     have m:=J (zfl HG.o D.o (RQ.o.fr0 (FA.o.drew)) (by have:=ad.o;omega) (aw.o _ (FQ.o.trans0 FA.o.drew)) HS.o KT.o (now:=e.added.toNat) (by have:=A1.o;omega))
     rw[show((e.added.toNat:Nat):Int)=e.added from Int.toNat_of_nonneg A1.o.1,←ag.o] at m
     have aT:=@J (qJ v ma M) (hM.keep FQ.o MN.o)
     clear aJ O q aL al Z hM hm
     have⟨K0,K1⟩:=tZ2
     go_wp2_with ((first|((with_reducible refine zt ?_);clear K0;refine zoc rfl rfl rfl R1.o XL.o ?_)|((with_reducible refine zv ?_);clear K1;refine zol (w:=v) (cs:=zf e.id) rfl rfl rfl rfl XL.o zU ?_));go_frame)
     generalize bj:v.heap.size=qx at*
     generalize v.alloc (.cells (zf e.id).toArray 41)=wa at*
     have aY:=J (za RX.o (frN wa).drew id)
     have aS:=J ((aT.o.keep FA.o id).keep (frN wa).drew id)
     refine yp [ff,ff,ff,ff,ff,ff,ff,ff,ff,ff,tt] (λw'=>w'.rangeAt qx 0 (zf e.id)∧qJ w' ma M) (by kernel_rfl) (by kernel_rfl) 10 (by kernel_rfl) (by kernel_rfl) ?_ (λK hK=>?_)
     ·exact⟨aY.o,aS.o⟩
     generalize wa.drew=wb at*
     repeat((first|(refine yb rfl ?_;constructor;constructor;(focus(first|exact zog rfl (λw h=>h.1) XL.o|exact λw' h=>zM (t:=133) rfl rfl rfl (LK.o w' h.2)|exact λw' _=>vY (t:=129) (f:=0) rfl rfl (zjA e.tx.ver P U e.tx.ins.length Q e.tx.outs.length V e.fee e.size e.added w')|exact λw' _=>vY (t:=129) (f:=2) rfl rfl (znM e.tx.ver P U e.tx.ins.length Q e.tx.outs.length V e.fee e.size e.added w')|(rintro w' ⟨s1,s2⟩;exact goS))))|(refine yc rfl ?_));try simp only[Act.put,pA,pB,pC])
     (refine ya rfl (λK' hK'=>?_))
     go_simp
     refine m.o.mono ?_
     rintro e' w9 ⟨v9,rfl,u⟩
     have R9:=J u
     clear u
     have bm:=ad.o
     refine hK'.out _ _ (λh=>absurd rfl h) (λhS=>?_)
     refine xA (hK.out _ _ ?_)
     go_wp2_with fail
     go_roundw
     case rel=>exact⟨n+1,by go_num,by omega,R9.o⟩
     case measure=>simp[intOf];omega
    ·have s:n=L.length:=by omega
     have i1:¬(n:Int)<(L.length:Int):=by omega
     obtain⟨R,T,g9,z,E,C9,N9,b,a6,aG,ak,aF,aq,hv,aE,aj⟩:=RQ.o
     rw[s,take_length] at b
     have b:yq w0 v p R T g9 z E C9 (Ql S I L first now) N9:=b
     have OQ:=J (zb ae.o aj (λj a e=>by have:=(d.o j a).1;have:=y.o;omega))
     have GB:=@J (∀gb,(Value.slice ia L.length ic).ownBlock=some gb→∀w',Fr (λj=>j=gb) v w'→yq w0 w' p R T g9 z E C9 (Ql S I L first now) N9) (λgb an w' f=>b.frV f (λj a e=>by
       have F:=d.o gb an
       have:=y.o
       rcases aq j a with e2|e2<;>omega) (λj e=>by have:=(d.o gb an).1;have:=HH.o.fr.size;omega) (λj e=>ak j (aA.o j (by rw[e];exact an))) (λ_ _ e=>e) b.sub)
     have au:=J (zaX b (B:=wd.heap.size) OQ.o af.o (by rw[EL.o];have:=ad.o;omega) GB.o)
     have ay:=J b
     have B9:=J (And.intro aG (And.intro ak (And.intro aF aq)))
     have aV:=@J (N9≤first.length+L.length) (by omega)
     have aR:=J aj
     clear s b a6 aG ak aF aq hv aE aj OQ
     unfold zeD at au
     have K0:=tru
     go_wp2_with (clear K0;go_at_call 98;refine au.o.mono ?_;rintro e w8 ⟨gv,rfl,od,fd,bd⟩;have OD:=J od;have FD:=J fd;clear od fd bd;go_frame)
     go_ret2
     have ab:Fr (λj=>(Value.slice ia L.length ic).ownBlock=some j) v w8:=FD.o
     have aU:yq w0 w8 p R T g9 z E C9 (Ql S I L first now) N9:=ay.o.frV ab (λj a e=>by
       have F:=d.o j e
       have:=y.o
       rcases B9.o.2.2.2 j a with e2|e2<;>omega) (λj e=>by have:=(d.o j e).1;have:=HH.o.fr.size;omega) (λj e=>B9.o.2.1 j (aA.o j e)) (λ_ _ e=>e) ay.o.sub
     have bf:=k.o.size
     refine⟨gv,rfl,⟨R,T,g9,z,E,C9,N9,aU,aV.o,λj a=>?_,λj a=>B9.o.2.1 j (ai.o j a),λj a=>Nat.lt_of_lt_of_le (B9.o.2.2.1 j a) ab.size,λj a=>(B9.o.2.2.2 j a).imp_right (λe=>by omega)⟩,?_,?_⟩
     ·rcases B9.o.1 j a with e|e
      ·by_cases hw:j<w.heap.size
       ·exact .inl (ah.o j hw e)
       ·exact .inr (by omega)
      ·exact .inr (by omega)
     ·exact(k.o.of0.trans aR.o (λ_ _ e=>e)).trans ab (λj a e=>by have:=(d.o j e).1;omega)
     ·have:(xt L).filter (λx=> !Zk (Ql S I L first now) x)=zlp S I L first now:=by
       unfold zlp
       refine List.filter_congr λx _=>?_
       simp[Zk]
      have ho:=OD.o
      rw[this] at ho
      exact yU ho aa.o.size
end
structure StE where
 id:zd
 tx:TxD
def yM (l:List StE):List zd:=l.map (·.id)
def Za (l:List StE) (q:zE):Bool:=l.any λe=>decide (q∈zZ e.tx)
theorem YS {l:List StE} {q:zE}:Za l q=true↔∃e∈l,q∈zZ e.tx:=by simp[Za]
def Qs (l:List StE) (x:zd):Option StE:=l.find? λe=>decide (e.id=x)
theorem zgt {l:List StE} {x:zd} {e:StE} (h:Qs l x=some e):e∈l∧e.id=x:=by
 unfold Qs at h
 exact⟨List.mem_of_find?_eq_some h,by simpa using List.find?_some h⟩
theorem zgs {l:List StE} {x:zd}:Qs l x=none↔x∉yM l:=by
 unfold Qs yM
 rw[List.find?_eq_none]
 simp only[decide_eq_true_eq,mem_map,not_exists,not_and]
theorem zdc:∀ {l:List StE},(yM l).Nodup→∀ {e:StE},e∈l→Qs l e.id=some e
 |[],_,_,h=>by cases h
 |x::r,hn,e,h=>by
  obtain⟨a,b⟩:=List.nodup_cons.1 hn
  unfold Qs
  rcases mem_cons.1 h with rfl|h
  ·simp
  ·have:x.id≠e.id:=λc=>a (by show x.id∈_;rw[c];exact mem_map.2 ⟨e,h,rfl⟩)
   rw[List.find?_cons_of_neg (by simpa using this)]
   exact zdc b h
def zdd (l:List StE) (q:zE):Option yI:=(Qs l q.tx).bind λe=>e.tx.outs[q.n.toNat]?
def ZV (S:List zr) (L:List yd) (l:List StE) (q:zE):Option yI:=match qP S L q with
 |some x=>some x
 |none=>zdd l q
def jD (S:List zr) (L:List yd) (l:List StE) (t:TxD):List yI:=(zZ t).map λq=>(ZV S L l q).getD y6
def Y9 (S:List zr) (L:List yd) (l:List StE) (t:TxD):Int:=
 if(zZ t).any (λq=>Za l q||qf L q)=true then 14 else if(zZ t).all (λq=>(ZV S L l q).isSome)=true then
  (if vB t (jD S L l t)≠0 then vB t (jD S L l t) else if Ja t (jD S L l t)<jJ (qQ t) then 17 else 0) else 15
def jC (I:List zd) (L:List yd) (l:List StE) (x:zd):Int:=
 if x∈yM l∨x∈xt L then 10 else if x∈I then 19 else if 4≤l.length then 18 else 0
noncomputable def jL (S:List zr) (I:List zd) (L:List yd) (l:List StE) (t:TxD):Int:=
 if yC t≠0 then yC t else if jC I L l (idH t)≠0 then jC I L l (idH t) else Y9 S L l t
noncomputable def Y3 (S:List zr) (I:List zd) (L:List yd) (l:List StE) (t:TxD):List StE:=if jL S I L l t=0 then l++[⟨idH t,t⟩] else l
abbrev StQ:=Nat→List StE
def jg (Q:StQ) (i:Nat) (l:List StE):StQ:=λj=>if j=i then l else Q j
theorem xQ (Q:StQ) (i:Nat) (l:List StE):jg Q i l i=l:=if_pos rfl
theorem qA (Q:StQ) {i j:Nat} (l:List StE) (h:j≠i):jg Q i l j=Q j:=if_neg h
theorem zbm (Q:StQ) (i:Nat):jg Q i (Q i)=Q:=by
 funext j
 unfold jg
 split
 ·rename_i h;rw[h]
 ·rfl
def Vi (l:List StE) (x:zd):List StE:=l.filter λe=>decide (e.id≠x)
def Ye:List StE→List zd→List zd
 |[],_=>[]
 |e::r,want=>if e.id∈want then e.id::Ye r ((zZ e.tx).map (·.tx)++want) else Ye r want
def qt (l:List StE) (x:zd):List zd:=Ye l.reverse [x]
def jP (l:List StE) (x:zd):List StE:=l.filter λe=>decide (e.id∈qt l x)
def Qr (l:List StE) (x:zd):List StE:=l.filter λe=>decide (e.id∉qt l x)
def ZM (Q:StQ):List Nat:=(List.range 65).filter λi=>decide (Q i≠[])
structure SVal (l:List StE):Prop where
 nd:(yM l).Nodup
 apart:l.Pairwise λa b=>∀q∈zZ a.tx,q∉zZ b.tx
 ent:∀e∈l,yC e.tx=0∧e.id=idH e.tx
 len:l.length≤4
theorem SVal.nil:SVal []:=⟨by simp[yM],List.Pairwise.nil,by simp,by simp⟩
theorem SVal.filter {l:List StE} (h:SVal l) (p:StE→Bool):SVal (l.filter p):=
 ⟨h.nd.sublist (List.filter_sublist.map _),h.apart.sublist List.filter_sublist,λe a=>h.ent e (mem_filter.1 a).1,le_trans (List.length_filter_le _ _) h.len⟩
theorem keep0 {S:List zr} {I:List zd} {L:List yd} {l:List StE} {t:TxD} (h:jL S I L l t=0):
  yC t=0∧idH t∉yM l∧idH t∉xt L∧idH t∉I∧l.length<4∧(∀q∈zZ t,Za l q=false∧qf L q=false)∧(∀q∈zZ t,(ZV S L l q).isSome=true)∧vB t (jD S L l t)=0∧jJ (qQ t)≤Ja t (jD S L l t):=by
 unfold jL at h
 split at h
 ·rename_i h1;exact absurd h h1
 rename_i h1
 split at h
 ·rename_i h2;exact absurd h h2
 rename_i h2
 have a:jC I L l (idH t)=0:=by omega
 unfold jC at a
 split at a; · cases a
 rename_i h4
 split at a; · cases a
 rename_i h5
 split at a; · cases a
 rename_i h6
 unfold Y9 at h
 split at h; · cases h
 rename_i h7
 split at h
 ·rename_i h8
  split at h
  ·rename_i h9;exact absurd h h9
  rename_i h9
  split at h; · cases h
  rename_i h10
  simp only[any_eq_true,Bool.or_eq_true,not_exists,not_and,not_or,Bool.not_eq_true] at h7
  simp only[List.all_eq_true] at h8
  exact⟨by omega,λe=>h4 (.inl e),λe=>h4 (.inr e),h5,by omega,h7,h8,by omega,by omega⟩
 ·cases h
theorem SVal.keep {S:List zr} {I:List zd} {L:List yd} {l:List StE} (h:SVal l) (t:TxD):SVal (Y3 S I L l t):=by
 unfold Y3
 split
 ·rename_i h0
  obtain⟨j,k,n,o,p,m,r,s,u⟩:=keep0 h0
  refine⟨?_,?_,?_,?_⟩
  ·unfold yM at*
   rw[map_append,List.nodup_append]
   exact⟨h.nd,by simp,λa f b d=>by simp at d;subst d;rintro rfl;exact k f⟩
  ·refine List.pairwise_append.2 ⟨h.apart,by simp,λa f b d q i g=>?_⟩
   obtain rfl:=mem_singleton.1 d
   have:=(m q g).1
   rw[YS.2 ⟨a,f,i⟩] at this
   cases this
  ·intro e c
   rcases mem_append.1 c with c|c
   ·exact h.ent e c
   ·obtain rfl:=mem_singleton.1 c
    exact⟨j,rfl⟩
  ·rw[List.length_append,List.length_singleton];omega
 ·exact h
theorem zjj (l:List StE) (x:zd):yM (Vi l x)=(yM l).filter λy=>decide (y≠x):=by
 unfold yM Vi
 rw[List.filter_map]
 rfl
theorem Je (l:List StE):(yM l).length=l.length:=length_map _
def skC (k:Int×zd):List Value:=.int .i64 k.1::zf k.2
def skV (k:Int×zd):Value:=.agg (skC k).toArray
def spC (k:Int×zE):List Value:=.int .i64 k.1::zn k.2
def spV (k:Int×zE):Value:=.agg (spC k).toArray
def ZB (x:Int):Prop:= -9223372036854775808≤x∧x≤9223372036854775807
theorem zhn {x:Int} (h:ZB x):(Lit.int .i64 x).wf=true:=by
 unfold ZB at h
 simp[Lit.wf,IntKind.min,IntKind.max,IntKind.signed,IntKind.bits]
 omega
theorem JH {k:Int×zd} (h:zY k.2):(skC k).length=33:=by simp[skC,zx h]
theorem zbi {k:Int×zE} (h:k.2.ok):(spC k).length=34:=by simp[spC,z6 h]
theorem zdW {k:Int×zd}:∀v∈skC k,v.oneCell'=true:=by
 intro v a
 rcases mem_cons.1 a with rfl|a
 ·rfl
 ·exact zU v a
theorem zdX {a b:Int×zd} (h:skV a=skV b):a=b:=by
 obtain⟨x,l⟩:=a
 obtain⟨y,m⟩:=b
 unfold skV at h
 injection h with h
 have c:skC (x,l)=skC (y,m):=by simpa using congrArg Array.toList h
 simp only[skC,List.cons.injEq,Value.int.injEq,true_and] at c
 rw[c.1,y3 (show y7 l=y7 m by unfold y7;rw[c.2])]
theorem zbj {a b:Int×zE} (h:spV a=spV b):a=b:=by
 obtain⟨x,l⟩:=a
 obtain⟨y,m⟩:=b
 unfold spV at h
 injection h with h
 have c:spC (x,l)=spC (y,m):=by simpa using congrArg Array.toList h
 simp only[spC,List.cons.injEq,Value.int.injEq,true_and] at c
 rw[c.1,zb6 c.2]
theorem zdF {k:Int×zd} (hi:ZB k.1) (h:zY k.2):∃l,keyOf prog 110 (skV k)=some l:=by
 have shape:qG prog 110=[(3,0,true),(41,1,true)]:=by kernel_rfl
 have b:prog.types.size=prog.types.size-2+2:=by kernel_rfl
 refine Zl shape (by simp) (by decide) (by kernel_rfl) (cs:=skC k) (by rw[JH h];kernel_rfl) ?_
 intro x a
 rw[b]
 simp only[mem_cons,not_mem_nil,or_false] at a
 rcases a with rfl|rfl
 ·have e:((skC k).drop 0).take (prog.cellsOf 3)=[.int .i64 k.1]:=by
   rw[show prog.cellsOf 3=1 by kernel_rfl];rfl
  exact⟨_,by rw[e];exact ZH (by kernel_rfl) _ (zhn hi)⟩
 ·have e:((skC k).drop 1).take (prog.cellsOf 41)=zf k.2:=by
   rw[show prog.cellsOf 41=32 by kernel_rfl]
   show(zf k.2).take 32=zf k.2
   rw[List.take_of_length_le (by rw[zx h];exact le_refl _)]
  simp only[e]
  exact zbQ h _
theorem zba {k:Int×zE} (hi:ZB k.1) (h:k.2.ok):∃l,keyOf prog 118 (spV k)=some l:=by
 have shape:qG prog 118=[(3,0,true),(95,1,true)]:=by kernel_rfl
 have b:prog.types.size=prog.types.size-3+3:=by kernel_rfl
 refine Zl shape (by simp) (by decide) (by kernel_rfl) (cs:=spC k) (by rw[zbi h];kernel_rfl) ?_
 intro x a
 rw[b]
 simp only[mem_cons,not_mem_nil,or_false] at a
 rcases a with rfl|rfl
 ·have e:((spC k).drop 0).take (prog.cellsOf 3)=[.int .i64 k.1]:=by
   rw[show prog.cellsOf 3=1 by kernel_rfl];rfl
  exact⟨_,by rw[e];exact ZH (by kernel_rfl) _ (zhn hi)⟩
 ·have e:((spC k).drop 1).take (prog.cellsOf 95)=zn k.2:=by
   rw[show prog.cellsOf 95=33 by kernel_rfl]
   show(zn k.2).take 33=zn k.2
   rw[List.take_of_length_le (by rw[z6 h];exact le_refl _)]
  simp only[e]
  exact zcu (hsh:=rfl) (by rw[ZL];simp) (by rw[ZL];decide) (by rw[z6 h];kernel_rfl) _ (zb7 h _)
theorem zmG:EqN prog 110:=⟨Keyed.of_law (deep_law_laid Xs (m:=3) (by decide) (of_decide_eq_true (by kernel_rfl)) (by kernel_rfl) (by kernel_rfl)),⟨3,by decide,by kernel_rfl⟩,by kernel_rfl,by kernel_rfl⟩
theorem zkX:EqN prog 118:=⟨Keyed.of_law (deep_law_laid Xs (m:=4) (by decide) (of_decide_eq_true (by kernel_rfl)) (by kernel_rfl) (by kernel_rfl)),⟨4,by decide,by kernel_rfl⟩,by kernel_rfl,by kernel_rfl⟩
theorem zar:(prog.info? 110).map (·.size)=some 33:=by kernel_rfl
theorem zmw:∃d,prog.underlying 110=some d∧d.isRow=true:=jf (by kernel_rfl)
theorem zcl:prog.underlying 113=some (.map 110 34):=by kernel_rfl
theorem V2:prog.underlying 114=some (.map 118 41):=by kernel_rfl
def VX:List Value:=[.int .u32 0,.slice none 0 0,.slice none 0 0]
theorem vt (w:World):(zeroValue 34).run prog w=.ok (QC VX) w:=by kernel_rfl
abbrev vi (w:World) (m:Nat) (M:List ((Int×zd)×List Value)):Prop:=yD prog 110 skV QC w m M
abbrev Yl (w:World) (m:Nat) (M:List ((Int×zE)×zd)):Prop:=yD prog 118 spV y7 w m M
def stC (ma ms:Nat) (R:Nat→Value):List Value:=.map (some ma)::((List.range 65).map R++[.map (some ms)])
theorem zlH (ma ms:Nat) (R:Nat→Value):(stC ma ms R).length=67:=by simp[stC]
theorem VS {ma ms:Nat} {R:Nat→Value} (h:i<65):(stC ma ms R)[i+1]? =some (R i):=by
 unfold stC
 rw[List.getElem?_cons_succ,List.getElem?_append_left (by simpa using h),getElem?_map,List.getElem?_range h]
 rfl
theorem zdZ {ma ms:Nat} {R:Nat→Value}:(stC ma ms R)[66]? =some (.map (some ms)):=by
 unfold stC
 rw[List.getElem?_cons_succ,List.getElem?_append_right (by simp)]
 simp
theorem zhg {ma ms:Nat} {R:Nat→Value} (h:i<65) (v:Value):(stC ma ms R).set (i+1) v=stC ma ms (λj=>if j=i then v else R j):=by
 refine List.ext_getElem? λk=>?_
 by_cases hk:k=i+1
 ·subst hk
  rw[List.getElem?_set_self (by rw[zlH];omega),VS h,if_pos rfl]
 ·rw[getElem?_set_ne (λe=>hk e.symm)]
  unfold stC
  cases k with
  |zero=>rfl
  |succ k=>
   rw[List.getElem?_cons_succ,List.getElem?_cons_succ]
   by_cases h65:k<65
   ·rw[List.getElem?_append_left (by simpa using h65),List.getElem?_append_left (by simpa using h65),getElem?_map,getElem?_map,List.getElem?_range h65]
    simp only[Option.map_some]
    rw[if_neg (by omega)]
   ·rw[List.getElem?_append_right (by simp;omega),List.getElem?_append_right (by simp;omega)]
    simp
def stV (p ma ms:Nat) (R:Nat→Value):Nat→Prop:=λj=>j=p∨j=ma∨j=ms∨∃i,i<65∧(R i).ownBlock=some j
structure yO (w0 w:World) (p ma ms:Nat) (R:Nat→Value) (X:Nat→Prop) (C:Nat→zd→List Value) (Q:StQ):Prop where
 obj:w.heap[p]? =some (.cells (stC ma ms R).toArray 116 (0,0))
 row:∀i,i<65→w.ownsRow w0.heap.size 41 32 (R i) (yM (Q i)).length ((yM (Q i)).flatMap zf)
 am:∃M,vi w ma M∧∀k cs,(k,cs)∈M↔∃i:Nat,i<65∧k.1=(i:Int)∧∃e∈Q i,e.id=k.2∧cs=C i k.2
 sm:∃M,Yl w ms M∧∀k x,(k,x)∈M↔∃i:Nat,i<65∧k.1=(i:Int)∧∃e∈Q i,k.2∈zZ e.tx∧e.id=x
 data:∀i,i<65→∀e∈Q i,Kept X w (λw=>TxQ w e.tx (C i e.id))
 val:∀i,SVal (Q i)
 apart:p≠ma∧p≠ms∧ma≠ms
 rnot:∀i,i<65→∀j,(R i).ownBlock=some j→j≠p∧j≠ma∧j≠ms
 rapart:∀i k,i<65→k<65→i≠k→∀j,(R i).ownBlock=some j→(R k).ownBlock≠some j
 lo3:w0.heap.size≤p∧w0.heap.size≤ma∧w0.heap.size≤ms
 fr:Fr No w0 w
 sub:∀j,stV p ma ms R j→X j
section
variable {w0 w w':World} {p ma ms:Nat} {R:Nat→Value} {X:Nat→Prop} {C:Nat→zd→List Value} {Q:StQ}
theorem yO.lo (h:yO w0 w p ma ms R X C Q):∀j,stV p ma ms R j→w0.heap.size≤j:=by
 obtain⟨b,c,d⟩:=h.lo3
 rintro j (rfl|rfl|rfl|⟨i,hi,a⟩)
 ·exact b
 ·exact c
 ·exact d
 ·exact((h.row i hi).lt j a).1
theorem yO.hi (h:yO w0 w p ma ms R X C Q):∀j,stV p ma ms R j→j<w.heap.size:=by
 obtain⟨M,b,-⟩:=h.am
 obtain⟨M',a,-⟩:=h.sm
 rintro j (rfl|rfl|rfl|⟨i,hi,c⟩)
 ·exact yF h.obj
 ·exact b.lt
 ·exact a.lt
 ·exact((h.row i hi).lt j c).2
theorem yO.frV (h:yO w0 w p ma ms R X C Q) {U X':Nat→Prop} (f:Fr U w w') (a:∀j,stV p ma ms R j→¬U j) (g:∀j,U j→w0.heap.size≤j) (c:∀j,U j→X j) (l:∀j,j<w.heap.size→X' j→X j) (q:∀j,stV p ma ms R j→X' j):yO w0 w' p ma ms R X' C Q:=by
 obtain⟨M,k,o⟩:=h.am
 obtain⟨M',b,d⟩:=h.sm
 exact {h with
  obj:=f.obj h.obj (a _ (.inl rfl))
  row:=λi hi=>zb (h.row i hi) f (λj n=>a j (.inr (.inr (.inr ⟨i,hi,n⟩))))
  am:=⟨M,k.keep f (a _ (.inr (.inl rfl))),o⟩
  sm:=⟨M',b.keep f (a _ (.inr (.inr (.inl rfl)))),d⟩
  data:=λi hi e m=>(h.data i hi e m).step (f.mono c) l
  fr:=h.fr.trans f (λi hi e=>by have:=g i e;omega)
  sub:=q}
theorem yO.fr0 (h:yO w0 w p ma ms R X C Q) (f:Fr No w w'):yO w0 w' p ma ms R X C Q:=
 h.frV f (λ_ _=>id) (λ_ h=>h.elim) (λ_ h=>h.elim) (λ_ _ h=>h) h.sub
theorem yO.idok (h:yO w0 w p ma ms R X C Q) (i:Nat):∀x∈yM (Q i),zY x:=λx b=>by
 obtain⟨e,a,rfl⟩:=mem_map.1 b
 rw[((h.val i).ent e a).2]
 exact qC _
theorem yO.cells (h:yO w0 w p ma ms R X C Q):w.cell? ⟨p,0,none⟩=some (.map (some ma))∧w.cell? ⟨p,66,none⟩=some (.map (some ms))∧∀i,i<65→w.cell? ⟨p,i+1,none⟩=some (R i):=by
 have:=zq h.obj
 refine⟨by simpa using this 0 _ rfl,by simpa using this 66 _ zdZ,λi hi=>?_⟩
 have:=this (i+1) _ (VS hi)
 simpa using this
def vq (Q:StQ) (i:Int) (x:zd):Bool:=decide (0≤i∧i<65∧x∈yM (Q i.toNat))
def ZT (C:Nat→zd→List Value) (Q:StQ) (i:Int) (x:zd):List Value:=if vq Q i x=true then C i.toNat x else VX
theorem Zm {i:Int} (hi:ZB i) {x:zd} (t:zY x) {M:List ((Int×zd)×List Value)} (o:vi w ma M) (s:∀k cs,(k,cs)∈M↔∃i:Nat,i<65∧k.1=(i:Int)∧∃e∈Q i,e.id=k.2∧cs=C i k.2) (c:Bool):
  (Instr.lookup 113 (.map (some ma)) (.agg (skC (i,x)).toArray) c).run prog w=.ok (if c then .tuple #[.agg (ZT C Q i x).toArray,.bool (vq Q i x)] else .agg (ZT C Q i x).toArray) w:=by
 have h:=o.look zmG.keyed zcl (λ_ _=>zdX) vt (zdF (k:=(i,x)) hi t) c (r:=if vq Q i x=true then some (C i.toNat x) else none) (λv=>by
  rw[s]
  by_cases h:vq Q i x=true
  ·rw[if_pos h]
   unfold vq at h
   simp only[decide_eq_true_eq] at h
   obtain⟨u,y,m⟩:=h
   obtain⟨e,q,d⟩:=mem_map.1 m
   constructor
   ·intro b
    exact⟨i.toNat,by omega,by show i=_;omega,e,q,d,(Option.some.inj b).symm⟩
   ·rintro⟨k,n,a,f,g,j,l⟩
    have:i.toNat=k:=by have a:i=(k:Int):=a;omega
    rw[l,this]
  ·rw[if_neg h]
   refine⟨λb=>(by cases b),?_⟩
   rintro⟨k,n,a,f,g,j,l⟩
   have a:i=(k:Int):=a
   refine absurd ?_ h
   unfold vq
   simp only[decide_eq_true_eq]
   refine⟨by omega,by omega,?_⟩
   rw[show i.toNat=k by omega]
   exact mem_map.2 ⟨f,g,j⟩)
 unfold skV at h
 rw[h]
 unfold ZT
 by_cases hh:vq Q i x=true<;>simp[hh,QC]
end
theorem vL:xH prog 110=some (33,[(0,1),(1,32)]):=by kernel_rfl
theorem zb4:xH prog 118=some (34,[(0,1),(1,33)]):=by kernel_rfl
theorem jU (i:Int) {x:zd} (h:zY x):Jx (([(0,1),(1,32)]:List (Nat×Nat)).toArray[·]?) 0 [(0,.int .i64 i),(1,.agg (zf x).toArray)]:=by
 have h:(Value.agg (zf x).toArray).cells.size=32:=by show(zf x).toArray.size=32;simpa using zx h
 exact⟨rfl,by rw[h];rfl,trivial⟩
theorem zdB (i:Int) {q:zE} (h:q.ok):Jx (([(0,1),(1,33)]:List (Nat×Nat)).toArray[·]?) 0 [(0,.int .i64 i),(1,.agg (zn q).toArray)]:=by
 have h:(Value.agg (zn q).toArray).cells.size=33:=by show(zn q).toArray.size=33;simpa using z6 h
 exact⟨rfl,by rw[h];rfl,trivial⟩
theorem vJ (i:Int) (x:zd):xE [(0,.int .i64 i),(1,.agg (zf x).toArray)]=skC (i,x):=by simp[xE,Value.cells,skC]
theorem zb0 (i:Int) (q:zE):xE [(0,.int .i64 i),(1,.agg (zn q).toArray)]=spC (i,q):=by simp[xE,Value.cells,spC]
theorem Vq (h:n<65):ZB (n:Int):=by unfold ZB;omega
theorem zin (w:World):(Instr.makeMap 113 none).run prog w=.ok (.map (some w.heap.size)) (w.alloc (.map #[] 0)):=by kernel_rfl
theorem zio (w:World):(Instr.makeMap 114 none).run prog w=.ok (.map (some w.heap.size)) (w.alloc (.map #[] 0)):=by kernel_rfl
def RZ0:Nat→Value:=λ_=>.slice none 0 0
theorem zi2 (a b:Nat) (w:World):(Instr.build 116 #[(0,.map (some a)),(2,.map (some b))]).run prog w=.ok (.agg (stC a b RZ0).toArray) w:=by kernel_rfl
theorem zl9 (w0 w:World) (f:Fr No w0 w):
  Calls prog 38 #[] w λe w'=>∃p ma ms,e=.returned (.pointer (some ⟨p,0,none⟩))∧Fr No w w'∧(∀j,stV p ma ms RZ0 j→w.heap.size≤j)∧∀X:Nat→Prop,(∀j,stV p ma ms RZ0 j→X j)→∀C,yO w0 w' p ma ms RZ0 X C (λ_=>[]):=by
 have u:=zin
 have v:=zio
 have c:=@J (vi (w.alloc (.map #[] 0)) w.heap.size []) (yD.made w)
 have d:=@J (Yl ((w.alloc (.map #[] 0)).alloc (.map #[] 0)) (w.heap.size+1) []) (by have:=yD.made (P:=prog) (kt:=118) (kV:=spV) (vV:=y7) (w.alloc (.map #[] 0));rw[show(w.alloc (.map #[] 0)).heap.size=w.heap.size+1 by simp] at this;exact this)
 go_enter Tryz.func38,Tryz.ntmps38
 have l:=tru
 go_wp2_with ((with_reducible refine zt ?_);clear l;with_reducible refine yv 3 ?_;refine zg rfl (yk (t:=116) rfl rfl (zi2 _ _ _)) ?_;go_frame)
 go_ret
 have g:Fr No (w.alloc (.map #[] 0)) (((w.alloc (.map #[] 0)).alloc (.map #[] 0)).alloc (.cells (stC w.heap.size (w.heap.size+1) RZ0).toArray 116)):=((frN _).alloc _).alloc _
 have h:Fr No ((w.alloc (.map #[] 0)).alloc (.map #[] 0)) (((w.alloc (.map #[] 0)).alloc (.map #[] 0)).alloc (.cells (stC w.heap.size (w.heap.size+1) RZ0).toArray 116)):=(frN _).alloc _
 have b:Fr No w (((w.alloc (.map #[] 0)).alloc (.map #[] 0)).alloc (.cells (stC w.heap.size (w.heap.size+1) RZ0).toArray 116)):=(((frN w).alloc _).alloc _).alloc _
 refine⟨w.heap.size+1+1,w.heap.size,w.heap.size+1,by simp,b,λj a=>?_,λX m C=>?_⟩
 ·rcases a with e|e|e|⟨i,hi,e⟩
  ·omega
  ·omega
  ·omega
  ·cases e
 ·have s:=f.size
  exact
   {obj:=by have:=yJ ((w.alloc (.map #[] 0)).alloc (.map #[] 0)) (.cells (stC w.heap.size (w.heap.size+1) RZ0).toArray 116) (n:=w.heap.size+1+1) (by simp);exact this
    row:=λi hi=>World.ownsRow_nil _ _ _ _
    am:=⟨[],c.o.keep g id,λk cs=>by simp⟩
    sm:=⟨[],d.o.keep h id,λk x=>by simp⟩
    data:=λi hi e o=>(by cases o)
    val:=λi=>SVal.nil
    apart:=⟨by omega,by omega,by omega⟩
    rnot:=λi hi j a=>(by cases a)
    rapart:=λi k hi r q j a=>(by cases a)
    lo3:=⟨by omega,by omega,by omega⟩
    fr:=f.trans0 b
    sub:=m}
section
variable {w0 w:World} {p ma ms:Nat} {R:Nat→Value} {X:Nat→Prop} {C:Nat→zd→List Value} {Q:StQ}
theorem yO.row_form (h:yO w0 w p ma ms R X C Q) (c:n<65):∃a b,R n=.slice a (Q n).length b:=by
 obtain⟨a,b,e⟩:=(h.row n c).slice.arg.form
 rw[Je] at e
 exact⟨a,b,e⟩
theorem znx (h:yO w0 w p ma ms R X C Q) (c:n<65):
  Calls prog 13 #[.pointer (some ⟨p,0,none⟩),.int .i64 n] w λe w'=>∃a,e=.returned a∧RowK w w' a (yM (Q n)):=by
 have c2:=h.cells.2.2 n c
 have b:=YG w (yP.own (h.row n c) (h.idok n)) (by rw[Je];have:=(h.val n).len;omega)
 obtain⟨l,m,k⟩:=h.row_form c
 rw[k] at c2 b
 have g:=J b
 have q:¬(n:Int)<0:=by omega
 have r:¬(64:Int)<(n:Int):=by omega
 have s:(n:Int)<65:=by omega
 have t:(0:Int)≤(n:Int):=by omega
 have o:w.cell? ⟨p,1+n,none⟩=some (.slice l (Q n).length m):=by rw[Nat.add_comm];exact c2
 clear h b
 go_enter Tryz.func13,Tryz.ntmps13
 have i:=tru
 go_wp2_with (clear i;go_at_call 42;refine g.o.mono ?_;rintro e u ⟨a,rfl,f,d⟩;have j:=J (And.intro f d);clear f d;go_frame)
 go_ret
 exact⟨a,rfl,j.o⟩
end
theorem znO (f s:Int) (w:World):(Instr.field 127 (.agg #[.int .u64 f,.int .i64 s]) 0).run prog w=.ok (.int .u64 f) w:=by kernel_rfl
section
variable {w0 w:World} {p ma ms g N:Nat} {VG X:Nat→Prop} {C:zd→List Value} {L:List yd}
theorem znL (h:yq w0 w p ma ms g VG X C L N) {x:zd} (s:zY x):Calls prog 73 #[.pointer (some ⟨p,0,none⟩),.agg (zf x).toArray] w λe w'=>∃f,e=.returned (.tuple #[.int .u64 f,.bool (decide (x∈xt L))])∧Fr No w w':=by
 obtain⟨T,F,E⟩:=Zw
 have r:=J (zx s)
 have k:=J ((frN w).alloc (.cells (zf x).toArray 41))
 have q:=J (zy w (zf x) 41)
 have d:=J (λw' (f:Fr No w w')=>zeE (h.fr0 f) s)
 have G:=J h
 by_cases hin:x∈xt L
 ·have c:=@J (decide (x∈xt L)=true) (decide_eq_true hin)
  obtain⟨e,v,j⟩:=mem_map.1 hin
  obtain⟨M,u,y⟩:=h.am
  obtain⟨z,A,B,D,i⟩:=(h.data e v).now.form
  have a:YF C L x=[.int .u32 e.tx.ver,.slice z e.tx.ins.length A,.slice B e.tx.outs.length D,.int .u64 e.fee,.int .i64 e.size,.int .u64 e.added]:=by
   unfold YF
   rw[if_pos hin,←j,i]
  have I:=J (λw' (h':qJ w' ma M)=>Yq (w:=w') s h' y a)
  have H:=J u
  clear h hin u y a i j v
  rw[c.o]
  go_enter Tryz.func73,Tryz.ntmps73
  have⟨n,o⟩:=tZ2
  go_wp2_with ((first|((with_reducible refine zt ?_);clear n;refine xU rfl (z7 (ty:=41) rfl rfl q.o F E (by rw[r.o];exact yt)) ?_)|(clear o;go_at_call 99;refine(d.o _ k.o).mono ?_;rintro P S ⟨rfl,b⟩;rw[c.o];have l:=J (k.o.trans0 b);have O:=J (za q.o b id);clear b));go_frame)
  have m:=J l.o.drew
  generalize Q:w.heap.size=R at*
  refine wrLx [ff,ff,ff,ff,ff,ff,ff,ff,ff,ff] (λw'=>w'.cell? ⟨p,0,none⟩=some (.map (some ma))∧w'.rangeAt R 0 (zf x)∧qJ w' ma M) ?_ (λK hK=>?_)
  ·exact⟨(G.o.fr0 m.o).cells.1,za O.o (frN _).drew id,H.o.keep m.o id⟩
  repeat((first|(refine zl rfl ?_;constructor;constructor;(focus(first|exact zog rfl (λw h=>h.2.1) r.o|exact λw' h=>zM (t:=133) rfl rfl rfl (I.o w' h.2.2)|exact λw' _=>vY (t:=129) (f:=1) rfl rfl (zl5 e.tx.ver z B e.tx.ins.length A e.tx.outs.length D e.fee e.size e.added w')|exact λw' _=>vY (t:=127) (f:=0) rfl rfl (znO e.fee e.size w')|(rintro w' ⟨U,V,W⟩;exact goS))))|(refine zm rfl ?_));try simp only[Act.put,pA,pB,pC])
  refine zL (hK.out _ _ ?_)
  go_wp2_with fail
  go_ret2
  exact⟨_,rfl,m.o⟩
 ·have c:=@J (decide (x∈xt L)=false) (decide_eq_false hin)
  clear h hin
  rw[c.o]
  go_enter Tryz.func73,Tryz.ntmps73
  have⟨n,o⟩:=tZ2
  go_wp2_with ((first|((with_reducible refine zt ?_);clear n;refine xU rfl (z7 (ty:=41) rfl rfl q.o F E (by rw[r.o];exact yt)) ?_)|(clear o;go_at_call 99;refine(d.o _ k.o).mono ?_;rintro P S ⟨rfl,b⟩;rw[c.o];have l:=J (k.o.trans0 b);clear b));go_frame)
  go_ret2
  exact⟨_,rfl,l.o⟩
end
end Go.Proofs.YtdkkjchclkjleaaGreatDoor
