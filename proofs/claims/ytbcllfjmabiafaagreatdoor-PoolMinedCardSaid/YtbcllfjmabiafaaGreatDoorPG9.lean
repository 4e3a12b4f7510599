/- chain: Connect, over what own and do leave. -/
import Derived.Test.YtbcllfjmabiafaaGreatDoorPG8
import Derived.Test.YtbcllfjmabiafaaGreatDoorPG7
set_option linter.unusedVariables false
set_option linter.unusedSimpArgs false
set_option linter.unnecessarySimpa false
set_option linter.all false
set_option maxRecDepth 20000
set_option maxHeartbeats 16000000
namespace Go.Proofs.YtbcllfjmabiafaaGreatDoor
open Go Go.RowKit Go.Maps Go.MapKept
open Go.Proofs.Tryz(prog)
open Nat(le_refl zero_le)
open List(mem_append mem_of_getElem? mem_cons length_append take_add_one take_length not_mem_nil)
variable {U V:Nat→Prop} {cs:List Value} {p:Nat} {w w0:World}
def zeC (n:Nat) (M M':List (zf×Int)) (ids:List zf):Prop:=(∀x v,(x,v)∈M'↔(x,v)∈M∨(x∈ids∧v=((n:Int)+1)))∧∀x∈ids,∀v,(x,v)∉M
def DoC (X:Nat→Prop) (w0:World) (p s mi:Nat) (U:Nat→Prop) (bv:Value) (css:List (List Value)) (D:ChD) (b:qf) (R:DoR):Prop:=
 ∀(w:World) (dq:Nat) (bcs:List Value),vo w0 w p s U mi bv css D→w.heap[dq]? =some (.cells (bcs++[Value.slice none 0 0,Value.slice none 0 0]).toArray 142 (0,0))→¬chV p U mi bv dq→w0.heap.size≤dq→
  (∀j,X j→j<w.heap.size)→Kept (λj=>chV p U mi bv j∨(j=dq∨X j)) w (λw=>vG w b bcs)→vy b=true→
  (∀(i:Nat) (d:yx) (cs:List Value),D.bs[i]? =some d→css[i]? =some cs→Kept (λj=>chV p U mi bv j∨j=dq) w (λw=>jG w d cs))→
  Calls prog 59 #[.pointer (some ⟨p,0,none⟩),.pointer (some ⟨dq,0,none⟩)] w λe w'=>∃M',zeC D.bs.length D.M M' R.d.ids∧zm2 w0 w p s mi U bv css D dq (λj=>j=dq∨X j) b R.E R.S M' R.d e w'
def zl4 (X:Nat→Prop) (w0 w:World) (p s mi:Nat) (U:Nat→Prop) (D:ChD) (bv:Value) (css:List (List Value)) (R:DoR) (e:Ending) (w':World):Prop:=
 e=.returned (.int .i64 R.E)∧Fr (chV p U mi bv) w w'∧(R.E=0→∃bv' css' M',vo w0 w' p s U mi bv' css' ⟨R.S,D.bs++[R.d],M'⟩∧zeC D.bs.length D.M M' R.d.ids∧(∀j,bv'.ownBlock=some j→bv.ownBlock=some j∨w.heap.size≤j)∧∃csd,css'=css++[csd]∧Kept (λj=>chV p U mi bv' j∨X j) w' (λw=>jG w R.d csd))∧
  (R.E≠0→∃M',vo w0 w' p s U mi bv css ⟨xP R.d.chg R.S,D.bs,M'⟩∧∀x v,(x,v)∈M'↔(x,v)∈D.M)
def Xs (D:ChD) (b:qf):Int:=if 1024≤D.bs.length then 18 else if vy b=true then(if b.pay.any jb=true then 11 else 0) else 5
theorem zeO:∃d,prog.underlying 142=some d∧d.isRow=true:=jR (by kernel_rfl)
theorem ZO:(prog.info? 142).map (·.size)=some 5:=by kernel_rfl
def zgc:List Value:=[.int .u64 0,.slice none 0 0,.slice none 0 0,.slice none 0 0,.slice none 0 0]
theorem zfR (w:World):(zeroValue 142).run prog w=.ok (.agg zgc.toArray) w:=by kernel_rfl
theorem zfL:prog.underlying 135=some (.slice 142):=by kernel_rfl
theorem zib:(prog.info? 142).map (λi=>(i.zero,i.size,i.bytes))=some (some (.agg zgc.toArray),5,104):=by kernel_rfl
theorem zgo:(prog.info? 142).map (λi=>(i.zero,i.size))=some (some (.agg zgc.toArray),5):=by kernel_rfl
theorem zg0 (t:Int) (a b:Option Addr) (n m c d:Nat) (w:World):(Instr.build 142 #[(0,.agg #[.int .u64 t,.slice a n c,.slice b m d])]).run prog w=.ok (.agg [.int .u64 t,.slice a n c,.slice b m d,.slice none 0 0,.slice none 0 0].toArray) w:=by kernel_rfl
theorem zeM (hg:vp w0) {p s mi:Nat} {bv:Value} {css:List (List Value)} {D:ChD} (h:vo w0 w p s U mi bv css D) {b:qf} (G:vG w b cs) (hl:D.bs.length≤100000) (c:Xs D b≠0):
  Calls prog 24 #[.pointer (some ⟨p,0,none⟩),.agg cs.toArray] w λe w'=>e=.returned (.int .i64 (Xs D b))∧Fr No w w':=by
 have HB:=Hd G
 obtain⟨t,u,M,N,rfl⟩:=G.form
 have zH:=yJ
 have zo:=y3
 have l:=Hd ((frN w).alloc (.cells #[.int .u64 b.tag,.slice t b.pay.length u,.slice M b.txs.length N] 65))
 have A:=Hd (h.fr0 l.o)
 have c1:=A.o.cells.2.1
 obtain⟨ba,bc,W⟩:=h.row.slice.arg.form
 rw[W] at c1
 obtain⟨x0,x1,x2,xr⟩:=YC w (.int .u64 b.tag) (.slice t b.pay.length u) (.slice M b.txs.length N) 65
 have X1:=Hd x1
 have XR:=Hd xr
 have O:=Hd (zaE ((hg.keep0 h.fr).keep0 l.o) (HB.o.keep l.o))
 have B:=Hd (zu (zbr b))
 clear h G x0 x1 x2 xr hg A
 show Calls prog 24 #[.pointer (some ⟨p,0,none⟩),.agg #[.int .u64 b.tag,.slice t b.pay.length u,.slice M b.txs.length N]] w _
 by_cases h1024:1024≤D.bs.length
 ·have q:=@Hd (Xs D b=18) (by simp[Xs,h1024])
  have j1:decide ((1024:Int)≤(D.bs.length:Int))=true:=by simp;omega
  clear c h1024
  go_enter Tryz.func24,Tryz.ntmps24
  go_wp2
  go_ret
  exact⟨by rw[q.o];rfl,l.o⟩
 have j1:decide ((1024:Int)≤(D.bs.length:Int))=false:=by simp;omega
 by_cases hok:vy b=true
 rotate_left
 ·have f:vy b=false:=by simpa using hok
  have q:=@Hd (Xs D b=5) (by simp[Xs,h1024,f])
  have S:=Hd (zbs f)
  rw[S.o.1] at O
  clear c h1024 hok f
  go_enter Tryz.func24,Tryz.ntmps24
  have⟨i,j,T⟩:=tZ3
  go_wp2_with ((first|((with_reducible refine zt ?_);clear i;refine znX rfl rfl rfl XR.o rfl ?_;generalize w.alloc (.cells #[.int .u64 b.tag,.slice t b.pay.length u,.slice M b.txs.length N] 65)=w1 at*)|(clear j;go_at_call 57;refine O.o.mono ?_;rintro e v ⟨rfl,E⟩;have F2:=Hd (l.o.trans0 E);clear E;have F3:=Hd (F2.o.trans0 ((frN v).alloc (.cells (zd (ZW b)).toArray 45))))|((with_reducible refine zr ?_);clear T;refine zn3 (w:=v) (cs:=zd (ZW b)) rfl rfl rfl rfl B.o zE ?_));go_frame)
  go_ret
  exact⟨by rw[q.o];rfl,F3.o⟩
 have d:b.pay.any jb=true:=by
  cases G:b.pay.any jb with
  |true=>rfl
  |false=>exact absurd (show Xs D b=0 by simp[Xs,h1024,hok,G]) c
 have q:=@Hd (Xs D b=11) (by simp[Xs,h1024,hok,d])
 have S:=Hd (VE hok)
 rw[S.o.1] at O
 have p8:b.pay.length≤8:=by
  have:=hok
  simp only[vy,Bool.and_eq_true,decide_eq_true_eq] at this
  exact this.1
 have z:=Hd d
 clear c h1024 hok d
 go_enter Tryz.func24,Tryz.ntmps24
 have⟨i,j,T⟩:=tZ3
 go_wp2_with ((first|((with_reducible refine zt ?_);clear i;refine znX rfl rfl rfl XR.o rfl ?_;generalize w.alloc (.cells #[.int .u64 b.tag,.slice t b.pay.length u,.slice M b.txs.length N] 65)=w1 at*)|(clear j;go_at_call 57;refine O.o.mono ?_;rintro e v ⟨rfl,E⟩;have Q:=Hd E;clear E;have g:=Hd (Q.o.trans0 ((frN v).alloc (.cells (zd (ZW b)).toArray 45))))|((with_reducible refine zr ?_);clear T;refine zn3 (w:=v) (cs:=zd (ZW b)) rfl rfl rfl rfl B.o zE ?_;generalize v.alloc (.cells (zd (ZW b)).toArray 45)=w3 at*;have ab:=g.o.cell X1.o id));go_frame)
 have C:=@Hd (xg w3 (.slice t b.pay.length u) b.pay) (by
  obtain⟨ad,ae,af,ag,e,_,ho,_⟩:=HB.o
  simp only[VD,List.cons.injEq,and_true] at e
  obtain⟨-,e1,-⟩:=e
  injection e1 with e11 _ e13
  subst e11;subst e13
  exact(ho.keep l.o).keep g.o)
 clear ab
 go_loopw [30] (λiv wr=>∃n:Nat,iv=.int .i64 n∧n≤b.pay.length∧(∀x∈b.pay.take n,jb x=false)∧Fr No w3 wr) (λiv _=>b.pay.length-(intOf iv).toNat)
 case atStart=>exact⟨0,rfl,zero_le _,by simp,Fr.refl _ _⟩
 case round=>
  obtain⟨n,rfl,hn,m,fr⟩:=hrel
  have FR:=Hd fr
  have AL:=Hd m
  clear fr m
  by_cases X:n<b.pay.length
  ·have i1:(n:Int)<(b.pay.length:Int):=by omega
   obtain⟨x,P⟩:∃x,b.pay[n]? =some x:=⟨_,List.getElem?_eq_getElem X⟩
   obtain⟨bb,off,cap,hv,hr,-⟩:=(C.o.keep FR.o).at_ P
   cases hv
   have o:=C.o.1 x (mem_of_getElem? P)
   have V:=Hd hr
   have r:=Hd (yq o)
   have R:=Hd (FR.o.trans0 ((frN wr).alloc (.cells (zF x).toArray 58)))
   have n1:=(Xb wr o).1
   have HX:=Hd P
   clear hr o P
   by_cases hbx:jb x=true
   ·have Z:x.value=0∨(x.value≠0∧1125899906842624<x.value):=by
     simp only[jb,Bool.or_eq_true,decide_eq_true_eq] at hbx
     by_cases h:x.value=0
     ·exact .inl h
     ·exact .inr ⟨h,hbx.resolve_left h⟩
    clear hbx
    rcases Z with K|⟨K,L⟩
    ·have H:(x.value==0)=true:=by simpa using K
     clear K
     have⟨i,j⟩:=tZ2
     go_wp2_with ((first|((with_reducible refine zt ?_);clear i;refine znU rfl rfl rfl V.o r.o ?_)|((with_reducible refine zr ?_);clear j;refine zn2 (w:=wr) (cs:=zF x) rfl rfl rfl rfl r.o yd ?_;generalize wr.alloc (.cells (zF x).toArray 58)=wA at*));go_frame)
     go_ret
     exact⟨by rw[q.o];rfl,l.o.trans0 (g.o.trans0 R.o)⟩
    ·have H:(x.value==0)=false:=by simpa using K
     have aa:decide (1125899906842624<x.value)=true:=by simpa using L
     clear K L
     have⟨i,j⟩:=tZ2
     go_wp2_with ((first|((with_reducible refine zt ?_);clear i;refine znU rfl rfl rfl V.o r.o ?_)|((with_reducible refine zr ?_);clear j;refine zn2 (w:=wr) (cs:=zF x) rfl rfl rfl rfl r.o yd ?_;generalize wr.alloc (.cells (zF x).toArray 58)=wA at*));go_frame)
     go_ret
     exact⟨by rw[q.o];rfl,l.o.trans0 (g.o.trans0 R.o)⟩
   ·have a:jb x=false:=by simpa using hbx
    have H:(x.value==0)=false:=by
     unfold jb at a
     rw[Bool.or_eq_false_iff] at a
     simpa using a.1
    have aa:decide (1125899906842624<x.value)=false:=by
     unfold jb at a
     rw[Bool.or_eq_false_iff] at a
     exact a.2
    have AN:=@Hd (∀y∈b.pay.take (n+1),jb y=false) (λy k=>by
     rw[take_add_one,HX.o] at k
     rcases mem_append.1 k with k|k
     ·exact AL.o y k
     ·simp at k;subst k;exact a)
    clear hbx a
    have⟨i,j⟩:=tZ2
    go_wp2_with ((first|((with_reducible refine zt ?_);clear i;refine znU rfl rfl rfl V.o r.o ?_)|((with_reducible refine zr ?_);clear j;refine zn2 (w:=wr) (cs:=zF x) rfl rfl rfl rfl r.o yd ?_;generalize wr.alloc (.cells (zF x).toArray 58)=wA at*));go_frame)
    go_roundw
    case rel=>exact⟨n+1,by go_num,by omega,AN.o,R.o⟩
    case measure=>simp[intOf];omega
  ·have Y:n=b.pay.length:=by omega
   have i1:¬(n:Int)<(b.pay.length:Int):=by omega
   exfalso
   have F:=AL.o
   rw[Y,take_length] at F
   have hB:=z.o
   obtain⟨y,k,I⟩:=List.any_eq_true.1 hB
   rw[F y k] at I
   cases I
theorem zdX (hg:vp w0) {p s F:Nat} {G:Value} {css:List (List Value)} {D:ChD} (h:vo w0 w p s U F G css D) {b:qf} (hb:vG w b cs) (M:Xs D b=0) {R:DoR}
  (ak:∀(w:World) (cs:List Value),vG w b cs→Calls prog 58 #[.agg cs.toArray] w (zlS w b)) {X:Nat→Prop} (hX:∀j,X j→j<w.heap.size) (aI:DoC X w0 p s F U G css D b R) (aK:R.S.length+Jh R.d.chg≤100000∧R.d.chg.length≤100000∧R.d.ids.length≤100000):
  Calls prog 24 #[.pointer (some ⟨p,0,none⟩),.agg cs.toArray] w (zl4 X w0 w p s F U D G css R):=by
 have H:¬1024≤D.bs.length:=λh=>by simp[Xs,h] at M
 have hok:vy b=true:=by
  cases hok:vy b with
  |true=>rfl
  |false=>simp[Xs,H,hok] at M
 have aj:b.pay.any jb=false:=by
  cases hb:b.pay.any jb with
  |false=>rfl
  |true=>simp[Xs,H,hok,hb] at M
 have HB:=Hd hb
 obtain⟨pa,pc,ta,tc,rfl⟩:=hb.form
 obtain⟨dD,uD,rD⟩:=zeO
 have zH:=yJ
 have zo:=y3
 have zD:=zfR
 have F1:=Hd ((frN w).alloc (.cells #[.int .u64 b.tag,.slice pa b.pay.length pc,.slice ta b.txs.length tc] 65))
 have HC:=Hd h
 have ay:=Hd (h.fr0 F1.o)
 have c1:=ay.o.cells.2.1
 obtain⟨ba,bc,ar⟩:=h.row.slice.arg.form
 rw[ar] at c1
 obtain⟨x0,x1,x2,xr⟩:=YC w (.int .u64 b.tag) (.slice pa b.pay.length pc) (.slice ta b.txs.length tc) 65
 have X1:=Hd x1
 have XR:=Hd xr
 have ID:=Hd (zaE ((hg.keep0 h.fr).keep0 F1.o) (HB.o.keep F1.o))
 have aS:=Hd (zu (zbr b))
 have GE:=Hd (VE hok)
 rw[GE.o.1] at ID
 have j1:decide ((1024:Int)≤(D.bs.length:Int))=false:=by simp;omega
 have p8:b.pay.length≤8:=by
  have:=hok
  simp only[vy,Bool.and_eq_true,decide_eq_true_eq] at this
  exact this.1
 have ax:=Hd (List.any_eq_false.1 aj)
 have aC:=Hd hok
 have aD:=Hd ak
 have az:=Hd aI
 have ag:=Hd hX
 have an:=Hd aK
 have BL:=@Hd (D.bs.length<1024) (by omega)
 have E:=Hd ar
 clear h hb x0 x1 x2 xr hg hok aj H M ak aI aK ay ar hX
 show Calls prog 24 #[.pointer (some ⟨p,0,none⟩),.agg #[.int .u64 b.tag,.slice pa b.pay.length pc,.slice ta b.txs.length tc]] w _
 go_enter Tryz.func24,Tryz.ntmps24
 have⟨K0,K1,K2⟩:=tZ3
 go_wp2_with ((first|((with_reducible refine zt ?_);clear K0;refine znX rfl rfl rfl XR.o rfl ?_;generalize w.alloc (.cells #[.int .u64 b.tag,.slice pa b.pay.length pc,.slice ta b.txs.length tc] 65)=w1 at*)|(clear K1;go_at_call 57;refine ID.o.mono ?_;rintro e w2 ⟨rfl,f2⟩;have aO:=Hd f2;clear f2;have ab:=Hd (aO.o.trans0 ((frN w2).alloc (.cells (zd (ZW b)).toArray 45))))|((with_reducible refine zr ?_);clear K2;refine zn3 (w:=w2) (cs:=zd (ZW b)) rfl rfl rfl rfl aS.o zE ?_;generalize w2.alloc (.cells (zd (ZW b)).toArray 45)=w3 at*;have a8:=ab.o.cell X1.o id));go_frame)
 have aB:=@Hd (xg w3 (.slice pa b.pay.length pc) b.pay) (by
  obtain⟨bg,bh,bj,bk,e,_,ho,_⟩:=HB.o
  simp only[VD,List.cons.injEq,and_true] at e
  obtain⟨-,e1,-⟩:=e
  injection e1 with e11 _ e13
  subst e11;subst e13
  exact(ho.keep F1.o).keep ab.o)
 clear a8
 go_loopw [30] (λiv wr=>∃n:Nat,iv=.int .i64 n∧n≤b.pay.length∧(∀x∈b.pay.take n,jb x=false)∧Fr No w3 wr) (λiv _=>b.pay.length-(intOf iv).toNat)
 case atStart=>exact⟨0,rfl,zero_le _,by simp,Fr.refl _ _⟩
 case round=>
  obtain⟨n,rfl,hn,ai,fr⟩:=hrel
  have FR:=Hd fr
  have AL:=Hd ai
  clear fr ai
  by_cases aZ:n<b.pay.length
  ·have i1:(n:Int)<(b.pay.length:Int):=by omega
   obtain⟨x,hx⟩:∃x,b.pay[n]? =some x:=⟨_,List.getElem?_eq_getElem aZ⟩
   obtain⟨bb,off,cap,hv,hr,-⟩:=(aB.o.keep FR.o).at_ hx
   cases hv
   have au:=aB.o.1 x (mem_of_getElem? hx)
   have R1:=Hd hr
   have IL:=Hd (yq au)
   have FA:=Hd (FR.o.trans0 ((frN wr).alloc (.cells (zF x).toArray 58)))
   have n1:=(Xb wr au).1
   have HX:=Hd hx
   clear hr au hx
   by_cases hbx:jb x=true
   ·exact absurd hbx (ax.o x (mem_of_getElem? HX.o))
   ·have g:jb x=false:=by simpa using hbx
    have bd:(x.value==0)=false:=by
     unfold jb at g
     rw[Bool.or_eq_false_iff] at g
     simpa using g.1
    have bf:decide (1125899906842624<x.value)=false:=by
     unfold jb at g
     rw[Bool.or_eq_false_iff] at g
     exact g.2
    have AN:=@Hd (∀y∈b.pay.take (n+1),jb y=false) (λy hy=>by
     rw[take_add_one,HX.o] at hy
     rcases mem_append.1 hy with hy|hy
     ·exact AL.o y hy
     ·simp at hy;subst hy;exact g)
    clear hbx g
    have⟨K0,K1⟩:=tZ2
    go_wp2_with ((first|((with_reducible refine zt ?_);clear K0;refine znU rfl rfl rfl R1.o IL.o ?_)|((with_reducible refine zr ?_);clear K1;refine zn2 (w:=wr) (cs:=zF x) rfl rfl rfl rfl IL.o yd ?_;generalize wr.alloc (.cells (zF x).toArray 58)=wA at*));go_frame)
    go_roundw
    case rel=>exact⟨n+1,by go_num,by omega,AN.o,FA.o⟩
    case measure=>simp[intOf];omega
  ·have a6:n=b.pay.length:=by omega
   have i1:¬(n:Int)<(b.pay.length:Int):=by omega
   have FW:=Hd (F1.o.trans0 (ab.o.trans0 FR.o))
   have FO:=Hd (ab.o.trans0 FR.o)
   have aG:=Hd (za XR.o FO.o id)
   have aF:=Hd (aD.o wr _ (HB.o.keep FW.o))
   have ae:=Hd (HC.o.fr0 FW.o)
   clear AL a6
   by_cases hE:R.E=0
   rotate_left
   ·have aU:=Hd hE
    have e0:(R.E==0)=false:=by simpa using hE
    clear hE
    have⟨K0,K1,K2,K3,K4,K5,K6⟩:=tZ7
    go_wp2_with ((first|((with_reducible refine zt ?_);first|(clear K0;refine znX rfl rfl rfl aG.o rfl ?_)|(clear K2;refine zg rfl (yv (t:=142) rfl rfl (zg0 _ _ _ _ _ _ _ _)) ?_)|(clear K5;refine zg rfl (zX (ty:=142) rfl rfl (zv Q7.o) uD rD (by rw[List.toList_toArray,D5.o];exact ZO)) ?_))|(clear K1;go_at_call 58;refine aF.o.mono ?_;rintro e w5 ⟨aW,rfl,f5,I⟩;obtain⟨m,o,q,r,rfl⟩:=(I (λ_=>False) (λ_ h=>h.elim)).now.form;have K5:=Hd I;have F5:=Hd f5;have l:=Hd (ae.o.fr0 f5);clear I f5)|(clear K4;go_at_call 59;refine(az.o w6 dq [.int .u64 b.tag,.slice m b.pay.length o,.slice q b.txs.length r] (l.o.fr0 Q.o) B6.o (λe=>by have:=l.o.hi _ e;omega) (by have:=l.o.fr.size;omega) (λj c=>by have:=ag.o j c;have:=FW.o.size;have:=F5.o.size;have:=Q.o.size;omega) ((K5.o (λj=>chV p U F G j∨X j) (λj c=>c.elim (ae.o.hi j) (λe=>by have:=ag.o j e;have:=FW.o.size;omega))).step Q.o.of0 (λj c e=>e.imp_right (λe=>e.resolve_left (by omega)))) aC.o (λi d cs h1 O=>(l.o.data i d cs h1 O).step Q.o.of0 (λj c e=>e.resolve_right (by omega)))).mono ?_;rintro e w7 ⟨M7,aa,rfl,V,f7,T,A,Z,L⟩;have af:=Hd aa;have al:=Hd V;have F7:=Hd f7;have Q7:=Hd Z;have KD:=Hd L;have ad:=@Hd (Fr (chV p U F G) w w7) (((FW.o.trans0 F5.o).trans0 Q.o).of0.trans f7 (λj c e=>e.elim id (λe=>by have:=FW.o.size;have:=F5.o.size;omega)));obtain⟨Y,W⟩:=L.now.one;have D5:=Hd Y;have D1:=Hd W;clear aa V f7 T Z L Y W)|(clear K6;go_at_call 60;refine(zfM al.o (show Kept (chV p U F G) w7 (λw=>jG w R.d A) from λw' f=>KD.o w' (f.mono (λj c=>.inl c))) an.o.1 an.o.2.1 an.o.2.2).mono ?_;rintro e w8 ⟨rfl,M8,aH,aJ,-,f8⟩;have aR:=Hd aH;have aT:=Hd aJ;have F8:=@Hd (Fr (chV p U F G) w w8) (ad.o.trans f8 (λ_ _ h=>h));clear aH aJ f8)|((with_reducible refine zr ?_);clear K3;refine zi rfl (zj (w:=w5) (ty:=142) (cs:=[.int .u64 b.tag,.slice m b.pay.length o,.slice q b.txs.length r,.slice none 0 0,.slice none 0 0]) rfl rfl rfl rfl ZO (λu hu=>by simp only[mem_cons,not_mem_nil,or_false] at hu;rcases hu with rfl|rfl|rfl|rfl|rfl<;>rfl)) ?_;have Q:=Hd ((frN w5).alloc (.cells [.int .u64 b.tag,.slice m b.pay.length o,.slice q b.txs.length r,.slice none 0 0,.slice none 0 0].toArray 142));have B6:=Hd (ye w5 (.cells [.int .u64 b.tag,.slice m b.pay.length o,.slice q b.txs.length r,.slice none 0 0,.slice none 0 0].toArray 142));generalize w5.alloc (.cells [.int .u64 b.tag,.slice m b.pay.length o,.slice q b.txs.length r,.slice none 0 0,.slice none 0 0].toArray 142)=w6 at*;generalize aX:w5.heap.size=dq at*));go_frame)
    go_ret
    refine⟨rfl,F8.o,λh=>absurd h aU.o,λ_=>⟨M8,aR.o,λx v=>?_⟩⟩
    rw[aT.o,af.o.1]
    constructor
    ·rintro⟨h1,O|⟨O,h3⟩⟩
     ·exact O
     ·exact absurd O h1
    ·intro O
     exact⟨λh=>af.o.2 x h v O,.inl O⟩
   ·have aA:=Hd hE
    have e0:(R.E==0)=true:=by simpa using hE
    clear hE
    have⟨K0,K1,K2,K3,K4⟩:=tZ5
    go_wp2_with ((first|((with_reducible refine zt ?_);first|(clear K0;refine znX rfl rfl rfl aG.o rfl ?_)|(clear K2;refine zg rfl (yv (t:=142) rfl rfl (zg0 _ _ _ _ _ _ _ _)) ?_))|(clear K1;go_at_call 58;refine aF.o.mono ?_;rintro e w5 ⟨aW,rfl,f5,I⟩;obtain⟨m,o,q,r,rfl⟩:=(I (λ_=>False) (λ_ h=>h.elim)).now.form;have K5:=Hd I;have F5:=Hd f5;have l:=Hd (ae.o.fr0 f5);clear I f5)|(clear K4;go_at_call 59;refine(az.o w6 dq [.int .u64 b.tag,.slice m b.pay.length o,.slice q b.txs.length r] (l.o.fr0 Q.o) B6.o (λe=>by have:=l.o.hi _ e;omega) (by have:=l.o.fr.size;omega) (λj c=>by have:=ag.o j c;have:=FW.o.size;have:=F5.o.size;have:=Q.o.size;omega) ((K5.o (λj=>chV p U F G j∨X j) (λj c=>c.elim (ae.o.hi j) (λe=>by have:=ag.o j e;have:=FW.o.size;omega))).step Q.o.of0 (λj c e=>e.imp_right (λe=>e.resolve_left (by omega)))) aC.o (λi d cs h1 O=>(l.o.data i d cs h1 O).step Q.o.of0 (λj c e=>e.resolve_right (by omega)))).mono ?_;rintro e w7 ⟨M7,aa,rfl,V,f7,T,A,Z,L⟩;have af:=Hd aa;have al:=Hd V;have F7:=Hd f7;have Q7:=Hd Z;have KD:=Hd L;have ad:=@Hd (Fr (chV p U F G) w w7) (((FW.o.trans0 F5.o).trans0 Q.o).of0.trans f7 (λj c e=>e.elim id (λe=>by have:=FW.o.size;have:=F5.o.size;omega)));obtain⟨Y,W⟩:=L.now.one;have D5:=Hd Y;have D1:=Hd W;clear aa V f7 T Z L Y W)|((with_reducible refine zr ?_);clear K3;refine zi rfl (zj (w:=w5) (ty:=142) (cs:=[.int .u64 b.tag,.slice m b.pay.length o,.slice q b.txs.length r,.slice none 0 0,.slice none 0 0]) rfl rfl rfl rfl ZO (λu hu=>by simp only[mem_cons,not_mem_nil,or_false] at hu;rcases hu with rfl|rfl|rfl|rfl|rfl<;>rfl)) ?_;have Q:=Hd ((frN w5).alloc (.cells [.int .u64 b.tag,.slice m b.pay.length o,.slice q b.txs.length r,.slice none 0 0,.slice none 0 0].toArray 142));have B6:=Hd (ye w5 (.cells [.int .u64 b.tag,.slice m b.pay.length o,.slice q b.txs.length r,.slice none 0 0,.slice none 0 0].toArray 142));generalize w5.alloc (.cells [.int .u64 b.tag,.slice m b.pay.length o,.slice q b.txs.length r,.slice none 0 0,.slice none 0 0].toArray 142)=w6 at*;generalize aX:w5.heap.size=dq at*));go_frame)
    have N:=Hd (frN w7).drew
    have a:=Hd (al.o.fr0 N.o)
    have Q9:=Hd (N.o.obj Q7.o id)
    have GR:=@Hd (w7.drew.rangeAt dq 0 A) (zv Q9.o)
    have CB:=@Hd (w7.drew.cell? ⟨p,1,none⟩=some (.slice ba D.bs.length bc)) (by rw[←E.o];exact a.o.cells.2.1)
    refine yw [ff,ff,ff,ff,ff,ff,tt,tt,ff,ff,tt] (λw'=>w'.cell? ⟨p,1,none⟩=some (.slice ba D.bs.length bc)∧w'.rangeAt dq 0 A) (by kernel_rfl) (by kernel_rfl) 10 (by kernel_rfl) (by kernel_rfl) ?_ (λK hK=>?_)
    ·exact⟨CB.o,GR.o⟩
    generalize w7.drew=z at*
    have ah:=@Hd (z.ownsRow w0.heap.size 142 5 (.slice ba D.bs.length bc) D.bs.length (css.flatMap id)) (by rw[←E.o];exact a.o.row)
    obtain⟨v5,w9,a1,a2,a3,a4,a5⟩:=yA (P:=prog) z w0.heap.size 135 135 142 5 104 _ zfL zib rfl (by decide) ah.o A D5.o D1.o (by have:=BL.o;omega) (by have:=BL.o;unfold maxLen;omega) a.o.fr.size
    obtain⟨B,C,a7⟩:=a2.slice.arg.form
    subst a7
    have A1:=Hd a1
    have O9:=@Hd (w9.ownsRow w0.heap.size 142 5 (.slice B (D.bs.length+1) C) (D.bs++[R.d]).length ((css++[A]).flatMap id)) (by rw[length_append,List.flatMap_append];simpa using a2)
    have F9:=@Hd (Fr (chV p U F G) z w9) (a3.mono (λj e=>.inr (.inr (.inr (by rw[E.o];exact e)))))
    have N9:=@Hd (∀j,(Value.slice B (D.bs.length+1) C).ownBlock=some j→G.ownBlock=some j∨z.heap.size≤j) (λj c=>by rw[E.o];exact a5 j c)
    have aP:=Hd a3
    have aE:=Hd (a3.obj a.o.obj (λe=>(a.o.rn p (by rw[E.o];exact e)).1 rfl))
    have aN:=@Hd (dq≠p∧¬chV p U F G dq) (⟨λe=>by have:=yr l.o.obj;omega,λe=>by have:=l.o.hi _ e;omega⟩)
    have aQ:=Hd (za GR.o F9.o aN.o.2)
    clear a1 a2 a3 a4 a5
    have S:=aE.o
    rw[E.o] at S
    have aV:w9.cell? ⟨p,1,none⟩=some (.slice ba D.bs.length bc):=by have:=zv S 1 _ rfl;simpa using this
    have aM:=Hd aV
    have fz:=yp (i:=1) S
    have KS:=@Hd (∀w',Fr No z w'→w'.cell? ⟨p,1,none⟩=some (.slice ba D.bs.length bc)∧w'.rangeAt dq 0 A) (λw' f=>⟨f.cell CB.o id,za GR.o f id⟩)
    have fs:Fr (λj=>j=p) w9 (w9.setCell ⟨p,1,none⟩ (.slice B (D.bs.length+1) C)):=(Fr.refl (λj=>j=p) w9).setCell ⟨p,1,none⟩ (.inr rfl) _
    have FT:=@Hd (Fr (chV p U F G) z (w9.setCell ⟨p,1,none⟩ (.slice B (D.bs.length+1) C))) (F9.o.trans fs (λj _ e=>.inl e))
    have av:=@Hd (Fr (chV p U F G) w (w9.setCell ⟨p,1,none⟩ (.slice B (D.bs.length+1) C))) ((ad.o.trans0 N.o).trans FT.o (λ_ _ h=>h))
    have VV:=@Hd (∀j,j<z.heap.size→chV p U F (.slice B (D.bs.length+1) C) j→chV p U F G j) (λj c e=>by
     rcases e with e|e|e|e
     ·exact .inl e
     ·exact .inr (.inl e)
     ·exact .inr (.inr (.inl e))
     ·exact .inr (.inr (.inr ((N9.o j e).resolve_right (by omega)))))
    have aw:=@Hd (Fr (λj=>(Value.slice ba D.bs.length bc).ownBlock=some j∨j=p) z (w9.setCell ⟨p,1,none⟩ (.slice B (D.bs.length+1) C))) ((aP.o.mono (λj e=>.inl e)).trans fs (λj _ e=>.inr e))
    have aL:=@Hd (vo w0 (w9.setCell ⟨p,1,none⟩ (.slice B (D.bs.length+1) C)) p s U F (.slice B (D.bs.length+1) C) (css++[A]) ⟨R.S,D.bs++[R.d],M7⟩) ({
     obj:=by have:=heap_setCell_same w9 p 1 _ _ (.slice B (D.bs.length+1) C) aE.o;simpa using this
     set:=a.o.set.frV aw.o (λj c e=>e.elim (λe=>(a.o.rn j (by rw[E.o];exact e)).2.2 c) (λe=>a.o.up (e▸c))) (λj e=>e.elim (λe=>(ah.o.lt j e).1) (λe=>by have:=a.o.lo1;omega))
     row:=zb O9.o fs (λj c e=>(N9.o j c).elim (λh=>(a.o.rn j h).1 e) (λh=>by have:=yr a.o.obj;omega))
     cl:=by rw[length_append,length_append,a.o.cl];rfl
     c5:=λcs h=>(mem_append.1 h).elim (λh=>a.o.c5 cs h) (λh=>by simp at h;subst h;exact D5.o)
     data:=λi d cs h1 O=>by
      by_cases hi:i<D.bs.length
      ·have ao:D.bs[i]? =some d:=by rw[←h1];exact(List.getElem?_append_left hi).symm
       have aq:css[i]? =some cs:=by rw[←O];exact(List.getElem?_append_left (by rw[a.o.cl];exact hi)).symm
       exact(a.o.data i d cs ao aq).step FT.o (λj c e=>VV.o j c e)
      ·have aY:i=D.bs.length:=by have:=(List.getElem?_eq_some_iff.1 h1).1;simp only[length_append,List.length_singleton] at this;omega
       subst aY
       have ao:R.d=d:=by
        have:=h1
        simp only[List.getElem?_append_right (le_refl _),Nat.sub_self,List.getElem?_cons_zero,Option.some.injEq] at this
        exact this
       have aq:A=cs:=by
        have:=O
        rw[List.getElem?_append_right (by rw[a.o.cl];exact le_refl _),a.o.cl] at this
        simpa using this
       subst ao
       subst aq
       exact(KD.o.same N.o.of0).step (FT.o.mono (λj e=>.inl e)) (λj c e=>.inl (VV.o j c e))
     map:=a.o.map.keep aw.o (λe=>e.elim (λe=>(a.o.rn F (by rw[E.o];exact e)).2.1 rfl) (λe=>a.o.pm e.symm))
     pm:=a.o.pm
     up:=a.o.up
     um:=a.o.um
     rn:=λk hk=>(N9.o k hk).elim (λh=>a.o.rn k h) (λh=>⟨λe=>by have:=yr a.o.obj;omega,λe=>by have:=a.o.map.lt;omega,λe=>by have:=a.o.set.hi k e;omega⟩)
     lo1:=a.o.lo1
     lo2:=a.o.lo2})
    repeat((first|(refine yk rfl ?_;constructor;constructor;(focus(first|exact y5 (ty:=142) rfl (λw h=>h.2) uD rD (by rw[D5.o];exact ZO)|(rintro w' ⟨s1,s2⟩;exact goS))))|(refine yl rfl ?_));try simp only[Act.put,pA,pB,pC])
    (refine yf rfl (λK' hK'=>?_))
    refine yD (zK (t:=135) rfl rfl zfL zgo rfl (by decide) (by decide) D5.o) ?_
    refine hK'.out _ _ (λ_=>?_) (λhS=>?_)
    ·exact KS.o _ ((frN z).alloc _)
    try simp only[Act.put,pA,pB,pC]
    (refine yf rfl (λK' hK'=>?_))
    refine yE rfl rfl rfl A1.o ?_
    refine hK'.out _ _ (λ_=>?_) (λhS=>?_)
    ·exact⟨aM.o,aQ.o⟩
    try simp only[Act.put,pA,pB,pC]
    repeat((first|(refine yk rfl ?_;constructor;constructor;(focus(first|(rintro w' ⟨s1,s2⟩;exact goS))))|(refine yl rfl ?_));try simp only[Act.put,pA,pB,pC])
    (refine yf rfl (λK' hK'=>?_))
    go_simp
    refine hK'.out _ _ (λh=>absurd rfl h) (λhS=>?_)
    refine xV (hK.out _ _ ?_)
    go_wp2_with fail
    go_ret
    exact⟨by rw[aA.o];rfl,av.o,λ_=>⟨_,_,M7,aL.o,af.o,λj c=>(N9.o j c).imp_right (λh=>Nat.le_trans (ad.o.trans0 N.o).size h),A,rfl,(KD.o.same N.o.of0).step (FT.o.mono (λj e=>.inl e)) (λj c e=>e.imp (λe=>VV.o j c e) .inr)⟩,λh=>absurd aA.o h⟩
theorem zkH (w:World):(Instr.build 65 #[]).run prog w=.ok (.agg JC.toArray) w:=by kernel_rfl
theorem zjh:∀u∈JC,u.oneCell'=true:=by
 intro u a
 simp only[JC,mem_cons,not_mem_nil,or_false] at a
 rcases a with rfl|rfl|rfl<;>rfl
theorem zmE {q:Nat} {T:TypeId} {a b c d e:Value} (h:w.heap[q]? =some (.cells [a,b,c,d,e].toArray T (0,0))):w.rangeAt q 0 [a,b,c]:=λj v f=>by
 refine zv h j v ?_
 match j,f with
 |0,f=>exact f
 |1,f=>exact f
 |2,f=>exact f
theorem zlb {B m k g cap:Nat} {T:TypeId} {A C:List Value} (h:w.ownsRow B T k (.slice (some ⟨g,0,none⟩) (m+1) cap) (m+1) (A++C)) (d:A.length=m*k):w.ownsRow B T k (.slice (some ⟨g,0,none⟩) m cap) m A:=by
 rcases h.2 with⟨e,_⟩|⟨o,c,a,e,f,i,p,j,l,n⟩
 ·cases e
 ·injection e with b e2 e3
  injection b with b
  injection b with b
  subst b
  subst e3
  refine⟨d,.inr ⟨g,cap,a,rfl,f,i,by omega,j,l,?_⟩⟩
  have b:a.toList.take (m*k)=(a.toList.take ((m+1)*k)).take (m*k):=by rw[List.take_take,Nat.min_eq_left (Nat.mul_le_mul_right k (Nat.le_succ m))]
  rw[b,n,←d]
  simp
theorem zhW {n w:World} {p s k:Nat} {g:Value} {css:List (List Value)} {D:ChD} (h:vo n w p s U k g css D) (j:D.bs=[]):
  Calls prog 26 #[.pointer (some ⟨p,0,none⟩)] w λe w'=>e=.returned (.tuple #[.agg JC.toArray,.int .i64 9])∧Fr No w w':=by
 obtain⟨r,m,l⟩:=zg5
 have u:=zau
 have c:=Hd ((frN w).alloc (.cells JC.toArray 65))
 have B1:=Hd (ye w (.cells JC.toArray 65))
 obtain⟨o,q,a⟩:=h.row.slice.arg.form
 have c1:=(h.fr0 c.o).cells.2.1
 rw[a,j] at c1
 clear h a
 go_enter Tryz.func26,Tryz.ntmps26
 have⟨d,f⟩:=tZ2
 go_wp2_with ((first|((with_reducible refine zt ?_);clear d;refine zg rfl (yv (t:=65) rfl rfl (zkH _)) ?_)|((with_reducible refine zr ?_);clear f;refine zi rfl (zU (ty:=65) (b:=w.heap.size) (off:=0) (cs:=JC) rfl rfl rfl (yb B1.o (le_refl 3)) vz zjh) ?_));go_frame)
 refine bodyPost_ret (yt (P:=prog) (fn:=Tryz.f26) rfl _ rfl (yB B1.o rfl) m l vz rfl) rfl ⟨rfl,?_⟩
 exact c.o.trans (zy _ _ _ _) (λi hi e=>by omega)
def zl6 (w0 w:World) (p s mi:Nat) (U:Nat→Prop) (bv:Value) (css:List (List Value)) (D:ChD) (bs0:List yx) (d:yx) (e:Ending) (w':World):Prop:=
 ∃bcs bv' css' M',e=.returned (.tuple #[.agg bcs.toArray,.int .i64 0])∧vo w0 w' p s U mi bv' css' ⟨xP d.chg D.S,bs0,M'⟩∧(∀x v,(x,v)∈M'↔x∉d.ids∧(x,v)∈D.M)∧Kept (chV p U mi bv') w' (λw=>vG w d.blk bcs)∧Fr (chV p U mi bv) w w'∧bv'.ownBlock=bv.ownBlock∧∃tl,css=css'++[bcs++tl]
theorem zeP {p s v:Nat} {bv:Value} {css:List (List Value)} {D:ChD} (h:vo w0 w p s U v bv css D) {n:List yx} {d:yx} (F:D.bs=n++[d]) (hl:n.length≤2000) (hN:D.S.length+Jh d.chg≤100000) (ag:d.chg.length≤100000) (hI:d.ids.length≤100000):
  Calls prog 26 #[.pointer (some ⟨p,0,none⟩)] w (zl6 w0 w p s v U bv css D n d):=by
 obtain⟨dB,uB,rB⟩:=zg5
 obtain⟨dD,uD,rD⟩:=zeO
 have zB:=zau
 have zD:=zfR
 have r:D.bs.length=n.length+1:=by rw[F];simp
 obtain⟨m,hm⟩:∃m,m=n.length:=⟨_,rfl⟩
 rw[←hm] at r hl
 obtain⟨l,H,hcss⟩:∃l H,css=l++[H]:=by
  have aj:css≠[]:=λe=>by have:=h.cl;rw[e,r] at this;simp at this
  exact⟨css.dropLast,css.getLast aj,(List.dropLast_concat_getLast aj).symm⟩
 have o:l.length=m:=by have:=h.cl;rw[hcss,r] at this;simpa using this
 have R:D.bs[m]? =some d:=by rw[F,hm];simp
 have G:css[m]? =some H:=by rw[hcss,←o];simp
 have h5:H.length=5:=h.c5 H (by rw[hcss];simp)
 have KD:=Hd (h.data m d H R G)
 obtain⟨g,cap,hv,hr,-⟩:=yZ (f:=id) (k:=5) (by decide) h.c5 h.row G
 rw[r] at hv
 subst hv
 have V:=Hd ((frN w).alloc (.cells JC.toArray 65))
 have B1:=Hd (ye w (.cells JC.toArray 65))
 have E:=Hd h
 have q:=Hd (h.fr0 V.o)
 have ae:=Hd (KD.o.same V.o.of0)
 have R1:=@Hd ((w.alloc (.cells JC.toArray 65)).rangeAt g (m*5) H) (za hr V.o id)
 have c1:=q.o.cells.2.1
 have aa:=Hd h.hi
 have i1:(0:Int)≤(m:Int):=by omega
 have i2:(m:Int)<((m+1:Nat):Int):=by omega
 have af:=@Hd (∀w':World,w'.ownsRow w0.heap.size 142 5 (.slice (some ⟨g,0,none⟩) (m+1) cap) (m+1) (css.flatMap id)→w'.ownsRow w0.heap.size 142 5 (.slice (some ⟨g,0,none⟩) m cap) m (l.flatMap id)) (λw' hh=>zlb (C:=H) (by rw[hcss,List.flatMap_append] at hh;simpa using hh) (by rw[xY id 5 l (λx hx=>h.c5 x (by rw[hcss];simp[hx])),o]))
 have OD:=Hd KD.o.now.one
 have t:=@Hd (l.length=m∧(∀x∈l,x.length=5)∧∀(i:Nat) (d':yx) (cs:List Value),n[i]? =some d'→l[i]? =some cs→D.bs[i]? =some d'∧css[i]? =some cs) (⟨o,λx hx=>h.c5 x (by rw[hcss];simp[hx]),λi d' cs a b=>⟨by rw[F,List.getElem?_append_left (List.getElem?_eq_some_iff.1 a).1];exact a,by rw[hcss,List.getElem?_append_left (List.getElem?_eq_some_iff.1 b).1];exact b⟩⟩)
 have ad:=Hd r
 have HM:=Hd hm
 have Z:=Hd (And.intro R G)
 have M:=Hd (And.intro hN (And.intro ag hI))
 have Y:=Hd hcss
 clear h hr F hN ag hI hm hcss o R G r KD h5
 go_enter Tryz.func26,Tryz.ntmps26
 obtain⟨y,z,A,B,S,T,N,O,au⟩:=ae.o.now.form
 subst au
 have ao:=Hd (E.o.data m d _ (show D.bs[m]? =some d from Z.o.1) Z.o.2)
 have aw:(m:Int)≤(cap:Int):=by
  rcases q.o.row.2 with⟨e,_⟩|⟨g',av,az,e,Q,h2,h3,h4,h5,h6⟩
  ·cases e
  ·injection e with e1 e2 e3
   have:=ad.o
   omega
 have L:=Hd ((frN (w.alloc (.cells JC.toArray 65))).alloc (.cells ([.int .u64 d.blk.tag,.slice y d.blk.pay.length z,.slice A d.blk.txs.length B,.slice S d.ids.length T,.slice N d.chg.length O]).toArray 142))
 have BA:=Hd (ye (w.alloc (.cells JC.toArray 65)) (.cells ([.int .u64 d.blk.tag,.slice y d.blk.pay.length z,.slice A d.blk.txs.length B,.slice S d.ids.length T,.slice N d.chg.length O]).toArray 142))
 have ar:=(q.o.fr0 L.o).cells.2.1
 have c:=Hd (q.o.fr0 L.o)
 have fz:=yp (i:=1) c.o.obj
 have⟨K0,K1,K2,K3,K4,K5⟩:=tZ6
 go_wp2_with ((first|((with_reducible refine zt ?_);first|(clear K0;refine zg rfl (zX (ty:=142) rfl rfl R1.o uD rD ZO) ?_;clear c1;generalize aB:w.alloc (.cells JC.toArray 65)=w1 at*)|(clear K2;refine zg rfl (zX (ty:=142) rfl rfl (zv B3.o) uD rD ZO) ?_;clear fz ar;generalize aD:K.setCell ⟨p,1,none⟩ (.slice (some ⟨g,0,none⟩) m cap)=w3 at*)|(clear K4;refine znX rfl rfl rfl R8.o rfl ?_))|((with_reducible refine zr ?_);first|(clear K1;refine zi rfl (zj (w:=w1) (ty:=142) (cs:=[.int .u64 d.blk.tag,.slice y d.blk.pay.length z,.slice A d.blk.txs.length B,.slice S d.ids.length T,.slice N d.chg.length O]) rfl rfl rfl rfl ZO OD.o.2) ?_;generalize aC:w1.alloc (.cells ([.int .u64 d.blk.tag,.slice y d.blk.pay.length z,.slice A d.blk.txs.length B,.slice S d.ids.length T,.slice N d.chg.length O]).toArray 142)=K at*;generalize aA:w1.heap.size=dq at*;have I:Fr (λj=>j=p) K (K.setCell ⟨p,1,none⟩ (.slice (some ⟨g,0,none⟩) m cap)):=(Fr.refl (λj=>j=p) K).setCell ⟨p,1,none⟩ (.inr rfl) _;have ak:=@Hd (vo w0 (K.setCell ⟨p,1,none⟩ (.slice (some ⟨g,0,none⟩) m cap)) p s U v (.slice (some ⟨g,0,none⟩) m cap) l ⟨D.S,n,D.M⟩) ({obj:=(by have:=heap_setCell_same K p 1 _ _ (.slice (some ⟨g,0,none⟩) m cap) c.o.obj;simpa using this),set:=c.o.set.frV I (λj W e=>c.o.up (e▸W)) (λj e=>by have:=c.o.lo1;omega),row:=(by have Q:=zb (af.o K (by have:=c.o.row;rw[ad.o] at this;exact this)) I (λj W e=>(c.o.rn j W).1 e);rw[HM.o] at Q;rw[HM.o];exact Q),cl:=t.o.1.trans HM.o,c5:=t.o.2.1,data:=λi d' cs a b=>(c.o.data i d' cs (t.o.2.2 i d' cs a b).1 (t.o.2.2 i d' cs a b).2).same (I.mono (λj e=>.inl e)),map:=c.o.map.keep I (λe=>c.o.pm e.symm),pm:=c.o.pm,up:=c.o.up,um:=c.o.um,rn:=c.o.rn,lo1:=c.o.lo1,lo2:=c.o.lo2});have FS:=Hd I;have PQ:=@Hd (p≠dq∧¬chV p U v (.slice (some ⟨g,0,none⟩) m cap) dq) (⟨λe=>by have:=yr q.o.obj;omega,λe=>by have:=q.o.hi dq e;omega⟩);have B3:=Hd (I.obj BA.o (λe=>PQ.o.1 e.symm));have aq:=@Hd (Kept (chV p U v (.slice (some ⟨g,0,none⟩) m cap)) (K.setCell ⟨p,1,none⟩ (.slice (some ⟨g,0,none⟩) m cap)) (λw=>jG w d [.int .u64 d.blk.tag,.slice y d.blk.pay.length z,.slice A d.blk.txs.length B,.slice S d.ids.length T,.slice N d.chg.length O])) ((ae.o.same L.o.of0).same (I.mono (λj e=>.inl e)));clear I)|(clear K5;refine zi rfl (zU (ty:=65) (b:=w.heap.size) (off:=0) (cs:=[.int .u64 d.blk.tag,.slice y d.blk.pay.length z,.slice A d.blk.txs.length B]) rfl rfl rfl (yb BZ.o (le_refl 3)) vz (λu hu=>by simp only[mem_cons,not_mem_nil,or_false] at hu;rcases hu with rfl|rfl|rfl<;>rfl)) ?_))|(clear K3;go_at_call 60;refine(zfM ak.o aq.o M.o.1 M.o.2.1 M.o.2.2).mono ?_;rintro e w8 ⟨rfl,M8,ah,ai,-,f8⟩;have al:=Hd ah;have an:=Hd ai;have X:=Hd f8;clear ah ai f8;have B8:=Hd (X.o.obj B3.o PQ.o.2);have R8:=Hd (zmE B8.o);have BZ:=@Hd (w8.heap[w.heap.size]? =some (.cells JC.toArray 65 (0,0))) (X.o.obj (FS.o.obj (L.o.obj B1.o id) (λe=>by have:=yr E.o.obj;omega)) (λe=>by have:=aa.o _ e;omega))));go_frame)
 have fE:=zy w.heap.size [.int .u64 d.blk.tag,.slice y d.blk.pay.length z,.slice A d.blk.txs.length B] 0 w8
 have NQ:=@Hd (¬chV p U v (.slice (some ⟨g,0,none⟩) m cap) w.heap.size) (λe=>by have:=aa.o _ e;omega)
 have KF:=@Hd (Kept (λj=>chV p U v (.slice (some ⟨g,0,none⟩) m cap) j∨j=w.heap.size) w8 (λw=>vG w d.blk [.int .u64 d.blk.tag,.slice y d.blk.pay.length z,.slice A d.blk.txs.length B])) (by
  have Q:Kept (chV p U v (.slice (some ⟨g,0,none⟩) m cap)) w (λw=>jG w d [.int .u64 d.blk.tag,.slice y d.blk.pay.length z,.slice A d.blk.txs.length B,.slice S d.ids.length T,.slice N d.chg.length O]):=ao.o
  have h2:Kept (λj=>chV p U v (.slice (some ⟨g,0,none⟩) m cap) j∨j=w.heap.size) w8 (λw=>jG w d [.int .u64 d.blk.tag,.slice y d.blk.pay.length z,.slice A d.blk.txs.length B,.slice S d.ids.length T,.slice N d.chg.length O]):=Q.step (show Fr (chV p U v (.slice (some ⟨g,0,none⟩) m cap)) w w8 from(((V.o.trans0 L.o).of0.trans FS.o (λj _ e=>.inl e)).trans X.o (λ_ _ h=>h))) (λj W e=>e.resolve_right (by omega))
  exact h2.imp (λw' f hq=>by
   obtain⟨bcs,aE,aF,ax,ay,e,hb,_,_⟩:=hq
   obtain⟨aG,aH,aI,aJ,rfl⟩:=hb.form
   simp only[List.cons_append,List.nil_append,List.cons.injEq,and_true] at e
   obtain⟨-,e1,e2,-,-⟩:=e
   injection e1 with e11 _ e13
   injection e2 with e21 _ e23
   subst e11;subst e13;subst e21;subst e23
   exact hb))
 refine bodyPost_ret (yt (P:=prog) (fn:=Tryz.f26) rfl _ rfl (yB BZ.o rfl) uB rB vz rfl) rfl ⟨[.int .u64 d.blk.tag,.slice y d.blk.pay.length z,.slice A d.blk.txs.length B],.slice (some ⟨g,0,none⟩) m cap,l,M8,rfl,al.o.frV fE (λj W e=>NQ.o (e▸W)) (λj e=>by have:=E.o.fr.size;omega) (λi d' cs a b=>?_),an.o,λw' f=>KF.o w' ((fE.mono (λj e=>.inr e)).trans (f.mono (λj e=>.inl e)) (λ_ _ h=>h)),?_,rfl,_,Y.o⟩
 ·have ab:=t.o.2.2 i d' cs a b
  have Q:Kept (chV p U v (.slice (some ⟨g,0,none⟩) m cap)) w (λw=>jG w d' cs):=E.o.data i d' cs ab.1 ab.2
  exact Q.step ((((V.o.trans0 L.o).of0.trans FS.o (λj _ e=>.inl e)).trans X.o (λ_ _ h=>h)).trans fE (λi hi e=>by omega)) (λj _ e=>e)
 ·exact(((V.o.trans0 L.o).of0.trans FS.o (λj _ e=>.inl e)).trans X.o (λ_ _ h=>h)).trans fE (λi hi e=>by omega)
def Cn (w0 w:World) (p:Nat) (V:Nat→Prop) (S:List zn) (bs:List yx) (ids:List zf):Prop:=∃M,Ch w0 w p V ⟨S,bs,M⟩∧(∀x,x∈ids↔∃v,(x,v)∈M)∧∀x v,(x,v)∈M→0<v
theorem Cn.fr {b w:World} {S:List zn} {c:List yx} {a:List zf} (h:Cn b w p V S c a):Fr No b w:=by
 obtain⟨M,h,-⟩:=h
 exact Ch.fr h
theorem Cn.fr0 {c w w':World} {S:List zn} {b:List yx} {a:List zf} (h:Cn c w p V S b a) (f:Fr No w w'):Cn c w' p V S b a:=by
 obtain⟨M,h,r⟩:=h
 exact⟨M,h.fr0 f,r⟩
theorem Cn.lo {b w:World} {S:List zn} {c:List yx} {a:List zf} (h:Cn b w p V S c a):∀j,V j→b.heap.size≤j:=by
 obtain⟨M,h,-⟩:=h
 exact Ch.lo h
theorem Cn.hi {c w:World} {S:List zn} {b:List yx} {a:List zf} (h:Cn c w p V S b a):∀j,V j→j<w.heap.size:=by
 obtain⟨M,⟨s,U,e,d,css,h,rfl⟩,-⟩:=h
 exact h.hi
theorem zjS (w:World) {v:Value} {l:List yC} (c:xg w v l) (a:l.length≤256):
  Calls prog 44 #[v] w λe w'=>∃p,e=.returned (.tuple #[.pointer (some ⟨p,0,none⟩),.int .i64 0])∧∃V,Cn w w' p V (jQ [] (Zn yT l)) [] []:=
 (zhQ w c a).mono λe w' ⟨p,b,V,h⟩=>⟨p,b,V,[],h,by simp,by simp⟩
theorem zdf {d w:World} {S:List zn} {b:List yx} {a:List zf} (h:Cn d w p V S b a) {q:zx} (c:q.ok):Calls prog 23 #[.pointer (some ⟨p,0,none⟩),.agg (zm q).toArray] w λe w'=>e=.returned (.tuple #[.agg (zF (zZ S q)).toArray,.bool (yV S q)])∧Fr No w w':=by
 obtain⟨M,h,-⟩:=h
 exact zf3 h c
def R0 (S:List zn) (b:qf):DoR:=⟨if jD S (vH b)=0 then 0 else 10,JQ S (vH b),⟨b,[],if jD S (vH b)=0 then[⟨[],(vH b).map (·.at_)⟩] else[]⟩⟩
theorem zhY {A w:World} {S:List zn} {z:List yx} {a:List zf} (h:Cn A w p V S z a) {x:zf} (j:zV x):
  Calls prog 83 #[.pointer (some ⟨p,0,none⟩),.agg (zd x).toArray] w λe w'=>e=.returned (.bool (decide (x∈a)))∧Fr No w w':=by
 obtain⟨M,⟨s,U,k,B,css,h,-⟩,c,b⟩:=h
 have q:=Hd (zu j)
 have f:Fr No w (w.alloc (.cells (zd x).toArray 45)).drew:=((frN w).alloc _).drew
 have n:=Hd f
 have d:=h.fr0 f
 have m:=Hd d.cells.2.2
 have y:=Hd (za (zq w (zd x) 45) (frN _).drew id)
 obtain⟨v,hv⟩:∃v:Int,(Instr.lookup 129 (.map (some k)) (xL x) false).run prog (w.alloc (.cells (zd x).toArray 45)).drew=.ok (.int .i64 v) (w.alloc (.cells (zd x).toArray 45)).drew∧decide (0<v)=decide (x∈a):=by
  by_cases hin:x∈a
  ·obtain⟨v,i⟩:=(c x).1 hin
   have:=d.map.look xT.keyed Zw (λ_ _=>xf) YK (ym j) false (r:=some v) (λl=>⟨λe=>by rw[←Option.some.inj e];exact i,λg=>by rw[d.map.uniq i g]⟩)
   exact⟨v,by simpa using this,by simp[hin,b x v i]⟩
  ·have:=d.map.look xT.keyed Zw (λ_ _=>xf) YK (ym j) false (r:=none) (λl=>⟨λe=>(by cases e),λg=>absurd ((c x).2 ⟨l,g⟩) hin⟩)
   exact⟨0,by simpa using this,by simp[hin]⟩
 have u:=Hd hv.1
 have o:=Hd hv.2
 clear h d hv c b f
 go_enter Tryz.func83,Tryz.ntmps83
 go_wp2_with fail
 refine wrLx [ff,ff,ff,ff,ff,ff,ff,ff,ff,ff,ff,ff] (λw'=>w'.cell? ⟨p,2,none⟩=some (.map (some k))∧w'.rangeAt w.heap.size 0 (zd x)∧(Instr.lookup 129 (.map (some k)) (xL x) false).run prog w'=.ok (.int .i64 v) w') ?_ (λK hK=>?_)
 ·exact⟨m.o,y.o,u.o⟩
 repeat((first|(refine zk rfl ?_;constructor;constructor;(focus(first|exact zn0 rfl (λw h=>h.2.1) q.o|exact λw' h=>zY (t:=129) rfl rfl rfl h.2.2|(rintro w' ⟨C,D,E⟩;exact goS))))|(refine zl rfl ?_));try simp only[Act.put,pA,pB,pC])
 refine zN (hK.out _ _ ?_)
 go_wp2_with fail
 go_ret
 exact⟨by rw[←o.o];rfl,n.o⟩
def vq (l:List yC):Int:=(l.map (·.value)).sum
theorem zdC {l:List yC} {n:Nat} {x:yC} (h:l[n]? =some x):vq (l.take (n+1))=vq (l.take n)+x.value:=by
 unfold vq
 rw[take_add_one,h]
 simp
theorem zhz:∀ {l:List yC},(∀x∈l,0≤x.value∧jb x=false)→0≤vq l∧vq l≤1125899906842624*(l.length:Int)
 |[],_=>by simp[vq]
 |x::l,h=>by
  have c:=zhz (l:=l) (λy b=>h y (.tail _ b))
  have a:=h x (.head _)
  have d:x.value≤1125899906842624:=by
   have:=a.2
   unfold jb at this
   rw[Bool.or_eq_false_iff] at this
   have:=this.2
   simp at this
   omega
  have e:vq (x::l)=x.value+vq l:=by simp[vq]
  rw[e]
  simp only[List.length_cons]
  omega
def yR (t:TxD):Int:=
 if qK t=true then
  (if t.ins.length=0∨t.outs.length=0 then 9
   else if t.outs.any jb=true then 11
   else if 1125899906842624<vq t.outs then 11
   else if(z6 t).Nodup then 0 else 12)
 else 5
def Jk (w:World) (t:TxD) (e:Ending) (w':World):Prop:=e=.returned (.int .i64 (yR t))∧Fr No w w'
theorem Ql (w:World) {t:TxD} (ht:TxQ w t cs):
  Calls prog 29 #[.agg cs.toArray] w (Jk w t):=by
 have HT:=Hd ht
 obtain⟨I,L,Q,R,rfl,hv,hi,ho⟩:=ht
 have zI:=Yc
 have zO:=y3
 have F1:=Hd ((frN w).alloc (.cells #[.int .u32 t.ver,.slice I t.ins.length L,.slice Q t.outs.length R] 27))
 obtain⟨-,c1,c2,r0⟩:=qI w t.ver (.slice I t.ins.length L) (.slice Q t.outs.length R)
 have S:=Hd c1
 have C2:=Hd c2
 have R0:=Hd r0
 have HO:=Hd (ho.keep F1.o)
 have HF:=Hd (zb0 (w.alloc (.cells #[.int .u32 t.ver,.slice I t.ins.length L,.slice Q t.outs.length R] 27)) (HT.o.keep F1.o))
 clear hi ho hv c1 c2 r0
 show Calls prog 29 #[.agg #[.int .u32 t.ver,.slice I t.ins.length L,.slice Q t.outs.length R]] w _
 by_cases d:qK t=true
 rotate_left
 ·have B:qK t=false:=by simpa using d
  have r:=@Hd (∀w',Fr No w w'→Jk w t (.returned (.int .i64 5)) w') (λw' f=>⟨by simp[yR,B],f⟩)
  rw[B] at HF
  clear d B
  go_enter Tryz.func29,Tryz.ntmps29
  go_wp2_with (first|(refine znT rfl rfl rfl R0.o rfl ?_;generalize w.alloc (.cells #[.int .u32 t.ver,.slice I t.ins.length L,.slice Q t.outs.length R] 27)=w1 at*)|(go_at_call 64;refine HF.o.mono ?_;rintro e w2 ⟨rfl,p⟩;have a:=Hd p;have F:=Hd (F1.o.trans0 p);clear p;have d1:=a.o.cell S.o id;have d2:=a.o.cell C2.o id))
  go_ret
  exact r.o _ F.o
 obtain⟨hk,ak,aq⟩:=xe.1 d
 rw[d] at HF
 by_cases h0:t.ins.length=0
 ·have r:=@Hd (∀w',Fr No w w'→Jk w t (.returned (.int .i64 9)) w') (λw' f=>⟨by simp[yR,d,h0],f⟩)
  have jz:((t.ins.length:Int)==0)=true:=by simp[h0]
  clear hk ak aq d h0
  go_enter Tryz.func29,Tryz.ntmps29
  go_wp2_with (first|(refine znT rfl rfl rfl R0.o rfl ?_;generalize w.alloc (.cells #[.int .u32 t.ver,.slice I t.ins.length L,.slice Q t.outs.length R] 27)=w1 at*)|(go_at_call 64;refine HF.o.mono ?_;rintro e w2 ⟨rfl,p⟩;have a:=Hd p;have F:=Hd (F1.o.trans0 p);clear p;have d1:=a.o.cell S.o id;have d2:=a.o.cell C2.o id))
  go_ret
  exact r.o _ F.o
 have jz:((t.ins.length:Int)==0)=false:=by rw[beq_eq_false_iff_ne];omega
 by_cases h1:t.outs.length=0
 ·have r:=@Hd (∀w',Fr No w w'→Jk w t (.returned (.int .i64 9)) w') (λw' f=>⟨by simp[yR,d,h1],f⟩)
  have jy:((t.outs.length:Int)==0)=true:=by simp[h1]
  clear hk ak aq d h0 h1
  go_enter Tryz.func29,Tryz.ntmps29
  go_wp2_with (first|(refine znT rfl rfl rfl R0.o rfl ?_;generalize w.alloc (.cells #[.int .u32 t.ver,.slice I t.ins.length L,.slice Q t.outs.length R] 27)=w1 at*)|(go_at_call 64;refine HF.o.mono ?_;rintro e w2 ⟨rfl,p⟩;have a:=Hd p;have F:=Hd (F1.o.trans0 p);clear p;have d1:=a.o.cell S.o id;have d2:=a.o.cell C2.o id))
  go_ret
  exact r.o _ F.o
 have jy:((t.outs.length:Int)==0)=false:=by rw[beq_eq_false_iff_ne];omega
 have af:=@Hd ((∃x∈t.outs,jb x=true)→∀w',Fr No w w'→Jk w t (.returned (.int .i64 11)) w') (λh w' f=>⟨by
  have:t.outs.any jb=true:=List.any_eq_true.2 h
  unfold yR
  rw[if_pos d,if_neg (by omega),if_pos this],f⟩)
 have aG:=@Hd (t.outs.any jb=false→1125899906842624<vq t.outs→∀w',Fr No w w'→Jk w t (.returned (.int .i64 11)) w') (λh h' w' f=>⟨by
  unfold yR
  rw[if_pos d,if_neg (by omega),if_neg (by rw[h];simp),if_pos h'],f⟩)
 have aF:=@Hd (t.outs.any jb=false→¬1125899906842624<vq t.outs→∀w',Fr No w w'→Jk w t (.returned (.int .i64 (if(z6 t).Nodup then 0 else 12))) w') (λh h' w' f=>⟨by
  have e:yR t=if(z6 t).Nodup then 0 else 12:=by
   unfold yR
   rw[if_pos d,if_neg (by omega),if_neg (by rw[h];simp),if_neg h']
  rw[e],f⟩)
 clear hk d h0 h1
 go_enter Tryz.func29,Tryz.ntmps29
 go_wp2_with (first|(refine znT rfl rfl rfl R0.o rfl ?_;generalize w.alloc (.cells #[.int .u32 t.ver,.slice I t.ins.length L,.slice Q t.outs.length R] 27)=w1 at*)|(go_at_call 64;refine HF.o.mono ?_;rintro e w2 ⟨rfl,p⟩;have a:=Hd p;have F:=Hd (F1.o.trans0 p);clear p;have d1:=a.o.cell S.o id;have d2:=a.o.cell C2.o id))
 have FO:=Hd a.o
 clear d1 d2 jz jy
 go_loopw [3,25] (λsv iv wr=>∃n:Nat,iv=.int .i64 n∧n≤t.outs.length∧sv=.int .u64 (vq (t.outs.take n))∧(∀x∈t.outs.take n,jb x=false)∧Fr No w2 wr) (λ_ iv _=>t.outs.length-(intOf iv).toNat)
 case atStart=>exact⟨0,rfl,zero_le _,rfl,by simp,Fr.refl _ _⟩
 case round=>
  obtain⟨n,rfl,hn,rfl,A,fr⟩:=hrel
  have FR:=Hd fr
  have AL:=Hd A
  have aE:=Hd ((HO.o.keep a.o).keep fr)
  have E:=zhz (l:=t.outs.take n) (λx q=>⟨(HO.o.1 x (List.mem_of_mem_take q)).1.1,A x q⟩)
  rw[List.length_take] at E
  clear fr A
  by_cases X:n<t.outs.length
  ·have i1:(n:Int)<(t.outs.length:Int):=by omega
   obtain⟨x,q⟩:∃x,t.outs[n]? =some x:=⟨_,List.getElem?_eq_getElem X⟩
   obtain⟨bb,off,cap,hv,hr,-⟩:=aE.o.at_ q
   cases hv
   have g:=HO.o.1 x (mem_of_getElem? q)
   have R1:=Hd hr
   have G:=Hd (yq g)
   have FA:=Hd (FR.o.trans0 ((frN wr).alloc (.cells (zF x).toArray 58)))
   have n1:=(Xb wr g).1
   have SN:=Hd (zdC q)
   have HX:=Hd q
   have vv:=g.1
   clear hr g q
   by_cases u:jb x=true
   ·have r:=Hd (af.o ⟨x,mem_of_getElem? HX.o,u⟩)
    have aQ:x.value=0∨(x.value≠0∧1125899906842624<x.value):=by
     simp only[jb,Bool.or_eq_true,decide_eq_true_eq] at u
     by_cases h:x.value=0
     ·exact .inl h
     ·exact .inr ⟨h,u.resolve_left h⟩
    clear u E
    rcases aQ with hz|⟨hz,ax⟩
    ·have H:(x.value==0)=true:=by simpa using hz
     clear hz
     have⟨K0,K1⟩:=tZ2
     go_wp2_with ((first|((with_reducible refine zt ?_);clear K0;refine znU rfl rfl rfl R1.o G.o ?_)|((with_reducible refine zr ?_);clear K1;refine zn2 (w:=wr) (cs:=zF x) rfl rfl rfl rfl G.o yd ?_;generalize wr.alloc (.cells (zF x).toArray 58)=wA at*));go_frame)
     go_ret
     exact r.o _ (F.o.trans0 FA.o)
    ·have H:(x.value==0)=false:=by simpa using hz
     have aw:decide (1125899906842624<x.value)=true:=by simpa using ax
     clear hz ax
     have⟨K0,K1⟩:=tZ2
     go_wp2_with ((first|((with_reducible refine zt ?_);clear K0;refine znU rfl rfl rfl R1.o G.o ?_)|((with_reducible refine zr ?_);clear K1;refine zn2 (w:=wr) (cs:=zF x) rfl rfl rfl rfl G.o yd ?_;generalize wr.alloc (.cells (zF x).toArray 58)=wA at*));go_frame)
     go_ret
     exact r.o _ (F.o.trans0 FA.o)
   ·have b:jb x=false:=by simpa using u
    have H:(x.value==0)=false:=by
     unfold jb at b
     rw[Bool.or_eq_false_iff] at b
     simpa using b.1
    have aw:decide (1125899906842624<x.value)=false:=by
     unfold jb at b
     rw[Bool.or_eq_false_iff] at b
     exact b.2
    have aR:x.value≤1125899906842624:=by simp at aw;omega
    have es:(vq (t.outs.take n)+x.value) % 18446744073709551616=vq (t.outs.take n)+x.value:=by omega
    have AN:=@Hd (∀y∈t.outs.take (n+1),jb y=false) (λy Z=>by
     rw[take_add_one,HX.o] at Z
     rcases mem_append.1 Z with Z|Z
     ·exact AL.o y Z
     ·simp at Z;subst Z;exact b)
    clear u b E aR
    have⟨K0,K1⟩:=tZ2
    go_wp2_with ((first|((with_reducible refine zt ?_);clear K0;refine znU rfl rfl rfl R1.o G.o ?_)|((with_reducible refine zr ?_);clear K1;refine zn2 (w:=wr) (cs:=zF x) rfl rfl rfl rfl G.o yd ?_;generalize wr.alloc (.cells (zF x).toArray 58)=wA at*));go_frame)
    go_roundw
    case rel=>exact⟨n+1,by go_num,by omega,by rw[SN.o],AN.o,FA.o⟩
    case measure=>simp[intOf];omega
  ·have Y:n=t.outs.length:=by omega
   have i1:¬(n:Int)<(t.outs.length:Int):=by omega
   rw[Y,take_length] at AL
   have m:t.outs.any jb=false:=List.any_eq_false.2 (λx q=>by rw[AL.o x q];decide)
   have V:t.outs.take n=t.outs:=by rw[Y,take_length]
   rw[V]
   have FW:=Hd (F.o.trans0 FR.o)
   have ab:=Hd (a.o.trans0 FR.o)
   by_cases hs:1125899906842624<vq t.outs
   ·have r:=Hd (aG.o m hs)
    have js:decide (1125899906842624<vq t.outs)=true:=by simpa using hs
    clear hs m E V
    go_wp2
    go_ret
    exact r.o _ FW.o
   have js:decide (1125899906842624<vq t.outs)=false:=by simpa using hs
   have r:=Hd (aF.o m (by omega))
   have cI:=ab.o.cell S.o id
   have ms:=zak wr
   have aN:(wr.alloc (.map #[] 0)).cell? ⟨w.heap.size,1,none⟩=some (.slice I t.ins.length L):=((frN wr).alloc (.map #[] 0)).cell cI id
   clear hs m E V
   go_wp2_with fail
   clear ms cI aN
   have FM:=Hd ((frN wr).alloc (.map #[] 0))
   have aC:=@Hd (zbC (wr.alloc (.map #[] 0)) wr.heap.size []) (yI.made wr)
   have ay:=Hd (FW.o.trans0 FM.o)
   have aa:=Hd ((ab.o.trans0 FM.o).cell S.o id)
   generalize wr.alloc (.map #[] 0)=w3 at*
   generalize ao:wr.heap.size=mb at*
   have NM:=@Hd (w.heap.size<mb) (by have:=FO.o.size;have h2:=FR.o.size;have h3:=World.block_lt_of_cell? _ _ S.o;have:=ao;simp only at h3;omega)
   have aM:=aa.o
   go_wp2_with fail
   clear aM
   go_loopw [48] (λiv wr=>∃(n:Nat) (M:List (zx×Int)),iv=.int .i64 n∧n≤t.ins.length∧zbC wr mb M∧(∀k,(∃c,(k,c)∈M)↔k∈(z6 t).take n)∧M.length≤n∧Fr (λj=>j=mb) w3 wr) (λiv _=>t.ins.length-(intOf iv).toNat)
   case atStart=>exact⟨0,[],rfl,zero_le _,aC.o,by simp,le_refl _,Fr.refl _ _⟩
   case round=>
    obtain⟨n,M,rfl,hn,ar,an,C,fr⟩:=hrel
    have FQ:=Hd fr
    have v:=Hd ar
    have ae:=Hd an
    have T:=Hd C
    have FB:=@Hd (Fr No w wr) (ay.o.trans fr (λi hi e=>by have:=NM.o;omega))
    clear fr ar an C
    by_cases X:n<t.ins.length
    ·have i1:(n:Int)<(t.ins.length:Int):=by omega
     obtain⟨x,q⟩:∃x,t.ins[n]? =some x:=⟨_,List.getElem?_eq_getElem X⟩
     have az:=HT.o.keep FB.o
     obtain⟨aT,aU,aV,aW,e2,-,aj,-⟩:=az
     simp only[txC,List.cons.injEq,and_true] at e2
     obtain⟨-,e2,-⟩:=e2
     injection e2 with e21 _ e23
     subst e21;subst e23
     obtain⟨bb,off,cap,cs,hv,hr,ka,kc,rfl,g,al⟩:=aj.at_ q
     cases hv
     have R1:=Hd hr
     have aK:=Hd g
     have G:=Hd (jf g (.slice ka x.key.length kc))
     have PL:=Hd (zW g)
     have aO:(z6 t).take (n+1)=(z6 t).take n++[x.from_]:=by rw[take_add_one];simp[z6,q]
     have fA:=((frN wr).alloc (.cells (inC x.from_ (.slice ka x.key.length kc)).toArray 112)).drew
     have RB:=Hd (za (XF wr (kv:=.slice ka x.key.length kc) g).1 (frN _).drew id)
     have QW:=@Hd (mb<wr.heap.size) (v.o.lt)
     obtain⟨v0,w7,s,M1,H,N,W,ag,O,P,av⟩:=(v.o.keep fA id).bump jF.keyed Xh (λ_ _=>vD) (z:=0) YK (xu aK.o) (by unfold maxLen;have:=T.o;omega)
     obtain⟨w8,M',au,ah,hU,ai,aP⟩:=av (IntKind.i64.wrap (v0+1)) w7 No (Fr.refl _ _) id
     have aI:=Hd (O _ (v.o.keep fA id))
     have aJ:=Hd (P _ ag)
     have ad:=Hd N
     have aH:=Hd au
     have aL:=Hd (za RB.o W.fr (λe=>by have:=QW.o;omega))
     have aD:=Hd ah
     have F8:=@Hd (Fr (λj=>j=mb) w3 w8) (((FQ.o.trans0 fA).trans W.fr (λi hi e=>e)).trans ai.fr (λi hi e=>e))
     have aA:=@Hd (∀k,(∃c,(k,c)∈M')↔k∈(z6 t).take (n+1)) (λk=>by
      rw[aO,mem_append,List.mem_singleton,←ae.o k]
      constructor
      ·rintro⟨c,hc⟩
       rcases(hU k c).1 hc with⟨rfl,_⟩|⟨_,h⟩
       ·exact .inr rfl
       ·exact .inl ⟨c,h⟩
      ·rintro(⟨c,hc⟩|rfl)
       ·by_cases e:k=x.from_
        ·subst e;exact⟨_,(hU _ _).2 (.inl ⟨rfl,rfl⟩)⟩
        ·exact⟨c,(hU _ _).2 (.inr ⟨e,hc⟩)⟩
       ·exact⟨_,(hU _ _).2 (.inl ⟨rfl,rfl⟩)⟩)
     have aB:=@Hd (M'.length≤n+1) (by have:=T.o;omega)
     clear hr q al g aj fA N W ag O P av au ah hU ai aP H
     go_wp2_with (first|(refine znS rfl rfl rfl R1.o G.o ?_)|(refine zn1 (w:=wr) (cs:=inC x.from_ (.slice ka x.key.length kc)) rfl rfl rfl rfl G.o Jm ?_))
     refine yw [ff,ff,ff,ff,ff,tt,ff,tt] (λw'=>w'.rangeAt wr.heap.size 0 (zm x.from_)∧(Instr.lookup 148 (.map (some mb)) (Jd x.from_) false).run prog w'=.ok (.int .i64 v0) w') (by kernel_rfl) (by kernel_rfl) 7 (by kernel_rfl) (by kernel_rfl) ?_ (λK hK=>?_)
     ·exact⟨RB.o,aI.o⟩
     repeat((first|(refine yk rfl ?_;constructor;constructor;(focus(first|exact znZ rfl (λw h=>h.1) PL.o|exact λw' h=>zY (t:=148) rfl rfl rfl h.2|(rintro w' ⟨s1,s2⟩;exact goS))))|(refine yl rfl ?_));try simp only[Act.put,pA,pB,pC])
     (refine yf rfl (λK' hK'=>?_))
     refine yD (Va rfl rfl rfl ad.o) ?_
     refine hK'.out _ _ (λ_=>?_) (λhS=>?_)
     ·exact⟨aL.o,aJ.o⟩
     try simp only[Act.put,pA,pB,pC]
     repeat((first|(refine yk rfl ?_;constructor;constructor;(focus(first|(rintro w' ⟨s1,s2⟩;exact goS))))|(refine yl rfl ?_));try simp only[Act.put,pA,pB,pC])
     (refine yf rfl (λK' hK'=>?_))
     refine xp (Xk rfl rfl rfl rfl aH.o) ?_
     refine hK'.out _ _ (λh=>absurd rfl h) (λhS=>?_)
     refine xV (hK.out _ _ ?_)
     go_wp2
     go_roundw
     case rel=>exact⟨n+1,M',by go_num,by omega,aD.o,aA.o,aB.o,F8.o⟩
     case measure=>simp[intOf];omega
    ·have Y:n=t.ins.length:=by omega
     have i1:¬(n:Int)<(t.ins.length:Int):=by omega
     have D:∀x,x∈M.map (·.1)↔x∈z6 t:=by
      intro x
      rw[←show(z6 t).take n=z6 t from List.take_of_length_le (by simp[z6];omega),←ae.o x]
      simp
     have o:=zaP v.o.nodup D
     rw[List.length_map,show(z6 t).length=t.ins.length by simp[z6]] at o
     have LR:=Hd (λty=>v.o.lenRun Xh ty)
     have aS:=FQ.o.cell aa.o (λe=>by have:=NM.o;have e2:w.heap.size=mb:=e;omega)
     have C:=T.o
     by_cases hnd:(z6 t).Nodup
     ·have j1:¬(M.length:Int)<(t.ins.length:Int):=by have:=o.2 hnd;omega
      have U:=@Hd (∀w',Fr No w w'→Jk w t (.returned (.int .i64 0)) w') (λw' f=>by have:=r.o w' f;rwa [if_pos hnd] at this)
      clear o D hnd C
      go_wp2_with (refine zg rfl (jr rfl rfl (LR.o _)) ?_)
      go_ret
      exact U.o _ FB.o
     ·have j1:(M.length:Int)<(t.ins.length:Int):=by have:M.length≠t.ins.length:=λe=>hnd (o.1 e);omega
      have U:=@Hd (∀w',Fr No w w'→Jk w t (.returned (.int .i64 12)) w') (λw' f=>by have:=r.o w' f;rwa [if_neg hnd] at this)
      clear o D hnd C
      go_wp2_with (refine zg rfl (jr rfl rfl (LR.o _)) ?_)
      go_ret
      exact U.o _ FB.o
end Go.Proofs.YtbcllfjmabiafaaGreatDoor
