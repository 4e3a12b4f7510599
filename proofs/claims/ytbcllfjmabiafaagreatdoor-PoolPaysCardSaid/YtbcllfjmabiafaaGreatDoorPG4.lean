/- A struct literal of its first parts; the rest is zero. -/
import Derived.Lib.Bytealg
import Derived.Test.YtbcllfjmabiafaaGreatDoorPG2
import Derived.Test.YtbcllfjmabiafaaGreatDoorPG3
set_option linter.unusedVariables false
set_option linter.unusedSimpArgs false
set_option linter.unnecessarySimpa false
set_option linter.all false
set_option maxRecDepth 20000
set_option maxHeartbeats 16000000
namespace Go
open Go.RowKit Go.Maps Go.MapKept
theorem XD {P:Program} {t:TypeId} {w:World} {o:Oper} {a:Operand→Value} {parts:Array (Nat×Operand)} {vs:List (Nat×Value)} {cs:List Value} (b:o.op=.build t parts) (c:(parts.toList.map λ(i,x)=>(i,a x))=vs) (h:P.built t vs=some cs.toArray):
  (execOp a o).run P w=.ok (.value (.agg cs.toArray)) w:=by
 have:=run_build w t (parts.map λ(i,x)=>(i,a x)) _ (by rw[Array.toList_map,c];exact h)
 simp only[execOp,b,Sem.run_bind,this,Result.andThen_ok,Sem.run_pure]
end Go
namespace Go.Proofs.YtbcllfjmabiafaaGreatDoor
open Go Go.RowKit Go.Maps Go.MapKept
open Go.Proofs.Tryz(prog)
open List(mem_map getElem?_eq_getElem mem_append mem_cons length_map length_take getElem?_map setIfInBounds_toArray)
open Nat(le_refl zero_add)
variable {B l:List Int} {m p:Nat} {v:Value} {w w':World}
theorem Qf {P:Program} {ops:Array Oper} {rest:List Oper} {o:Oper} {a:Act} {Q:Exit→Act→World→Prop} {s x:Operand} {e:Array TypeId} {d f v:Value} (i:o.guard=none)
  (c:o.op=.call {callee:=.builtin .copy,args:= #[s,x],argTypes:=e}) (j:a.eval s=d) (k:a.eval x=f)
  (b:(Builtin.copy_ e o.type #[d,f]).run P w=.ok v w') (h:wpList P ops Q rest (a.put o.dst v) w'):wpList P ops Q (o::rest) a w:=by
 refine wpList_plain i λK' hK'=>?_
 unfold Oper.wp
 have g:(execOp a.eval o).run P w=.ok (.value v) w':=by
  simp[execOp,c,resolve,j,k,invoke,builtin,b,Result.andThen]
 rw[g]
 exact hK' _ _ h
theorem zaZ {n:Int} (a:0≤n) (b:n<18446744073709551616):bits .and .u64 n 63=n % 64:=bits_mask .u64 64 (by decide) (λn a b=>by simp[IntKind.wrap,IntKind.bits,IntKind.signed];omega) 6 (by decide) n a (by omega)
def Jj (w:World) (p:Nat) (v:Value) (l:List Int):Prop:=(l=[]∧∃a c,v=.slice a 0 c)∨∃b o c,v=.slice (some ⟨b,o,none⟩) l.length c∧b≠p∧w.rangeAt b o (l.map zQ)∧l.length≤c
theorem Jj.keep (h:Jj w p v l) (f:Fr (λj=>j=p) w w'):Jj w' p v l:=by
 rcases h with h|⟨b,o,c,d,a,e,g⟩
 ·exact .inl h
 ·exact .inr ⟨b,o,c,d,a,za e f a,g⟩
theorem Jj.form (h:Jj w p v l):∃a c,v=.slice a l.length c:=by
 rcases h with⟨rfl,a,c,h⟩|⟨b,o,c,d,-⟩
 ·exact⟨a,c,h⟩
 ·exact⟨_,c,d⟩
theorem zjJ:(prog.info? 245).map (·.size)=some 8:=by kernel_rfl
theorem zjs:∃d,prog.underlying 245=some d∧d.isRow=true:=jR (by kernel_rfl)
def zmK:Value→Nat
 |.slice _ n _=>n
 |_=>0
theorem zbo (hg:Zh w) (R:3<w.heap.size) {h:j5} (ok:vX h) (N:w.heap[p]? =some (.cells (yP h).toArray 248 (0,0))) (hp:p≠2∧p≠3) (hl:Jj w p v l) (hn:h.n+l.length≤4611686018427387904):
  Calls prog 149 #[.pointer (some ⟨p,0,none⟩),v] w λe w'=>e=.returned (.tuple #[])∧w'.heap[p]? =some (.cells (yP (l.foldl qp h)).toArray 248 (0,0))∧Fr (λj=>j=p) w w':=by
 have HG:=Hd hg
 have HW:=Hd R
 have V:=Hd hp
 have OK:=Hd ok
 have HB:=Hd N
 have HL:=Hd hl
 clear hg R hp ok N
 obtain⟨va,vc,rfl⟩:=hl.form
 clear hl
 go_enter Tryz.func149,Tryz.ntmps149
 refine wp_block ?_
 go_loopw [1] (λpv wr=>∃d r:List Int,l=d++r∧Jj wr p pv r∧wr.heap[p]? =some (.cells (yP (d.foldl qp h)).toArray 248 (0,0))∧Fr (λj=>j=p) w wr) (λpv _=>zmK pv)
 case atStart=>exact⟨[],l,rfl,HL.o,HB.o,Fr.refl _ _⟩
 case round=>
  obtain⟨d,r,rfl,E,N,fr⟩:=hrel
  have L:=Hd fr
  have s:=Hd N
  have g:=Hd (OK.o.adds (l:=d))
  have ND:=Hd (Qh d h)
  clear fr N
  generalize ae:d.foldl qp h=a at*
  by_cases hr:r=[]
  ·subst hr
   obtain⟨a0,c0,rfl⟩:=E.form
   clear E
   have j0:¬(0:Int)<0:=by omega
   go_wp2
   (try simp only[Exit.inBlock,Exit.then])
   refine bodyPost_end (results_none rfl _ _ _) rfl ?_
   exact⟨rfl,s.o,L.o⟩
  ·obtain⟨b,o,c,rfl,O,Q,ar⟩:=E.resolve_left (λe=>hr e.1)
   have r0:0<r.length:=by cases r with|nil=>exact absurd rfl hr|cons _ _=>simp
   have i1:(0:Int)<(r.length:Int):=by omega
   have aq:a.n+r.length≤4611686018427387904:=by rw[ND.o];simp only[List.length_append] at hn;omega
   obtain⟨t,ht⟩:∃t,t=a.n % 64:=⟨_,rfl⟩
   have av:t<64:=by omega
   have e1:bits .and .u64 (a.n:Int) 63=(t:Int):=by rw[zaZ (by omega) (by omega),ht];omega
   have al:prog.arrayLen 246=64:=by kernel_rfl
   have t0:(0:Int)≤(t:Int):=by omega
   have t1:(t:Int)≤64:=by omega
   have tn:(t:Int).toNat=t:=by omega
   have tm:¬(64=t):=by omega
   have S1:=@Hd (∀w,(Instr.sliceAt 246 (.pointer (some ⟨p,8,none⟩)) (some (.int .i64 t)) none none).run prog w=.ok (.slice (some ⟨p,8+t,none⟩) (64-t) (64-t)) w) (λw=>by
    have i8:(sizeOf (prog.elem 246)).run prog w=.ok 1 w:=by kernel_rfl
    rw[run_sliceAt_array_l w _ _ (by kernel_rfl) .i64 t t0 (by rw[al];exact t1),i8]
    simp[slicedAt,al,tm,Yn])
   have s1:=S1.o
   obtain⟨h8,ad,ak⟩:=vM g.o s.o
   obtain⟨k,hk⟩:∃k,k=Nat.min r.length (64-t):=⟨_,rfl⟩
   have k1:0<k∧k≤r.length∧k≤64-t:=by rw[hk];refine⟨?_,Nat.min_le_left _ _,Nat.min_le_right _ _⟩;exact Nat.lt_min.2 ⟨r0,by omega⟩
   have T:=@Hd (((r.take k).map zQ).length=k) (by rw[length_map,length_take];omega)
   have Z:=Hd (run_copy_cells (P:=prog) wr 110 110 3 5 p (8+t) (64-t) (64-t) ⟨b,o,none⟩ r.length c ((r.take k).map zQ) Tryz.underlying110 (by kernel_rfl) (by rw[T.o,hk]) (λj v n=>by
     rw[Yn]
     refine Q j v ?_
     rw[getElem?_map] at n⊢
     rw[List.getElem?_take] at n
     split at n
     ·exact n
     ·simp at n) (λj n=>by
     have af:t+j<64:=by rw[T.o] at n;omega
     have:=ad (t+j) _ (getElem?_eq_getElem (by rw[length_map,g.o.op];exact af))
     rw[show 8+t+j=8+(t+j) by omega,this]
     rfl) (λj n=>yp s.o) (λv hv=>by obtain⟨x,-,rfl⟩:=mem_map.1 hv;rfl))
   rw[T.o] at Z
   obtain⟨H,D⟩:∃H:Option Addr,H=if c=k then some ⟨b,o,none⟩ else some ⟨b,o+k,none⟩:=⟨_,rfl⟩
   have S2:=@Hd (∀w,(Instr.slice 110 (.slice (some ⟨b,o,none⟩) r.length c) (some (.int .i64 k)) none none).run prog w=.ok (.slice H (r.length-k) (c-k)) w) (λw=>by
    have i8:(sizeOf (prog.elem 110)).run prog w=.ok 1 w:=by kernel_rfl
    rw[Go.run_slice_l (P:=prog) w 110 (some ⟨b,o,none⟩) r.length c (by kernel_rfl) IntKind.i64 (k:Int) (by omega) (by omega),i8,D]
    simp[sliced,Yn])
   have A2:=@Hd (c≠k→H=some ⟨b,o+k,none⟩) (λh=>by rw[D,if_neg h])
   clear D
   have s2:=S2.o
   have kk:(0:Int)≤(k:Int):=by omega
   have G:=@Hd ((wr.setCells p (8+t) ((r.take k).map zQ)).heap[p]? =some (.cells (yP ⟨a.st,Xe a.op t (r.take k),a.n⟩).toArray 248 (0,0))) (by
    have:=xE p 248 ((r.take k).map zQ) (8+t) wr _ s.o
    rw[this]
    have e:=zfA (r.take k) a.op t (a.st.map Xg) [.int .u64 a.n] (by rw[length_take,g.o.op];omega)
    rw[length_map,g.o.st] at e
    unfold yP
    rw[List.toList_toArray,e])
   have FC:=Hd (zy p ((r.take k).map zQ) (8+t) wr)
   have y:=@Hd (vX ⟨a.st,Xe a.op t (r.take k),a.n⟩) (⟨g.o.st,by rw[YD];exact g.o.op⟩)
   obtain⟨z,X⟩:∃z,z=(a.n+k) % 64:=⟨_,rfl⟩
   have e3:((a.n:Int)+(k:Int)) % 18446744073709551616=(a.n:Int)+(k:Int):=by omega
   have e2:bits .and .u64 ((a.n:Int)+(k:Int)) 63=(z:Int):=by rw[zaZ (by omega) (by omega),X];omega
   have NX:=@Hd ((d++r.take k).foldl qp h=zhH a (r.take k)) (by
    rw[List.foldl_append,ae]
    exact zbH _ _ (by intro e;have:=T.o;rw[e] at this;simp at this;omega) (by rw[length_take];omega))
   have AC:=@Hd (zhH a (r.take k)=⟨if z=0 then ju a.st (Xe a.op t (r.take k)) else a.st,Xe a.op t (r.take k),a.n+k⟩) (by
    have ag:(r.take k).length=k:=by rw[length_take];omega
    unfold zhH
    rw[ag,←X,←ht])
   have SP:=@Hd (d++r=(d++r.take k)++r.drop k) (by rw[List.append_assoc,List.take_append_drop])
   have BN:=@Hd (∀W,Fr (λj=>j=p) wr W→Jj W p (.slice H (r.length-k) (c-k)) (r.drop k)) (λW f=>by
    have ah:(r.drop k).length=r.length-k:=List.length_drop
    by_cases hck:c=k
    ·exact .inl ⟨List.eq_nil_of_length_eq_zero (by omega),H,c-k,by rw[show r.length-k=0 by omega]⟩
    ·refine .inr ⟨b,o+k,c-k,by rw[A2.o hck,ah],O,?_,by omega⟩
     refine za (λj v n=>?_) f O
     rw[getElem?_map,List.getElem?_drop] at n
     have:=Q (k+j) v (by rw[getElem?_map];exact n)
     rwa [show o+(k+j)=o+k+j by omega] at this)
   have ao:=k1.1
   clear ht hk
   by_cases hz0:z=0
   ·have j2:((z:Int)==0)=true:=by rw[hz0];rfl
    have au:a.st=a.st:=rfl
    clear X
    go_upto_region 6 with((with_reducible refine yg 21 ?_);refine Qf rfl rfl rfl rfl Z.o ?_;generalize wr.setCells p (8+t) ((r.take k).map zQ)=wc at*;have M:=(vM y.o G.o).2.2;have ab:=yp (i:=72) G.o)
    have A:=@Hd ((d++r.take k).foldl qp h=⟨ju a.st (Xe a.op t (r.take k)),Xe a.op t (r.take k),a.n+k⟩) (by rw[NX.o,AC.o,if_pos hz0])
    have fs:Fr (λj=>j=p) wc (wc.setCell ⟨p,72,none⟩ (.int .u64 ((a.n:Int)+(k:Int)))):=(Fr.refl (λj=>j=p) wc).setCell ⟨p,72,none⟩ (.inr rfl) _
    have F:=@Hd (Fr (λj=>j=p) wr (wc.setCell ⟨p,72,none⟩ (.int .u64 ((a.n:Int)+(k:Int))))) (FC.o.trans fs (λ_ _ h=>h))
    have m:=@Hd (vX ⟨a.st,Xe a.op t (r.take k),a.n+k⟩) (⟨y.o.st,y.o.op⟩)
    have H9:=@Hd ((wc.setCell ⟨p,72,none⟩ (.int .u64 ((a.n:Int)+(k:Int)))).heap[p]? =some (.cells (yP ⟨a.st,Xe a.op t (r.take k),a.n+k⟩).toArray 248 (0,0))) (by
     have:=heap_setCell_same wc p 72 _ _ (.int .u64 ((a.n:Int)+(k:Int))) G.o
     rw[this]
     congr 2
     simp only[yP,setIfInBounds_toArray]
     rw[List.set_append_right _ _ (by simp[g.o.st,YD,g.o.op])]
     simp[g.o.st,YD,g.o.op])
    have u:=Hd g.o.st
    have B:=Hd m.o.op
    generalize Xe a.op t (r.take k)=q at*
    generalize wc.setCell ⟨p,72,none⟩ (.int .u64 ((a.n:Int)+(k:Int)))=I at*
    have BK:=Hd (λ(w:World) (h1:Zh w) (h2:3<w.heap.size)=>zhN h1 h2 u.o B.o)
    have C:=Hd (zan a.st q)
    generalize ju a.st q=S at*
    have HD:=Hd ((frN I).drew.obj H9.o id)
    have GD:=@Hd (Zh I.drew) ((((HG.o.keep L.o (λe=>V.o.1 e.symm) (λe=>V.o.2 e.symm)).keep F.o (λe=>V.o.1 e.symm) (λe=>V.o.2 e.symm)).keep (frN I).drew id id))
    have SZ:=@Hd (3<I.drew.heap.size) (by have:=HW.o;have:=L.o.size;have:=F.o.size;have:=(frN I).drew.size;omega)
    obtain⟨d8,y8,r8⟩:=zjs
    obtain⟨an,aj,ai⟩:=zjr
    have L8:=@Hd ((a.st.map Xg).length=8) (by rw[length_map];exact u.o)
    have aa:=@Hd ((q.map zQ).length=64) (by rw[length_map];exact B.o)
    refine yw [ff,ff,ff,ff,ff,ff,ff,ff,ff,tt,ff,ff,tt] (λw'=>w'.rangeAt p 0 (a.st.map Xg)∧w'.rangeAt p 8 (q.map zQ)) (by kernel_rfl) (by kernel_rfl) 12 (by kernel_rfl) (by kernel_rfl) ?_ (λK hK=>?_)
    ·exact⟨(vM m.o HD.o).1,(vM m.o HD.o).2.1⟩
    repeat((first|(refine yk rfl ?_;constructor;constructor;(focus(first|exact y5 (ty:=245) rfl (λw h=>h.1) y8 r8 (by rw[L8.o];exact zjJ)|exact y5 (ty:=246) rfl (λw h=>h.2) aj ai (by rw[aa.o];exact zjI)|(rintro w' -;exact goS))))|(refine yl rfl ?_));try simp only[Act.put,pA,pB,pC])
    (refine yf rfl (λK' hK'=>?_))
    go_simp
    refine(BK.o _ GD.o SZ.o).mono ?_
    rintro e' Y ⟨rfl,f6⟩
    have F6:=Hd f6
    have U:=Hd (f6.obj HD.o id)
    clear f6
    refine hK'.out _ _ (λ_=>?_) (λhS=>?_)
    ·exact⟨(vM m.o U.o).1,(vM m.o U.o).2.1⟩
    try simp only[Act.put,pA,pB,pC]
    repeat((first|(refine yk rfl ?_;constructor;constructor;(focus(first|(rintro w' -;exact goS))))|(refine yl rfl ?_));try simp only[Act.put,pA,pB,pC])
    (refine yf rfl (λK' hK'=>?_))
    refine xp (zU (ty:=245) (b:=p) (off:=0) (cs:=S.map Xg) rfl rfl rfl (yb U.o (by simp[yP,u.o,B.o,C.o])) (by rw[length_map,C.o];exact zjJ) (λv hv=>by obtain⟨x,-,rfl⟩:=mem_map.1 hv;rfl)) ?_
    refine hK'.out _ _ (λh=>absurd rfl h) (λhS=>?_)
    refine xV (hK.out _ _ ?_)
    have FE:=@Hd (Fr (λj=>j=p) wr (Y.setCells p 0 (S.map Xg))) (((F.o.trans0 (frN I).drew).trans0 F6.o).trans (zy p _ 0 Y) (λ_ _ h=>h))
    have HE:=@Hd ((Y.setCells p 0 (S.map Xg)).heap[p]? =some (.cells (yP ((d++r.take k).foldl qp h)).toArray 248 (0,0))) (by
     rw[A.o]
     have:=xE p 248 (S.map Xg) 0 Y _ U.o
     refine this.trans ?_
     congr 2
     have e:=jt (S.map Xg) [] (a.st.map Xg) (q.map zQ++[.int .u64 ((a.n+k:Nat):Int)]) (by rw[length_map,length_map,C.o,u.o])
     simp only[List.nil_append,List.length_nil] at e
     simp only[yP,List.append_assoc]
     rw[e])
    go_wp2
    go_roundw
    case rel=>exact⟨d++r.take k,r.drop k,SP.o,BN.o _ FE.o,HE.o,L.o.trans FE.o (λ_ _ h=>h)⟩
    case measure=>show r.length-k<r.length;omega
   ·have j2:((z:Int)==0)=false:=by rw[beq_eq_false_iff_ne];omega
    have A:=@Hd ((d++r.take k).foldl qp h=⟨a.st,Xe a.op t (r.take k),a.n+k⟩) (by rw[NX.o,AC.o,if_neg hz0])
    clear X
    go_wp2_with ((with_reducible refine yg 21 ?_);refine Qf rfl rfl rfl rfl Z.o ?_;generalize wr.setCells p (8+t) ((r.take k).map zQ)=wc at*;have M:=(vM y.o G.o).2.2;have ab:=yp (i:=72) G.o)
    have fs:Fr (λj=>j=p) wc (wc.setCell ⟨p,72,none⟩ (.int .u64 ((a.n:Int)+(k:Int)))):=(Fr.refl (λj=>j=p) wc).setCell ⟨p,72,none⟩ (.inr rfl) _
    have F:=@Hd (Fr (λj=>j=p) wr (wc.setCell ⟨p,72,none⟩ (.int .u64 ((a.n:Int)+(k:Int))))) (FC.o.trans fs (λ_ _ h=>h))
    have H9:=@Hd ((wc.setCell ⟨p,72,none⟩ (.int .u64 ((a.n:Int)+(k:Int)))).heap[p]? =some (.cells (yP ((d++r.take k).foldl qp h)).toArray 248 (0,0))) (by
     rw[A.o]
     have:=heap_setCell_same wc p 72 _ _ (.int .u64 ((a.n:Int)+(k:Int))) G.o
     rw[this]
     congr 2
     simp only[yP,setIfInBounds_toArray]
     rw[List.set_append_right _ _ (by simp[g.o.st,YD,g.o.op])]
     simp[g.o.st,YD,g.o.op])
    go_roundw
    case rel=>exact⟨d++r.take k,r.drop k,SP.o,BN.o _ F.o,H9.o,L.o.trans F.o (λ_ _ h=>h)⟩
    case measure=>show r.length-k<r.length;omega
def Yh:j5:=⟨ziN,List.replicate 64 0,0⟩
theorem Qp:vX Yh:=⟨rfl,by simp[Yh]⟩
theorem zlv (h:Zh w):w.rangeAt 2 0 (ziN.map Xg):=λj v a=>by
 rw[getElem?_map] at a
 cases hx:ziN[j]? with
 |none=>rw[hx] at a;cases a
 |some x=>
  rw[hx] at a
  cases a
  have:=h.i j x hx
  rw[zero_add]
  exact this
theorem zdT:prog.built 248 [(0,.agg (ziN.map Xg).toArray)]=some (yP Yh).toArray:=by kernel_rfl
theorem zjR (a:Zh w):Calls prog 119 #[] w λe w'=>e=.returned (.pointer (some ⟨w.heap.size,0,none⟩))∧w'=w.alloc (.cells (yP Yh).toArray 248):=by
 have R:=Hd (zlv a)
 clear a
 obtain⟨d,c,b⟩:=zjs
 go_enter Tryz.func119,Tryz.ntmps119
 go_wp2_with (first|((with_reducible refine yg 1 ?_);refine zg rfl (zX (ty:=245) rfl rfl R.o c b (by kernel_rfl)) ?_)|((with_reducible refine yg 2 ?_);refine zg rfl (XD (t:=248) rfl rfl zdT) ?_))
 go_ret
 exact⟨rfl,rfl⟩
def Zy (w:World) (p:Nat) (v:Value) (L:List (List Int)):Prop:=
 ∃va vc,v=.slice va L.length vc∧∀(i:Nat) (l:List Int),L[i]? =some l→∃b off pv,va=some ⟨b,off,none⟩∧b≠p∧w.cell? ⟨b,off+i,none⟩=some pv∧Jj w p pv l
theorem Zy.keep {L:List (List Int)} (h:Zy w p v L) (f:Fr (λj=>j=p) w w'):Zy w' p v L:=by
 obtain⟨m,n,e,h⟩:=h
 refine⟨m,n,e,λi l hi=>?_⟩
 obtain⟨b,off,k,c,a,d,g⟩:=h i l hi
 exact⟨b,off,k,c,a,f.cell d a,g.keep f⟩
theorem ziZ (z:Zh w) (m:3<w.heap.size) {h:j5} (ok:vX h) (g:w.heap[p]? =some (.cells (yP h).toArray 248 (0,0))) (B:p≠2∧p≠3) {L:List (List Int)} (A:Zy w p v L) (Y:L.length≤1000000) (hn:h.n+L.flatten.length≤4611686018427387904):
  Calls prog 120 #[.pointer (some ⟨p,0,none⟩),v] w λe w'=>e=.returned (.int .i64 0)∧w'.heap[p]? =some (.cells (yP (L.flatten.foldl qp h)).toArray 248 (0,0))∧Fr (λj=>j=p) w w':=by
 have I:=Hd z
 have M:=Hd m
 have r:=Hd B
 have O:=Hd ok
 have G:=Hd g
 have K:=Hd A
 obtain⟨va,vc,rfl,-⟩:=A
 clear z m B ok g
 go_enter Tryz.func120,Tryz.ntmps120
 go_wp2
 go_loopw [11] (λu wr=>∃n:Nat,u=.int .i64 n∧n≤L.length∧wr.heap[p]? =some (.cells (yP ((L.take n).flatten.foldl qp h)).toArray 248 (0,0))∧Fr (λj=>j=p) w wr) (λu _=>L.length-(intOf u).toNat)
 case atStart=>exact⟨0,rfl,Nat.zero_le _,G.o,Fr.refl _ _⟩
 case round=>
  obtain⟨n,rfl,S,g,fr⟩:=hrel
  have d:=Hd fr
  have f:=Hd g
  clear fr g
  by_cases k:n<L.length
  ·have U:(n:Int)<(L.length:Int):=by omega
   obtain⟨l,o⟩:∃l,L[n]? =some l:=⟨_,getElem?_eq_getElem k⟩
   obtain⟨V,W,T,i⟩:=K.o.keep d.o
   obtain⟨b,off,pv,t,R,c1,c⟩:=i n l o
   cases T
   subst t
   obtain⟨pa,pc,rfl⟩:=c.form
   have C:=Hd c
   have E:=@Hd ((L.take (n+1)).flatten.foldl qp h=l.foldl qp ((L.take n).flatten.foldl qp h)) (by rw[List.take_add_one,o];simp)
   have N:=@Hd (((L.take n).flatten.foldl qp h).n+l.length≤4611686018427387904) (by
    rw[Qh]
    have:L=L.take n++l::L.drop (n+1):=by
     have y:=(List.take_append_drop n L).symm
     rw[List.drop_eq_getElem_cons k,(List.getElem?_eq_some_iff.1 o).2] at y
     exact y
    have Q:=congrArg (λX=>X.flatten.length) this
    simp only[List.flatten_append,List.flatten_cons,List.length_append] at Q
    omega)
   have s:=Hd (O.o.adds (l:=(L.take n).flatten))
   have F:=Hd (I.o.keep d.o (λe=>r.o.1 e.symm) (λe=>r.o.2 e.symm))
   have P:=@Hd (3<wr.heap.size) (by have:=M.o;have:=d.o.size;omega)
   generalize (L.take n).flatten.foldl qp h=Z at*
   clear c i o
   go_wp2_with (go_at_call 149;refine(zbo F.o P.o s.o f.o r.o C.o N.o).mono ?_;rintro e w2 ⟨rfl,a,x⟩;rw[←E.o] at a;have q:=Hd a;have D:=Hd (d.o.trans x (λ_ _ h=>h));clear a x)
   go_roundw
   case rel=>exact⟨n+1,by simp,by omega,q.o,D.o⟩
   case measure=>show L.length-(n+1)<L.length-n;omega
  ·have U:¬(n:Int)<(L.length:Int):=by omega
   have H:=@Hd (wr.heap[p]? =some (.cells (yP (L.flatten.foldl qp h)).toArray 248 (0,0))) (by
    have:=f.o
    rwa [show L.take n=L by rw[show n=L.length by omega,List.take_length]] at this)
   go_wp2
   go_ret
   exact⟨rfl,H.o,d.o⟩
def zab (n:Nat):Nat:=(120-n % 64) % 64
theorem zj0 (n:Nat):(n+zab n) % 64=56:=by unfold zab;omega
theorem zlc {n z:Nat} (h:z<zab n):(n+z) % 64≠56:=by unfold zab at h;omega
def zcy (n:Nat):List Int:=[((n:Int)*8 % 18446744073709551616) / 72057594037927936 % 256,((n:Int)*8 % 18446744073709551616) / 281474976710656 % 256,((n:Int)*8 % 18446744073709551616) / 1099511627776 % 256,((n:Int)*8 % 18446744073709551616) / 4294967296 % 256,((n:Int)*8 % 18446744073709551616) / 16777216 % 256,((n:Int)*8 % 18446744073709551616) / 65536 % 256,((n:Int)*8 % 18446744073709551616) / 256 % 256,((n:Int)*8 % 18446744073709551616) % 256]
def Vg (x:Int):List Int:=[x / 16777216 % 256,x / 65536 % 256,x / 256 % 256,x % 256]
def Yj (h:j5):j5:=(zcy h.n).foldl qp ((List.replicate (zab (h.n+1)) 0).foldl qp (qp h 128))
def zen (h:j5):List Int:=(Yj h).st.flatMap Vg
def qE (l:List Int):List Int:=zen (l.foldl qp Yh)
def vQ (l:List Int):List Int:=qE (qE l)
def Yz (B:List Int) (m:Nat):List Int:=B.take m++List.replicate (32-m) 0
theorem zfh (a:B.length=32) (b:m≤32):(Yz B m).length=32:=by simp[Yz];omega
theorem V9 (c:B.length=32) (d:m<32):(Yz B m).set m (B.getD m 0)=Yz B (m+1):=by
 unfold Yz
 have a:32-m=(32-(m+1))+1:=by omega
 have b:(B.take m).length=m:=by simp;omega
 rw[a,List.replicate_succ,List.set_append_right _ _ (by omega),b,Nat.sub_self,List.set_cons_zero,List.take_add_one,List.append_assoc]
 simp[List.getD_eq_getElem?_getD,getElem?_eq_getElem (show m<B.length by omega)]
theorem zbZ:∀(S:List Int),(S.flatMap Vg).length=4*S.length
 |[]=>rfl
 |x::S=>by
  rw[List.flatMap_cons,List.length_append,zbZ S,List.length_cons]
  have:(Vg x).length=4:=rfl
  omega
theorem flat_get:∀(S:List Int) (i k:Nat),k<4→i<S.length→(S.flatMap Vg).getD (4*i+k) 0=(Vg (S.getD i 0)).getD k 0
 |[],_,_,_,h=>absurd h (by simp)
 |x::S,0,k,hk,_=>by
  rcases(show k=0∨k=1∨k=2∨k=3 by omega) with rfl|rfl|rfl|rfl<;>rfl
 |x::S,i+1,k,hk,h=>by
  have ih:=flat_get S i k hk (by simpa using h)
  have e:4*(i+1)+k=(4*i+k)+4:=by omega
  rw[List.flatMap_cons,e]
  exact ih
theorem zjY (a:B.length=32):Yz B 32=B:=by
 unfold Yz
 rw[List.take_of_length_le (by omega)]
 simp
theorem zbz (a:B.length=32) (b:m<32):∃x,((Yz B m).map zQ)[m]? =some (.int .u8 x):=
 ⟨(Yz B m)[m]'(by rw[zfh a (by omega)];exact b),by rw[getElem?_map,getElem?_eq_getElem (by rw[zfh a (by omega)];exact b)];rfl⟩
theorem zk3 {S:List Int} (hS:S.length=8) {i:Nat} (hi:i<8) (w:World):(Instr.index 245 (.agg (S.map Xg).toArray) (.int .i64 i)).run prog w=.ok (.int .u32 (S.getD i 0)) w:=by
 have b:(0≤(i:Int)∧(i:Int)<((8:Nat):Int)):=by omega
 have c:(sizeOf 24).run prog w=.ok 1 w:=by kernel_rfl
 simp[Instr.index,run_underlying Tryz.underlying245,asIntOf,b,c,part,go_sem]
 have a:i<S.length:=by omega
 rw[getElem?_eq_getElem a]
 simp[hi,Xg]
theorem zb6:(prog.info? 248).map (·.size)=some 73:=by kernel_rfl
theorem zgb:∃d,prog.underlying 248=some d∧d.isRow=true:=jR (by kernel_rfl)
theorem zeV {h:j5}:∀u∈yP h,u.oneCell'=true:=λu a=>by
 simp only[yP,mem_append,mem_map,List.mem_singleton] at a
 rcases a with(⟨x,-,rfl⟩|⟨x,-,rfl⟩)|rfl<;>rfl
theorem zbQ (w:World) (x:Int) (a:p≠w.heap.size):Jj (w.alloc (.cells #[.int .u8 x] 5)) p (.slice (some ⟨w.heap.size,0,none⟩) 1 1) [x]:=
 .inr ⟨w.heap.size,0,1,rfl,λe=>a e.symm,zq w [Value.int .u8 x] 5,le_refl _⟩
def xG:Array Value:=((List.replicate 32 (0:Int)).map zQ).toArray
def zkA:Array Value:=(yP ⟨List.replicate 8 0,List.replicate 64 0,0⟩).toArray
theorem zfP:zkA.size=73:=by kernel_rfl
def zfQ:Array Value:=((List.replicate 8 (0:Int)).map zQ).toArray
def szL (n i:Nat):List Int:=(zcy n).take i++List.replicate (8-i) 0
def ze7 (w:World) (p N:Nat):Nat:=match w.cell? ⟨p,72,none⟩ with
 |some (.int _ n)=>N-n.toNat
 |_=>0
theorem qH:(prog.info? 45).map (·.size)=some 32:=by kernel_rfl
theorem zbU:∃d,prog.underlying 45=some d∧d.isRow=true:=jR (by kernel_rfl)
theorem zkp (hg:Zh w) (aj:3<w.heap.size) {h:j5} (ok:vX h) (hb:w.heap[p]? =some (.cells (yP h).toArray 248 (0,0))) (hp:p≠2∧p≠3) (hn:h.n≤1000000000000):
  Calls prog 121 #[.pointer (some ⟨p,0,none⟩)] w λe w'=>e=.returned (.tuple #[.agg ((zen h).map zQ).toArray,.int .i64 0])∧Fr No w w':=by
 have HG:=Hd hg
 have I:=Hd aj
 have OK:=Hd ok
 have HB:=Hd hb
 obtain⟨dH,yH,rH⟩:=zgb
 have zH:∀w,(zeroValue 248).run prog w=.ok (.agg zkA) w:=λw=>by kernel_rfl
 have aB:∀w,(zeroValue 45).run prog w=.ok (.agg xG) w:=λw=>by kernel_rfl
 have RH:=@Hd (∀W,Fr No w W→W.rangeAt p 0 (yP h)) (λW f=>vj (f.obj hb id))
 have HL:=Hd (zeU ok)
 clear hg aj hp ok hb
 go_enter Tryz.func121,Tryz.ntmps121
 have F1:=@Hd (Fr No w (w.alloc (.cells xG 45))) ((frN w).alloc _)
 have B1:=Hd (ye w (.cells xG 45))
 have o:=@Hd (w.heap.size<(w.alloc (.cells xG 45)).heap.size) (by simp)
 go_wp2_with (first|((with_reducible refine yg 16 ?_);refine zg rfl (zX (ty:=248) rfl rfl (RH.o _ F1.o) yH rH (by rw[HL.o];exact zb6)) ?_;generalize w.alloc (.cells xG 45)=Q at*;generalize ay:w.heap.size=q2 at*)|((with_reducible refine zr ?_);refine zi rfl (zj (w:=Q) (ty:=248) (cs:=yP h) rfl rfl rfl (by rw[HL.o];exact zfP) (by rw[HL.o];exact zb6) zeV) ?_;have B2:=Hd (ye Q (.cells (yP h).toArray 248));have F2:=@Hd (Fr No Q (Q.alloc (.cells (yP h).toArray 248))) ((frN Q).alloc _);have Q2:=@Hd (Q.heap.size<(Q.alloc (.cells (yP h).toArray 248)).heap.size) (by simp);generalize Q.alloc (.cells (yP h).toArray 248)=w2 at*;generalize ax:Q.heap.size=g at*)|(go_at_call 149;refine(zbo (p:=g) (((HG.o.keep F1.o id id).keep F2.o id id).keep ((frN w2).alloc (.cells #[.int .u8 128] 5)) id id) (by have:=o.o;have:=Q2.o;have:=I.o;simp;omega) OK.o (((frN w2).alloc (.cells #[.int .u8 128] 5)).obj B2.o id) ⟨by have:=o.o;have:=I.o;omega,by have:=o.o;have:=I.o;omega⟩ (zbQ w2 128 (by have:=Q2.o;omega)) (by simp;omega)).mono ?_;rintro e R ⟨rfl,af,f3⟩;have B3:=Hd af;have Z:=@Hd (Fr (λj=>j=g) w2 R) ((((frN w2).alloc (.cells #[.int .u8 128] 5)).of0 (W:=λj=>j=g)).trans f3 (λ_ _ h=>h));clear af f3))
 have aa:=@Hd (Zh R) (((HG.o.keep F1.o id id).keep F2.o id id).keep Z.o (by have:=o.o;have:=I.o;omega) (by have:=o.o;have:=I.o;omega))
 have C:=@Hd (g≠2∧g≠3∧3<R.heap.size∧g<R.heap.size) (⟨by have:=o.o;have:=I.o;omega,by have:=o.o;have:=I.o;omega,by have:=o.o;have:=I.o;have:=Q2.o;have:=Z.o.size;omega,by have:=Q2.o;have:=Z.o.size;omega⟩)
 have ad:=Hd (OK.o.adds (l:=[128]))
 have N1:=@Hd ((([128]:List Int).foldl qp h).n=h.n+1) (rfl)
 have H1:=@Hd (([128]:List Int).foldl qp h=qp h 128) (rfl)
 generalize ([128]:List Int).foldl qp h=a at*
 have pl:zab a.n<64:=by unfold zab;omega
 have n1:a.n≤1000000000001:=by rw[N1.o];omega
 go_loopw [19] (λ_ wr=>∃z:Nat,z≤zab a.n∧wr.heap[g]? =some (.cells (yP ((List.replicate z 0).foldl qp a)).toArray 248 (0,0))∧Fr (λj=>j=g) R wr) (λ_ wr=>ze7 wr g (a.n+zab a.n))
 case atStart=>exact⟨0,Nat.zero_le _,B3.o,Fr.refl _ _⟩
 case round=>
  obtain⟨z,hz,X,fz⟩:=hrel
  have T:=Hd fz
  have BZ:=Hd X
  have L:=Hd (ad.o.adds (l:=List.replicate z 0))
  have NZ:=@Hd (((List.replicate z 0).foldl qp a).n=a.n+z) (by rw[Qh,List.length_replicate])
  have SZ:=@Hd ((List.replicate (z+1) 0).foldl qp a=([0]:List Int).foldl qp ((List.replicate z 0).foldl qp a)) (by rw[List.replicate_succ',List.foldl_append])
  have HX:=@Hd ((List.replicate z 0).foldl qp a=(List.replicate z 0).foldl qp a) (rfl)
  generalize ai:(List.replicate z 0).foldl qp a=hh at*
  clear HX
  have HX:=Hd ai
  clear ai
  obtain⟨-,-,aq⟩:=vM L.o X
  have LM:=@Hd (ze7 wr g (a.n+zab a.n)=a.n+zab a.n-(a.n+z)) (by unfold ze7;rw[aq,NZ.o];simp only[];omega)
  clear fz X
  obtain⟨m,hm⟩:∃m,m=hh.n % 64:=⟨_,rfl⟩
  have e1:bits .and .u64 (hh.n:Int) 63=(m:Int):=by have:=NZ.o;rw[zaZ (by omega) (by omega),hm];omega
  by_cases hzp:z=zab a.n
  ·have au:m=56:=by rw[hm,NZ.o,hzp];exact zj0 _
   subst au
   have j1:(((56:Nat):Int)==56)=true:=rfl
   have z8:∀w,(zeroValue 250).run prog w=.ok (.agg zfQ) w:=λw=>by kernel_rfl
   have F4:=@Hd (Fr No wr (wr.alloc (.cells zfQ 250))) ((frN wr).alloc _)
   have B4:=Hd (ye wr (.cells zfQ 250))
   have M:=@Hd (g<wr.heap.size) (by have:=C.o.2.2.2;have:=T.o.size;omega)
   have PP:=@Hd (p<w.heap.size∧p≠g) (⟨yr HB.o,by have:=yr HB.o;have:=o.o;omega⟩)
   have ak:=@Hd ((wr.alloc (.cells zfQ 250)).cell? ⟨p,72,none⟩=some (.int .u64 h.n)) (F4.o.cell (T.o.cell (Z.o.cell (F2.o.cell (F1.o.cell (vM OK.o HB.o).2.2 id) id) PP.o.2) PP.o.2) id)
   clear hm
   go_wp2
   generalize wr.alloc (.cells zfQ 250)=w4 at*
   generalize az:wr.heap.size=r at*
   go_loopw [25] (λE wi=>∃i:Nat,E=.int .i64 i∧i≤8∧wi.heap[r]? =some (.cells ((szL h.n i).map zQ).toArray 250 (0,0))∧Fr (λj=>j=r) w4 wi) (λE _=>8-(intOf E).toNat)
   case atStart=>exact⟨0,rfl,by omega,B4.o,Fr.refl _ _⟩
   case round=>
    obtain⟨i,rfl,hi,N,fi⟩:=hrel
    have H:=Hd fi
    have K:=Hd N
    have PQ:=@Hd (p≠r) (by have:=PP.o.1;have:=o.o;have:=M.o;have:=Q2.o;omega)
    have c7:=fi.cell ak.o PQ.o
    have ar:=λi=>yp (i:=i) N
    have q:=vj N
    clear fi N
    by_cases h8:i<8
    ·rcases(show i=0∨i=1∨i=2∨i=3∨i=4∨i=5∨i=6∨i=7 by omega) with rfl|rfl|rfl|rfl|rfl|rfl|rfl|rfl
     ·have d:=q 0 (.int .u8 0) rfl
      simp only[zero_add] at d
      clear q
      have c:=@Hd (∀v:Int,v=((h.n:Int)*8 % 18446744073709551616) / 72057594037927936 % 256→some (Obj.cells (((szL h.n 0).map zQ).toArray.setIfInBounds 0 (.int .u8 v)) 250 (0,0))=some (Obj.cells ((szL h.n 1).map zQ).toArray 250 (0,0))) (λv e=>by subst e;rfl)
      go_wp2
      go_roundw
      case rel=>exact⟨1,rfl,by omega,(heap_setCell_same wr r 0 _ _ _ K.o).trans (c.o _ (by omega)),H.o.setCell _ (.inr rfl) _⟩
      case measure=>simp[intOf]
     ·have d:=q 1 (.int .u8 0) rfl
      simp only[zero_add] at d
      clear q
      have c:=@Hd (∀v:Int,v=((h.n:Int)*8 % 18446744073709551616) / 281474976710656 % 256→some (Obj.cells (((szL h.n 1).map zQ).toArray.setIfInBounds 1 (.int .u8 v)) 250 (0,0))=some (Obj.cells ((szL h.n 2).map zQ).toArray 250 (0,0))) (λv e=>by subst e;rfl)
      go_wp2
      go_roundw
      case rel=>exact⟨2,rfl,by omega,(heap_setCell_same wr r 1 _ _ _ K.o).trans (c.o _ (by omega)),H.o.setCell _ (.inr rfl) _⟩
      case measure=>simp[intOf]
     ·have d:=q 2 (.int .u8 0) rfl
      simp only[zero_add] at d
      clear q
      have c:=@Hd (∀v:Int,v=((h.n:Int)*8 % 18446744073709551616) / 1099511627776 % 256→some (Obj.cells (((szL h.n 2).map zQ).toArray.setIfInBounds 2 (.int .u8 v)) 250 (0,0))=some (Obj.cells ((szL h.n 3).map zQ).toArray 250 (0,0))) (λv e=>by subst e;rfl)
      go_wp2
      go_roundw
      case rel=>exact⟨3,rfl,by omega,(heap_setCell_same wr r 2 _ _ _ K.o).trans (c.o _ (by omega)),H.o.setCell _ (.inr rfl) _⟩
      case measure=>simp[intOf]
     ·have d:=q 3 (.int .u8 0) rfl
      simp only[zero_add] at d
      clear q
      have c:=@Hd (∀v:Int,v=((h.n:Int)*8 % 18446744073709551616) / 4294967296 % 256→some (Obj.cells (((szL h.n 3).map zQ).toArray.setIfInBounds 3 (.int .u8 v)) 250 (0,0))=some (Obj.cells ((szL h.n 4).map zQ).toArray 250 (0,0))) (λv e=>by subst e;rfl)
      go_wp2
      go_roundw
      case rel=>exact⟨4,rfl,by omega,(heap_setCell_same wr r 3 _ _ _ K.o).trans (c.o _ (by omega)),H.o.setCell _ (.inr rfl) _⟩
      case measure=>simp[intOf]
     ·have d:=q 4 (.int .u8 0) rfl
      simp only[zero_add] at d
      clear q
      have c:=@Hd (∀v:Int,v=((h.n:Int)*8 % 18446744073709551616) / 16777216 % 256→some (Obj.cells (((szL h.n 4).map zQ).toArray.setIfInBounds 4 (.int .u8 v)) 250 (0,0))=some (Obj.cells ((szL h.n 5).map zQ).toArray 250 (0,0))) (λv e=>by subst e;rfl)
      go_wp2
      go_roundw
      case rel=>exact⟨5,rfl,by omega,(heap_setCell_same wr r 4 _ _ _ K.o).trans (c.o _ (by omega)),H.o.setCell _ (.inr rfl) _⟩
      case measure=>simp[intOf]
     ·have d:=q 5 (.int .u8 0) rfl
      simp only[zero_add] at d
      clear q
      have c:=@Hd (∀v:Int,v=((h.n:Int)*8 % 18446744073709551616) / 65536 % 256→some (Obj.cells (((szL h.n 5).map zQ).toArray.setIfInBounds 5 (.int .u8 v)) 250 (0,0))=some (Obj.cells ((szL h.n 6).map zQ).toArray 250 (0,0))) (λv e=>by subst e;rfl)
      go_wp2
      go_roundw
      case rel=>exact⟨6,rfl,by omega,(heap_setCell_same wr r 5 _ _ _ K.o).trans (c.o _ (by omega)),H.o.setCell _ (.inr rfl) _⟩
      case measure=>simp[intOf]
     ·have d:=q 6 (.int .u8 0) rfl
      simp only[zero_add] at d
      clear q
      have c:=@Hd (∀v:Int,v=((h.n:Int)*8 % 18446744073709551616) / 256 % 256→some (Obj.cells (((szL h.n 6).map zQ).toArray.setIfInBounds 6 (.int .u8 v)) 250 (0,0))=some (Obj.cells ((szL h.n 7).map zQ).toArray 250 (0,0))) (λv e=>by subst e;rfl)
      go_wp2
      go_roundw
      case rel=>exact⟨7,rfl,by omega,(heap_setCell_same wr r 6 _ _ _ K.o).trans (c.o _ (by omega)),H.o.setCell _ (.inr rfl) _⟩
      case measure=>simp[intOf]
     ·have d:=q 7 (.int .u8 0) rfl
      simp only[zero_add] at d
      clear q
      have c:=@Hd (∀v:Int,v=(h.n:Int)*8 % 18446744073709551616 % 256→some (Obj.cells (((szL h.n 7).map zQ).toArray.setIfInBounds 7 (.int .u8 v)) 250 (0,0))=some (Obj.cells ((szL h.n 8).map zQ).toArray 250 (0,0))) (λv e=>by subst e;rfl)
      go_wp2
      go_roundw
      case rel=>exact⟨8,rfl,by omega,(heap_setCell_same wr r 7 _ _ _ K.o).trans (c.o _ (by omega)),H.o.setCell _ (.inr rfl) _⟩
      case measure=>simp[intOf]
    ·obtain rfl:i=8:=by omega
     have i1:¬((8:Nat):Int)<8:=by omega
     have sl:∀w,(Instr.sliceAt 250 (.pointer (some ⟨r,0,none⟩)) none none none).run prog w=.ok (.slice (some ⟨r,0,none⟩) 8 8) w:=λw=>by kernel_rfl
     have BY:=@Hd (Jj wr g (.slice (some ⟨r,0,none⟩) 8 8) (zcy h.n)) (.inr ⟨r,0,8,rfl,by have:=M.o;omega,q,le_refl _⟩)
     have ae:=@Hd ((zcy h.n).foldl qp hh=Yj h) (by rw[←HX.o,hzp,N1.o,H1.o];rfl)
     have ao:=Hd (L.o.adds (l:=zcy h.n))
     have NP:=@Hd (hh.n+(zcy h.n).length≤4611686018427387904) (by have:=NZ.o;have:(zcy h.n).length=8:=rfl;omega)
     have FA:=@Hd (Fr (λj=>j=g∨j=r) R wr) (((T.o.mono (λ_ h=>.inl h)).trans (F4.o.of0 (W:=λj=>j=g∨j=r)) (λ_ _ h=>h)).trans H.o (λ_ _ h=>.inr h))
     have al:=@Hd (Zh wr) (aa.o.keep FA.o (by have:=o.o;have:=I.o;have:=M.o;have:=C.o;omega) (by have:=o.o;have:=I.o;have:=M.o;have:=C.o;omega))
     have S4:=@Hd (3<wr.heap.size) (by have:=C.o.2.2.1;have:=FA.o.size;omega)
     have BP:=@Hd (wr.heap[g]? =some (.cells (yP hh).toArray 248 (0,0))) (H.o.obj (F4.o.obj BZ.o id) (by have:=M.o;omega))
     clear c7 ar q K
     have U:=@Hd (vX (Yj h)) (by rw[←ae.o];exact ao.o)
     have L8:=@Hd (((Yj h).st.map Xg).length=8) (by rw[length_map];exact U.o.1)
     obtain⟨d8,y8,r8⟩:=zjs
     go_wp2_with (first|((with_reducible refine yg 45 ?_);refine zg rfl (zX (ty:=245) rfl rfl (vM U.o (F6.o.obj B5.o id)).1 y8 r8 (by rw[L8.o];exact zjJ)) ?_;generalize F.alloc (.cells xG 45)=w6 at*;generalize aA:F.heap.size=O at*)|(go_at_call 149;refine(zbo (p:=g) al.o S4.o L.o BP.o ⟨C.o.1,C.o.2.1⟩ BY.o NP.o).mono ?_;rintro e F ⟨rfl,u,f5⟩;rw[ae.o] at u;have B5:=Hd u;have F5:=@Hd (Fr (λj=>j=g∨j=r) R F) (FA.o.trans (f5.mono (λ_ h=>.inl h)) (λ_ _ h=>h));have F6:=@Hd (Fr No F (F.alloc (.cells xG 45))) ((frN F).alloc _);have B6:=Hd (ye F (.cells xG 45));clear u f5))
     have V:=Hd U.o.1
     have G:=@Hd (((Yj h).st.flatMap Vg).length=32) (by rw[zbZ,V.o])
     have FG:=Hd (flat_get (Yj h).st)
     have O6:=@Hd (w6.heap[O]? =some (.cells ((Yz ((Yj h).st.flatMap Vg) (4*0)).map zQ).toArray 45 (0,0))) (B6.o)
     have SD:=@Hd (zen h=(Yj h).st.flatMap Vg) (rfl)
     clear sl BY
     generalize aw:(Yj h).st=S at*
     generalize av:S.flatMap Vg=s at*
     go_loopw [46] (λE wi=>∃i:Nat,E=.int .i64 i∧i≤8∧wi.heap[O]? =some (.cells ((Yz s (4*i)).map zQ).toArray 45 (0,0))∧Fr (λj=>j=O) w6 wi) (λE _=>8-(intOf E).toNat)
     case atStart=>exact⟨0,rfl,by omega,O6.o,Fr.refl _ _⟩
     case round=>
      obtain⟨i,rfl,hi,ah,fo⟩:=hrel
      have FO:=Hd fo
      have BO:=Hd ah
      clear fo ah
      by_cases h8:i<8
      ·have hx:=zk3 V.o h8
       have i1:((i:Nat):Int)<8:=by omega
       have WG:=Hd (λk hk=>FG.o i k hk (by rw[V.o];exact h8))
       generalize S.getD i 0=x at*
       go_wp2
       go_loopw [50] (λE wk=>∃k:Nat,E=.int .i64 k∧k≤4∧wk.heap[O]? =some (.cells ((Yz s (4*i+k)).map zQ).toArray 45 (0,0))∧Fr (λj=>j=O) w6 wk) (λE _=>4-(intOf E).toNat)
       case atStart=>exact⟨0,rfl,by omega,BO.o,FO.o⟩
       case round=>
        obtain⟨k,rfl,hk,ag,fk⟩:=hrel
        have FK:=Hd fk
        have B:=Hd ag
        clear fk ag
        by_cases k4:k<4
        ·rcases(show k=0∨k=1∨k=2∨k=3 by omega) with rfl|rfl|rfl|rfl
         ·obtain⟨j,A⟩:∃j,j=4*i+0:=⟨_,rfl⟩
          have Y:((j:Nat):Int)<32:=by omega
          have j0:(0:Int)≤(j:Int):=by omega
          have jn:(j:Int).toNat=j:=by omega
          have je:4*(i:Int)+0=(j:Int):=by omega
          obtain⟨y,D⟩:=zbz G.o (m:=4*i+0) (by omega)
          have d:=vj B.o _ _ D
          simp only[zero_add,←A] at d
          clear D
          have fz:=yp (i:=j) B.o
          have c:=@Hd (∀v:Int,v=x / 16777216 % 256→some (Obj.cells (((Yz s (4*i+0)).map zQ).toArray.setIfInBounds j (.int .u8 v)) 45 (0,0))=some (Obj.cells ((Yz s (4*i+1)).map zQ).toArray 45 (0,0))) (λv e=>by
           rw[A,setIfInBounds_toArray,←show zQ v=.int .u8 v from rfl,←List.map_set,show v=s.getD (4*i+0) 0 from(e.trans (WG.o 0 (by omega)).symm),V9 G.o (by omega)])
          have t:=Hd (λv=>heap_setCell_same wr O j _ _ (.int .u8 v) B.o)
          clear A
          go_wp2
          go_roundw
          case rel=>exact⟨1,rfl,by omega,(t.o _).trans (c.o _ (by omega)),FK.o.setCell _ (.inr rfl) _⟩
          case measure=>simp[intOf]
         ·obtain⟨j,A⟩:∃j,j=4*i+1:=⟨_,rfl⟩
          have Y:((j:Nat):Int)<32:=by omega
          have j0:(0:Int)≤(j:Int):=by omega
          have jn:(j:Int).toNat=j:=by omega
          have je:4*(i:Int)+1=(j:Int):=by omega
          obtain⟨y,D⟩:=zbz G.o (m:=4*i+1) (by omega)
          have d:=vj B.o _ _ D
          simp only[zero_add,←A] at d
          clear D
          have fz:=yp (i:=j) B.o
          have c:=@Hd (∀v:Int,v=x / 65536 % 256→some (Obj.cells (((Yz s (4*i+1)).map zQ).toArray.setIfInBounds j (.int .u8 v)) 45 (0,0))=some (Obj.cells ((Yz s (4*i+2)).map zQ).toArray 45 (0,0))) (λv e=>by
           rw[A,setIfInBounds_toArray,←show zQ v=.int .u8 v from rfl,←List.map_set,show v=s.getD (4*i+1) 0 from(e.trans (WG.o 1 (by omega)).symm),V9 G.o (by omega)])
          have t:=Hd (λv=>heap_setCell_same wr O j _ _ (.int .u8 v) B.o)
          clear A
          go_wp2
          go_roundw
          case rel=>exact⟨2,rfl,by omega,(t.o _).trans (c.o _ (by omega)),FK.o.setCell _ (.inr rfl) _⟩
          case measure=>simp[intOf]
         ·obtain⟨j,A⟩:∃j,j=4*i+2:=⟨_,rfl⟩
          have Y:((j:Nat):Int)<32:=by omega
          have j0:(0:Int)≤(j:Int):=by omega
          have jn:(j:Int).toNat=j:=by omega
          have je:4*(i:Int)+2=(j:Int):=by omega
          obtain⟨y,D⟩:=zbz G.o (m:=4*i+2) (by omega)
          have d:=vj B.o _ _ D
          simp only[zero_add,←A] at d
          clear D
          have fz:=yp (i:=j) B.o
          have c:=@Hd (∀v:Int,v=x / 256 % 256→some (Obj.cells (((Yz s (4*i+2)).map zQ).toArray.setIfInBounds j (.int .u8 v)) 45 (0,0))=some (Obj.cells ((Yz s (4*i+3)).map zQ).toArray 45 (0,0))) (λv e=>by
           rw[A,setIfInBounds_toArray,←show zQ v=.int .u8 v from rfl,←List.map_set,show v=s.getD (4*i+2) 0 from(e.trans (WG.o 2 (by omega)).symm),V9 G.o (by omega)])
          have t:=Hd (λv=>heap_setCell_same wr O j _ _ (.int .u8 v) B.o)
          clear A
          go_wp2
          go_roundw
          case rel=>exact⟨3,rfl,by omega,(t.o _).trans (c.o _ (by omega)),FK.o.setCell _ (.inr rfl) _⟩
          case measure=>simp[intOf]
         ·obtain⟨j,A⟩:∃j,j=4*i+3:=⟨_,rfl⟩
          have Y:((j:Nat):Int)<32:=by omega
          have j0:(0:Int)≤(j:Int):=by omega
          have jn:(j:Int).toNat=j:=by omega
          have je:4*(i:Int)+3=(j:Int):=by omega
          obtain⟨y,D⟩:=zbz G.o (m:=4*i+3) (by omega)
          have d:=vj B.o _ _ D
          simp only[zero_add,←A] at d
          clear D
          have fz:=yp (i:=j) B.o
          have c:=@Hd (∀v:Int,v=x % 256→some (Obj.cells (((Yz s (4*i+3)).map zQ).toArray.setIfInBounds j (.int .u8 v)) 45 (0,0))=some (Obj.cells ((Yz s (4*i+4)).map zQ).toArray 45 (0,0))) (λv e=>by
           rw[A,setIfInBounds_toArray,←show zQ v=.int .u8 v from rfl,←List.map_set,show v=s.getD (4*i+3) 0 from(e.trans (WG.o 3 (by omega)).symm),V9 G.o (by omega)])
          have t:=Hd (λv=>heap_setCell_same wr O j _ _ (.int .u8 v) B.o)
          clear A
          go_wp2
          go_roundw
          case rel=>exact⟨4,rfl,by omega,(t.o _).trans (c.o _ (by omega)),FK.o.setCell _ (.inr rfl) _⟩
          case measure=>simp[intOf]
        ·obtain rfl:k=4:=by omega
         have k1:¬((4:Nat):Int)<4:=by omega
         have ee:4*i+4=4*(i+1):=by omega
         rw[ee] at B
         go_wp2
         go_roundw
         case rel=>exact⟨i+1,by simp,by omega,B.o,FK.o⟩
         case measure=>show 8-(i+1)<8-i;omega
      ·obtain rfl:i=8:=by omega
       have i1:¬((8:Nat):Int)<8:=by omega
       have an:=@Hd (F.heap[q2]? =some (.cells xG 45 (0,0))) (F5.o.obj (Z.o.obj (F2.o.obj B1.o id) (by have:=o.o;omega)) (by have:=o.o;have:=M.o;omega))
       have ab:=@Hd (wr.heap[q2]? =some (.cells xG 45 (0,0))) (FO.o.obj (F6.o.obj an.o id) (by have:=o.o;have:=M.o;have:=F5.o.size;have:=C.o.2.2.2;omega))
       rw[show 4*8=32 from rfl,zjY G.o] at BO
       have FL:=@Hd ((s.map zQ).length=32) (by rw[length_map];exact G.o)
       obtain⟨dh,yh,rh⟩:=zbU
       go_wp2_with (first|((with_reducible refine yg 67 ?_);refine zg rfl (zX (ty:=45) rfl rfl (vj BO.o) yh rh (by rw[FL.o];exact qH)) ?_)|(refine zi rfl (zU (ty:=45) (b:=q2) (off:=0) (cs:=s.map zQ) rfl rfl rfl (by rw[FL.o];exact yb ab.o (le_refl 32)) (by rw[FL.o];exact qH) (λv hv=>by obtain⟨x,-,rfl⟩:=mem_map.1 hv;rfl)) ?_))
       have FN:=@Hd (Fr No w wr) ((((((F1.o.trans0 F2.o).trans Z.o (λi h e=>(show False by have:=o.o;omega))).trans F5.o (λi h e=>(show False by have:=o.o;have:=M.o;omega))).trans0 F6.o).trans FO.o (λi h e=>(show False by have:=o.o;have:=M.o;have:=F5.o.size;have:=C.o.2.2.2;omega))))
       refine bodyPost_ret (yt (P:=prog) (fn:=Tryz.f121) rfl _ rfl (yB ab.o (by rw[FL.o];rfl)) yh rh (by rw[FL.o];exact qH) rfl) rfl ⟨by rw[SD.o];rfl,FN.o.trans (zy q2 _ 0 wr) (λi h e=>(show False by omega))⟩
  ·have j1:((m:Int)==56)=false:=by
    rw[beq_eq_false_iff_ne]
    have:=zlc (n:=a.n) (z:=z) (by omega)
    rw[←NZ.o,←hm] at this
    omega
   clear hm
   have G0:=Hd (aa.o.keep T.o (λe=>C.o.1 e.symm) (λe=>C.o.2.1 e.symm))
   go_wp2_with (go_at_call 149;refine(zbo (p:=g) (G0.o.keep ((frN wr).alloc (.cells #[.int .u8 0] 5)) id id) (by have:=C.o.2.2.1;have:=T.o.size;simp;omega) L.o (((frN wr).alloc (.cells #[.int .u8 0] 5)).obj BZ.o id) ⟨C.o.1,C.o.2.1⟩ (zbQ wr 0 (by have:=C.o.2.2.2;have:=T.o.size;omega)) (by have:=NZ.o;simp;omega)).mono ?_;rintro e F ⟨rfl,u,f5⟩;rw[←SZ.o] at u;have B5:=Hd u;have F5:=@Hd (Fr (λj=>j=g) R F) (T.o.trans ((((frN wr).alloc (.cells #[.int .u8 0] 5)).of0 (W:=λj=>j=g)).trans f5 (λ_ _ h=>h)) (λ_ _ h=>h));clear u f5)
   go_roundw
   case rel=>exact⟨z+1,by omega,B5.o,F5.o⟩
   case measure=>
    rw[LM.o]
    have c5:=(vM (ad.o.adds (l:=List.replicate (z+1) 0)) B5.o).2.2
    have:ze7 F g (a.n+zab a.n)=a.n+zab a.n-(a.n+(z+1)):=by
     unfold ze7
     rw[c5,Qh,List.length_replicate]
     simp only[]
     omega
    rw[this]
    omega
end Go.Proofs.YtbcllfjmabiafaaGreatDoor
namespace Go
structure zx where
 tx:List Int
 n:Int
structure yC where
 value:Int
 lock:List Int
structure zn where
 at_:zx
 out:yC
instance:DecidableEq zx:=λa b=>if h:a.tx=b.tx∧a.n=b.n then isTrue (by cases a;cases b;simp_all) else isFalse (λe=>h (by rw[e];exact⟨rfl,rfl⟩))
def zV (l:List Int):Prop:=l.length=32∧∀x∈l,0≤x∧x≤255
def zx.ok (p:zx):Prop:=zV p.tx∧0≤p.n∧p.n≤4294967295
def yC.ok (x:yC):Prop:=(0≤x.value∧x.value≤18446744073709551615)∧zV x.lock
def zn.ok (c:zn):Prop:=c.at_.ok∧c.out.ok
def Zb:List Int→List Int→Int
 |[],[]=>0
 |[],_::_=> -1
 |_::_,[]=>1
 |a::as0,b::bs=>if a<b then -1 else if b<a then 1 else Zb as0 bs
theorem zc2:∀a,Zb a a=0
 |[]=>rfl
 |x::a=>by simp[Zb,zc2 a]
theorem Qm:∀ {a b},Zb a b=0→a=b
 |[],[],_=>rfl
 |[],_::_,h=>by simp[Zb] at h
 |_::_,[],h=>by simp[Zb] at h
 |x::a,y::b,h=>by
  unfold Zb at h
  split at h
  ·omega
  ·split at h
   ·omega
   ·have:x=y:=by omega
    rw[this,Qm h]
theorem zeK:∀a b,Zb b a= - Zb a b
 |[],[]=>rfl
 |[],_::_=>rfl
 |_::_,[]=>rfl
 |x::a,y::b=>by
  unfold Zb
  by_cases h1:x<y
  ·have:¬y<x:=by omega
   simp[h1,this]
  ·by_cases h2:y<x
   ·simp[h1,h2]
   ·simp only[h1,h2,if_false]
    exact zeK a b
theorem zbS:∀ {a b c},Zb a b= -1→Zb b c= -1→Zb a c= -1
 |[],[],_,h,_=>by simp[Zb] at h
 |[],_::_,[],_,h=>by simp[Zb] at h
 |[],_::_,_::_,_,_=>rfl
 |_::_,[],_,h,_=>by simp[Zb] at h
 |_::_,_::_,[],_,h=>by simp[Zb] at h
 |x::a,y::b,z::c,h1,h2=>by
  unfold Zb at*
  split at h1
  ·split at h2
   ·rw[if_pos (by omega)]
   ·split at h2
    ·omega
    ·rw[if_pos (by omega)]
  ·split at h1
   ·omega
   ·split at h2
    ·rw[if_pos (by omega)]
    ·split at h2
     ·omega
     ·rw[if_neg (by omega),if_neg (by omega)]
      exact zbS h1 h2
theorem zc3:∀a b,Zb a b= -1∨Zb a b=0∨Zb a b=1
 |[],[]=>.inr (.inl rfl)
 |[],_::_=>.inl rfl
 |_::_,[]=>.inr (.inr rfl)
 |x::a,y::b=>by
  unfold Zb
  split
  ·exact .inl rfl
  ·split
   ·exact .inr (.inr rfl)
   ·exact zc3 a b
def zhR (a b:Int):Int:=if a<b then -1 else if b<a then 1 else 0
def Zj (p q:zx):Int:=if Zb p.tx q.tx=0 then zhR p.n q.n else Zb p.tx q.tx
def JP (p q:zx):Bool:=decide (Zj p q= -1)
theorem zc4 (p q:zx):Zj q p= - Zj p q:=by
 unfold Zj
 rw[zeK p.tx q.tx]
 by_cases h:Zb p.tx q.tx=0
 ·rw[h];simp[zhR];split<;>split<;>omega
 ·rw[if_neg (by omega),if_neg h]
theorem zf5 (p:zx):Zj p p=0:=by simp[Zj,zc2,zhR]
theorem zf7 {p q:zx} (h:Zj p q=0):p=q:=by
 unfold Zj at h
 split at h
 ·rename_i h1
  have a:=Qm h1
  unfold zhR at h
  split at h
  ·omega
  ·split at h
   ·omega
   ·cases p;cases q;simp only[zx.mk.injEq] at*;exact⟨a,by omega⟩
 ·contradiction
theorem zf6 (p q:zx):Zj p q= -1∨Zj p q=0∨Zj p q=1:=by
 unfold Zj
 split
 ·unfold zhR;split
  ·exact .inl rfl
  ·split
   ·exact .inr (.inr rfl)
   ·exact .inr (.inl rfl)
 ·exact zc3 _ _
theorem zeL {p q r:zx} (b:Zj p q= -1) (a:Zj q r= -1):Zj p r= -1:=by
 unfold Zj at*
 split at b
 ·rename_i e1
  have:=Qm e1
  rw[this]
  split at a
  ·rename_i e2
   rw[if_pos e2]
   unfold zhR at*
   split at b
   ·split at a
    ·rw[if_pos (by omega)]
    ·split at a<;>omega
   ·split at b<;>omega
  ·rename_i e2
   rw[if_neg e2]
   exact a
 ·split at a
  ·rename_i e1 e2
   have:=Qm e2
   rw[←this,if_neg (by omega)]
   exact b
  ·have:=zbS b a
   rw[if_neg (by omega)]
   exact this
theorem zbe (p:zx):JP p p=false:=by simp[JP,zf5]
theorem zct {p q r:zx} (a:JP p q=true) (b:JP q r=true):JP p r=true:=by
 unfold JP at*
 simp only[decide_eq_true_eq] at*
 exact zeL a b
theorem zgB {p q:zx} (h:JP p q=true):JP q p=false:=by
 unfold JP at*
 simp only[decide_eq_true_eq,decide_eq_false_iff_not] at*
 rw[zc4 p q];omega
theorem zgC {p q:zx} (b:JP p q=false) (a:JP q p=false):p=q:=by
 unfold JP at*
 simp only[decide_eq_false_iff_not] at*
 rw[zc4 p q] at a
 exact zf7 (by rcases zf6 p q with h|h|h<;>omega)
theorem zef {p q:zx} (h:JP p q=true):p≠q:=λe=>by subst e;rw[zbe] at h;cases h
def yV (S:List zn) (p:zx):Bool:=S.any λc=>decide (c.at_=p)
def Xl (S:List zn) (p:zx):Option yC:=(S.find? λc=>decide (c.at_=p)).map (·.out)
def zcO (S:List zn) (c:zn):List zn:=S.takeWhile (λx=> !JP c.at_ x.at_)++c::S.dropWhile (λx=> !JP c.at_ x.at_)
def jQ (S l:List zn):List zn:=l.foldl zcO S
def x9 (S:List zn) (ps:List zx):List zn:=S.filter λc=> !decide (c.at_∈ps)
def qF (S:List zn):Prop:=S.Pairwise λa b=>JP a.at_ b.at_=true
theorem qt {S:List zn} {p:zx}:yV S p=true↔∃c∈S,c.at_=p:=by simp[yV]
theorem ZN {S:List zn} {p:zx}:yV S p=false↔∀c∈S,c.at_≠p:=by simp[yV]
theorem qF.nodup {S:List zn} (h:qF S):(S.map (·.at_)).Nodup:=by
 rw[List.Nodup,List.pairwise_map]
 exact h.imp λh=>zef h
theorem qF.uniq {S:List zn} (h:qF S) {a b:zn} (c:a∈S) (d:b∈S) (e:a.at_=b.at_):a=b:=by
 induction h with
 |nil=>cases c
 |cons hx _ ih=>
  rcases List.mem_cons.1 c with rfl|ha'<;>rcases List.mem_cons.1 d with rfl|hb'
  ·rfl
  ·exact absurd e (zef (hx _ hb'))
  ·exact absurd e.symm (zef (hx _ ha'))
  ·exact ih ha' hb'
theorem YW {S:List zn} (h:qF S) {c:zn} (b:c∈S):Xl S c.at_=some c.out:=by
 unfold Xl
 cases e:S.find? λx=>decide (x.at_=c.at_) with
 |none=>
  have:=List.find?_eq_none.1 e c b
  simp at this
 |some x=>
  have d:=List.mem_of_find?_eq_some e
  have a:=List.find?_some e
  simp only[decide_eq_true_eq] at a
  rw[h.uniq d b a];rfl
theorem zgi {S:List zn} {p:zx} (h:yV S p=false):Xl S p=none:=by
 unfold Xl
 rw[List.find?_eq_none.2 (λx a=>by have:=ZN.1 h x a;simpa using this)]
 rfl
theorem zd3 {S:List zn} {p:zx}:(Xl S p).isSome=yV S p:=by
 rw[Bool.eq_iff_iff,qt]
 unfold Xl
 simp
theorem zdu {α:Type} {f:α→Bool} {x:α}:∀ {L:List α},x∈L.takeWhile f→f x=true
 |[],h=>by cases h
 |y::L,h=>by
  rw[List.takeWhile_cons] at h
  split at h
  ·rename_i hy
   rcases List.mem_cons.1 h with rfl|h
   ·exact hy
   ·exact zdu h
  ·cases h
theorem zfa {S:List zn} {c x:zn}:x∈zcO S c↔x=c∨x∈S:=by
 have e:=List.takeWhile_append_dropWhile (p:=λx:zn=> !JP c.at_ x.at_) (l:=S)
 unfold zcO
 constructor
 ·intro h
  rcases List.mem_append.1 h with h|h
  ·right;rw[←e];exact List.mem_append.2 (.inl h)
  ·rcases List.mem_cons.1 h with h|h
   ·exact .inl h
   ·right;rw[←e];exact List.mem_append.2 (.inr h)
 ·rintro(rfl|h)
  ·simp
  ·rw[←e] at h
   rcases List.mem_append.1 h with h|h
   ·exact List.mem_append.2 (.inl h)
   ·exact List.mem_append.2 (.inr (List.mem_cons_of_mem _ h))
theorem zid (S:List zn) (c:zn):(zcO S c).Perm (c::S):=by
 unfold zcO
 refine List.perm_middle.trans ?_
 rw[List.takeWhile_append_dropWhile]
theorem zjM {S:List zn} (h:qF S) {c:zn} (o:yV S c.at_=false):qF (zcO S c):=by
 have g:=ZN.1 o
 have e:=List.takeWhile_append_dropWhile (p:=λx:zn=> !JP c.at_ x.at_) (l:=S)
 have k:∀x∈S.takeWhile (λx=> !JP c.at_ x.at_),JP x.at_ c.at_=true:=by
  intro x d
  have n:JP c.at_ x.at_=false:=by have:=zdu d;simpa using this
  cases h2:JP x.at_ c.at_ with
  |true=>rfl
  |false=>exact absurd (zgC h2 n) (g x ((List.takeWhile_prefix _).subset d))
 have j:∀x∈S.dropWhile (λx=> !JP c.at_ x.at_),JP c.at_ x.at_=true:=by
  cases hD:S.dropWhile (λx=> !JP c.at_ x.at_) with
  |nil=>intro x d;cases d
  |cons y D=>
   have m:JP c.at_ y.at_=true:=by
    have:=List.head?_dropWhile_not (λx:zn=> !JP c.at_ x.at_) S
    rw[hD] at this
    simpa using this
   have q:qF (y::D):=by rw[←hD];exact List.Pairwise.sublist (List.dropWhile_suffix _).sublist h
   intro x d
   rcases List.mem_cons.1 d with rfl|d
   ·exact m
   ·exact zct m ((List.pairwise_cons.1 q).1 x d)
 unfold zcO qF
 rw[List.pairwise_append]
 refine⟨List.Pairwise.sublist (List.takeWhile_prefix _).sublist h,List.pairwise_cons.2 ⟨j,List.Pairwise.sublist (List.dropWhile_suffix _).sublist h⟩,?_⟩
 intro a i b f
 rcases List.mem_cons.1 f with rfl|f
 ·exact k a i
 ·exact zct (k a i) (j b f)
theorem qL:∀ {l S:List zn} {x:zn},x∈jQ S l↔x∈S∨x∈l
 |[],S,x=>by simp[jQ]
 |c::l,S,x=>by
  show x∈jQ (zcO S c) l↔_
  rw[qL,zfa]
  simp only[List.mem_cons]
  constructor
  ·rintro((h|h)|h)
   ·exact .inr (.inl h)
   ·exact .inl h
   ·exact .inr (.inr h)
  ·rintro(h|h|h)
   ·exact .inl (.inr h)
   ·exact .inl (.inl h)
   ·exact .inr h
theorem Zu:∀(l S:List zn),(jQ S l).Perm (S++l)
 |[],S=>by simp[jQ]
 |c::l,S=>by
  show(jQ (zcO S c) l).Perm _
  refine(Zu l _).trans ?_
  refine((zid S c).append_right l).trans ?_
  exact List.perm_middle.symm
theorem JJ:∀ {l S:List zn},qF S→(l.map (·.at_)).Nodup→(∀c∈l,yV S c.at_=false)→qF (jQ S l)
 |[],S,h,_,_=>h
 |c::l,S,h,hn,hd=>by
  show qF (jQ (zcO S c) l)
  rw[List.map_cons,List.nodup_cons] at hn
  refine JJ (zjM h (hd c (by simp))) hn.2 ?_
  intro x b
  rw[ZN]
  intro y a
  rcases zfa.1 a with rfl|a
  ·exact λe=>hn.1 (by rw[e];exact List.mem_map.2 ⟨x,b,rfl⟩)
  ·exact ZN.1 (hd x (by simp[b])) y a
theorem Zv {S:List zn} {ps:List zx} (h:qF S):qF (x9 S ps):=List.Pairwise.filter _ h
theorem jV {S:List zn} {ps:List zx} {x:zn}:x∈x9 S ps↔x∈S∧x.at_∉ps:=by simp[x9]
theorem qF.same {S R:List zn} (h:qF S) (c:qF R) (g:∀x,x∈S↔x∈R):S=R:=by
 have nd:∀ {T:List zn},qF T→T.Nodup:=fun {T} h=>by unfold List.Nodup;exact List.Pairwise.imp (fun {a b} h e=>by subst e;rw[zbe] at h;cases h) h
 refine List.Perm.eq_of_pairwise (le:=λa b:zn=>JP a.at_ b.at_=true) ?_ h c ((List.perm_ext_iff_of_nodup (nd h) (nd c)).2 g)
 intro a b _ _ f d
 rw[zgB f] at d;cases d
end Go
namespace Go
open Go.RowKit Go.Maps Go.MapKept
section
variable {P:Program} {S:World→Prop} {a:Act} {dst:Option Tmp} {ty ty2:TypeId} {pos:String} {after:Array Edge} {gd:Option (Nat×Bool)} {x y:Operand}
structure EqN (P:Program) (k:TypeId):Prop where
 keyed:Keyed P k
 deep:∃m,m≤10000∧P.keyTypeAt m k=true
 wide:(match P.underlying k with|some (.array _ _)|some (.struct _)=>true|_=>false)=true
 guard:P.eqGuardType P.depth k=false
theorem EqN.run {k:TypeId} (h:EqN P k) (w:World) {u v:Array Value} (j:∃l,keyOf P k (.agg u)=some l) (m:∃l,keyOf P k (.agg v)=some l) (b:Bool) (g:b=true↔u=v):
  (Op.equal k (.agg u) (.agg v)).run P w=.ok b w:=by
 obtain⟨n,f⟩:=j
 obtain⟨o,d⟩:=m
 obtain⟨r,i,c⟩:=run_equal_deep w h.deep.choose_spec.1 h.deep.choose_spec.2 h.wide f d
 have:r=b:=by
  rw[Bool.eq_iff_iff,c,g]
  constructor
  ·intro e
   subst e
   have:=h.keyed.inj f d
   injection this
  ·intro e
   subst e
   rw[f] at d
   exact Option.some.inj d
 rw[i,this]
theorem EqN.eql {k:TypeId} (h:EqN P k) (w:World) {u v:Array Value} (e:∃l,keyOf P k (.agg u)=some l) (f:∃l,keyOf P k (.agg v)=some l) (b:Bool) (d:b=true↔u=v):
  (binOp .eql k (.agg u) (.agg v)).run P w=.ok (.bool b) w:=by
 have c:=h.run w e f b d
 rw[run_eql_struct]
 unfold Op.equal at c
 rw[show Op.maxDepth=10000 from rfl] at c
 rw[c]
 rfl
theorem EqN.neq {k:TypeId} (h:EqN P k) (w:World) {u v:Array Value} (e:∃l,keyOf P k (.agg u)=some l) (f:∃l,keyOf P k (.agg v)=some l) (b:Bool) (d:b=true↔u=v):
  (binOp .neq k (.agg u) (.agg v)).run P w=.ok (.bool (!b)) w:=by
 have c:=h.run w e f b d
 rw[run_neq_struct]
 unfold Op.equal at c
 rw[show Op.maxDepth=10000 from rfl] at c
 rw[c]
 rfl
theorem EqN.exec_eql {k:TypeId} (h:EqN P k) {c:Operand→Value} {o:Oper} (e:o.op=.binOp .eql k x y ty2) {u v:Array Value} (i:c x=.agg u) (j:c y=.agg v) (f:∃l,keyOf P k (.agg u)=some l) (g:∃l,keyOf P k (.agg v)=some l) (b:Bool) (d:b=true↔u=v) (w:World):
  (execOp c o).run P w=.ok (.value (.bool b)) w:=by
 simp only[execOp,e,i,j,Sem.run_bind,run_eqGuard_agg w .eql k x y u v h.guard,Result.andThen_ok,h.eql w f g b d,Sem.run_pure]
theorem EqN.exec_neq {k:TypeId} (h:EqN P k) {c:Operand→Value} {o:Oper} (e:o.op=.binOp .neq k x y ty2) {u v:Array Value} (i:c x=.agg u) (j:c y=.agg v) (f:∃l,keyOf P k (.agg u)=some l) (g:∃l,keyOf P k (.agg v)=some l) (b:Bool) (d:b=true↔u=v) (w:World):
  (execOp c o).run P w=.ok (.value (.bool (!b))) w:=by
 simp only[execOp,e,i,j,Sem.run_bind,run_eqGuard_agg w .neq k x y u v h.guard,Result.andThen_ok,h.neq w f g b d,Sem.run_pure]
end
end Go
namespace Go.Proofs.YtbcllfjmabiafaaGreatDoor
open Go Go.RowKit Go.Maps Go.MapKept
open Go.Proofs.Tryz(prog)
open List(mem_map getElem?_eq_getElem mem_append mem_cons length_map length_take getElem?_map setIfInBounds_toArray)
open Nat(le_refl zero_add)
theorem ziw {h:j5} (ok:vX h):vX (Yj h):=(((ok.add 128).adds).adds)
theorem zfE {h:j5} (ok:vX h):(zen h).length=32:=by unfold zen;rw[zbZ,(ziw ok).st]
theorem zhA {w:World} (G:Zh w) (q:3<w.heap.size) {v:Value} {L:List (List Int)} (H:∀p,w.heap.size≤p→Zy w p v L) (F:L.length≤1000000) (T:L.flatten.length≤1000000000000):
  Calls prog 81 #[v] w λe w'=>e=.returned (.agg ((qE L.flatten).map zQ).toArray)∧Fr No w w':=by
 have u:=Hd G
 have d:=Hd q
 have O:=Hd H
 have R:=Hd F
 have Q:=@Hd ((L.flatten.foldl qp Yh).n=L.flatten.length) (by rw[Qh];exact zero_add _)
 have Y:∀w,(zeroValue 45).run prog w=.ok (.agg xG) w:=λw=>by kernel_rfl
 clear G q H F
 obtain⟨Z,X,V⟩:=zbU
 go_enter Tryz.func81,Tryz.ntmps81
 have m:=@Hd (Fr No w (w.alloc (.cells xG 45))) ((frN w).alloc _)
 have B1:=Hd (ye w (.cells xG 45))
 have a:=@Hd ((w.alloc (.cells xG 45)).heap.size=w.heap.size+1) (by simp)
 go_wp2_with (first|(go_at_call 119;refine(zjR (u.o.keep m.o id id)).mono ?_;rintro e z ⟨rfl,r⟩;generalize w.alloc (.cells xG 45)=l at*;have k:=@Hd (Fr No l z) (r▸(frN l).alloc _);have B2:=@Hd (z.heap[l.heap.size]? =some (.cells (yP Yh).toArray 248 (0,0))) (r▸ye l _);have C:=@Hd (l.heap.size<z.heap.size) (by subst r;simp);clear r;generalize hp:l.heap.size=p at*)|(go_at_call 120;refine(ziZ ((u.o.keep m.o id id).keep k.o id id) (by have:=a.o;have:=C.o;have:=d.o;omega) Qp B2.o ⟨by have:=a.o;have:=d.o;omega,by have:=a.o;have:=d.o;omega⟩ ((O.o p (by have:=a.o;omega)).keep (((m.o.trans0 k.o).of0 (W:=λj=>j=p)))) R.o (by show 0+_≤_;omega)).mono ?_;rintro e w3 ⟨rfl,o,D⟩;have I:=Hd o;have n:=Hd D;clear o D)|(go_at_call 121;refine(zkp (p:=p) (((u.o.keep m.o id id).keep k.o id id).keep n.o (by have:=a.o;have:=d.o;omega) (by have:=a.o;have:=d.o;omega)) (by have:=a.o;have:=C.o;have:=d.o;have:=n.o.size;omega) (Qp.adds) I.o ⟨by have:=a.o;have:=d.o;omega,by have:=a.o;have:=d.o;omega⟩ (by rw[Q.o];exact T)).mono ?_;rintro e g ⟨rfl,E⟩;have s:=Hd E;clear E;have f:=@Hd (((zen (L.flatten.foldl qp Yh)).map zQ).length=32) (by rw[length_map];exact zfE Qp.adds);have S:=@Hd (qE L.flatten=zen (L.flatten.foldl qp Yh)) (rfl);generalize zen (L.flatten.foldl qp Yh)=c at*)|((with_reducible refine zr ?_);refine zi rfl (zj (w:=g) (ty:=45) (cs:=c.map zQ) rfl rfl rfl (by rw[f.o];rfl) (by rw[f.o];exact qH) (λv y=>by obtain⟨x,-,rfl⟩:=mem_map.1 y;rfl)) ?_;have K:=Hd (ye g (.cells (c.map zQ).toArray 45));have t:=@Hd (Fr No g (g.alloc (.cells (c.map zQ).toArray 45))) ((frN g).alloc _);generalize g.alloc (.cells (c.map zQ).toArray 45)=A at*;generalize U:g.heap.size=q5 at*)|((with_reducible refine yg 15 ?_);refine zg rfl (zX (ty:=45) rfl rfl (vj K.o) X V (by rw[f.o];exact qH)) ?_)|(refine zi rfl (zU (ty:=45) (b:=w.heap.size) (off:=0) (cs:=c.map zQ) rfl rfl rfl (by rw[f.o];exact yb (t.o.obj (s.o.obj (n.o.obj (k.o.obj B1.o id) (by have:=a.o;omega)) id) id) (le_refl 32)) (by rw[f.o];exact qH) (λv y=>by obtain⟨x,-,rfl⟩:=mem_map.1 y;rfl)) ?_))
 have M:=@Hd (Fr No w A) ((((((m.o.trans0 k.o).trans n.o (λi h e=>(show False by have:=a.o;omega))).trans0 s.o).trans0 t.o)))
 have N:=@Hd (A.heap[w.heap.size]? =some (.cells xG 45 (0,0))) (t.o.obj (s.o.obj (n.o.obj (k.o.obj B1.o id) (by have:=a.o;omega)) id) id)
 have B:=xE w.heap.size 45 (c.map zQ) 0 A xG N.o
 have e:=jt (c.map zQ) [] xG.toList [] (by rw[f.o];rfl)
 simp only[List.nil_append,List.append_nil,List.length_nil] at e
 rw[e] at B
 exact bodyPost_ret (v:=.agg (c.map zQ).toArray) (results_cell_row (P:=prog) (fn:=Tryz.f81) rfl _ _ w.heap.size 45 (c.map zQ).toArray (0,0) _ rfl B Tryz.underlying45 rfl (by rw[List.size_toArray,f.o];exact qH)) rfl ⟨by rw[S.o],M.o.trans (zy _ _ _ _) (λi hi e=>(show False by omega))⟩
end Go.Proofs.YtbcllfjmabiafaaGreatDoor
