/- A struct literal of its first parts; the rest is zero. -/
import Derived.Lib.Bytealg
import Derived.Test.YtmpamcnlineceaaGreatDoorZG2
import Derived.Test.YtmpamcnlineceaaGreatDoorZG3
set_option linter.unusedVariables false
set_option linter.unusedSimpArgs false
set_option linter.unnecessarySimpa false
set_option linter.all false
set_option maxRecDepth 20000
set_option maxHeartbeats 16000000
namespace Go
open Go.RowKit Go.Maps Go.MapKept
theorem zbq {P:Program} {t:TypeId} {w:World} {o:Oper} {a:Operand→Value} {parts:Array (Nat×Operand)} {vs:List (Nat×Value)} {cs:List Value} (b:o.op=.build t parts) (c:(parts.toList.map λ(i,x)=>(i,a x))=vs) (h:P.built t vs=some cs.toArray):
  (execOp a o).run P w=.ok (.value (.agg cs.toArray)) w:=by
 have:=run_build w t (parts.map λ(i,x)=>(i,a x)) _ (by rw[Array.toList_map,c];exact h)
 simp only[execOp,b,Sem.run_bind,this,Result.andThen_ok,Sem.run_pure]
end Go
namespace Go.Proofs.YtmpamcnlineceaaGreatDoor
open Go Go.RowKit Go.Maps Go.MapKept
open Go.Proofs.Tryz(prog)
open List(mem_map getElem?_eq_getElem mem_append mem_cons length_map length_take getElem?_map setIfInBounds_toArray)
open Nat(le_refl zero_add)
variable {B l:List Int} {m p:Nat} {v:Value} {w w':World}
theorem Yj {P:Program} {ops:Array Oper} {rest:List Oper} {o:Oper} {a:Act} {Q:Exit→Act→World→Prop} {s x:Operand} {e:Array TypeId} {d f v:Value} (i:o.guard=none)
  (c:o.op=.call {callee:=.builtin .copy,args:= #[s,x],argTypes:=e}) (j:a.eval s=d) (k:a.eval x=f)
  (b:(Builtin.copy_ e o.type #[d,f]).run P w=.ok v w') (h:wpList P ops Q rest (a.put o.dst v) w'):wpList P ops Q (o::rest) a w:=by
 refine wpList_plain i λK' hK'=>?_
 unfold Oper.wp
 have g:(execOp a.eval o).run P w=.ok (.value v) w':=by
  simp[execOp,c,resolve,j,k,invoke,builtin,b,Result.andThen]
 rw[g]
 exact hK' _ _ h
theorem XS {n:Int} (a:0≤n) (b:n<18446744073709551616):bits .and .u64 n 63=n % 64:=bits_mask .u64 64 (by decide) (λn a b=>by simp[IntKind.wrap,IntKind.bits,IntKind.signed];omega) 6 (by decide) n a (by omega)
def vR (w:World) (p:Nat) (v:Value) (l:List Int):Prop:=(l=[]∧∃a c,v=.slice a 0 c)∨∃b o c,v=.slice (some ⟨b,o,none⟩) l.length c∧b≠p∧w.rangeAt b o (l.map zu)∧l.length≤c
theorem vR.keep (h:vR w p v l) (f:Fr (λj=>j=p) w w'):vR w' p v l:=by
 rcases h with h|⟨b,o,c,d,a,e,g⟩
 ·exact .inl h
 ·exact .inr ⟨b,o,c,d,a,zb e f a,g⟩
theorem vR.form (h:vR w p v l):∃a c,v=.slice a l.length c:=by
 rcases h with⟨rfl,a,c,h⟩|⟨b,o,c,d,-⟩
 ·exact⟨a,c,h⟩
 ·exact⟨_,c,d⟩
theorem zfi:(prog.info? 134).map (·.size)=some 8:=by kernel_rfl
theorem ze5:∃d,prog.underlying 134=some d∧d.isRow=true:=vq (by kernel_rfl)
def zhQ:Value→Nat
 |.slice _ n _=>n
 |_=>0
theorem Ql (hg:Je w) (R:2<w.heap.size) {h:vI} (ok:qE h) (N:w.heap[p]? =some (.cells (yK h).toArray 156 (0,0))) (hp:p≠0∧p≠2) (hl:vR w p v l) (hn:h.n+l.length≤4611686018427387904):
  Calls prog 84 #[.pointer (some ⟨p,0,none⟩),v] w λe w'=>e=.returned (.tuple #[])∧w'.heap[p]? =some (.cells (yK (l.foldl xS h)).toArray 156 (0,0))∧Fr (λj=>j=p) w w':=by
 have HG:=J hg
 have HW:=J R
 have V:=J hp
 have OK:=J ok
 have HB:=J N
 have HL:=J hl
 clear hg R hp ok N
 obtain⟨va,vc,rfl⟩:=hl.form
 clear hl
 go_enter Tryz.func84,Tryz.ntmps84
 refine wp_block ?_
 go_loopw [1] (λpv wr=>∃d r:List Int,l=d++r∧vR wr p pv r∧wr.heap[p]? =some (.cells (yK (d.foldl xS h)).toArray 156 (0,0))∧Fr (λj=>j=p) w wr) (λpv _=>zhQ pv)
 case atStart=>exact⟨[],l,rfl,HL.o,HB.o,Fr.refl _ _⟩
 case round=>
  obtain⟨d,r,rfl,E,N,fr⟩:=hrel
  have L:=J fr
  have s:=J N
  have g:=J (OK.o.adds (l:=d))
  have ND:=J (JG d h)
  clear fr N
  generalize ae:d.foldl xS h=a at*
  by_cases hr:r=[]
  ·subst hr
   obtain⟨a0,c0,rfl⟩:=E.form
   clear E
   have j0:¬(0:Int)<0:=by omega
   go_wp2
   (try simp only[Exit.inBlock,Exit.then])
   refine bodyPost_end (results_none rfl _ _ _) rfl ?_
   exact⟨rfl,s.o,L.o⟩
  ·obtain⟨b,o,c,rfl,O,Q,ar⟩:=E.resolve_left (λe=>hr e.1)
   have r0:0<r.length:=by cases r with|nil=>exact absurd rfl hr|cons _ _=>simp
   have i1:(0:Int)<(r.length:Int):=by omega
   have aq:a.n+r.length≤4611686018427387904:=by rw[ND.o];simp only[List.length_append] at hn;omega
   obtain⟨t,ht⟩:∃t,t=a.n % 64:=⟨_,rfl⟩
   have av:t<64:=by omega
   have e1:bits .and .u64 (a.n:Int) 63=(t:Int):=by rw[XS (by omega) (by omega),ht];omega
   have al:prog.arrayLen 136=64:=by kernel_rfl
   have t0:(0:Int)≤(t:Int):=by omega
   have t1:(t:Int)≤64:=by omega
   have tn:(t:Int).toNat=t:=by omega
   have tm:¬(64=t):=by omega
   have S1:=@J (∀w,(Instr.sliceAt 136 (.pointer (some ⟨p,8,none⟩)) (some (.int .i64 t)) none none).run prog w=.ok (.slice (some ⟨p,8+t,none⟩) (64-t) (64-t)) w) (λw=>by
    have i8:(sizeOf (prog.elem 136)).run prog w=.ok 1 w:=by kernel_rfl
    rw[run_sliceAt_array_l w _ _ (by kernel_rfl) .i64 t t0 (by rw[al];exact t1),i8]
    simp[slicedAt,al,tm,Jp])
   have s1:=S1.o
   obtain⟨h8,ad,ak⟩:=qV g.o s.o
   obtain⟨k,hk⟩:∃k,k=Nat.min r.length (64-t):=⟨_,rfl⟩
   have k1:0<k∧k≤r.length∧k≤64-t:=by rw[hk];refine⟨?_,Nat.min_le_left _ _,Nat.min_le_right _ _⟩;exact Nat.lt_min.2 ⟨r0,by omega⟩
   have T:=@J (((r.take k).map zu).length=k) (by rw[length_map,length_take];omega)
   have Z:=J (run_copy_cells (P:=prog) wr 84 84 3 5 p (8+t) (64-t) (64-t) ⟨b,o,none⟩ r.length c ((r.take k).map zu) Tryz.underlying84 (by kernel_rfl) (by rw[T.o,hk]) (λj v n=>by
     rw[Jp]
     refine Q j v ?_
     rw[getElem?_map] at n⊢
     rw[List.getElem?_take] at n
     split at n
     ·exact n
     ·simp at n) (λj n=>by
     have af:t+j<64:=by rw[T.o] at n;omega
     have:=ad (t+j) _ (getElem?_eq_getElem (by rw[length_map,g.o.op];exact af))
     rw[show 8+t+j=8+(t+j) by omega,this]
     rfl) (λj n=>zW s.o) (λv hv=>by obtain⟨x,-,rfl⟩:=mem_map.1 hv;rfl))
   rw[T.o] at Z
   obtain⟨H,D⟩:∃H:Option Addr,H=if c=k then some ⟨b,o,none⟩ else some ⟨b,o+k,none⟩:=⟨_,rfl⟩
   have S2:=@J (∀w,(Instr.slice 84 (.slice (some ⟨b,o,none⟩) r.length c) (some (.int .i64 k)) none none).run prog w=.ok (.slice H (r.length-k) (c-k)) w) (λw=>by
    have i8:(sizeOf (prog.elem 84)).run prog w=.ok 1 w:=by kernel_rfl
    rw[Go.run_slice_l (P:=prog) w 84 (some ⟨b,o,none⟩) r.length c (by kernel_rfl) IntKind.i64 (k:Int) (by omega) (by omega),i8,D]
    simp[sliced,Jp])
   have A2:=@J (c≠k→H=some ⟨b,o+k,none⟩) (λh=>by rw[D,if_neg h])
   clear D
   have s2:=S2.o
   have kk:(0:Int)≤(k:Int):=by omega
   have G:=@J ((wr.setCells p (8+t) ((r.take k).map zu)).heap[p]? =some (.cells (yK ⟨a.st,JS a.op t (r.take k),a.n⟩).toArray 156 (0,0))) (by
    have:=yN p 156 ((r.take k).map zu) (8+t) wr _ s.o
    rw[this]
    have e:=zb6 (r.take k) a.op t (a.st.map yJ) [.int .u64 a.n] (by rw[length_take,g.o.op];omega)
    rw[length_map,g.o.st] at e
    unfold yK
    rw[List.toList_toArray,e])
   have FC:=J (zv p ((r.take k).map zu) (8+t) wr)
   have y:=@J (qE ⟨a.st,JS a.op t (r.take k),a.n⟩) (⟨g.o.st,by rw[Zg];exact g.o.op⟩)
   obtain⟨z,X⟩:∃z,z=(a.n+k) % 64:=⟨_,rfl⟩
   have e3:((a.n:Int)+(k:Int)) % 18446744073709551616=(a.n:Int)+(k:Int):=by omega
   have e2:bits .and .u64 ((a.n:Int)+(k:Int)) 63=(z:Int):=by rw[XS (by omega) (by omega),X];omega
   have NX:=@J ((d++r.take k).foldl xS h=zcl a (r.take k)) (by
    rw[List.foldl_append,ae]
    exact YQ _ _ (by intro e;have:=T.o;rw[e] at this;simp at this;omega) (by rw[length_take];omega))
   have AC:=@J (zcl a (r.take k)=⟨if z=0 then xl a.st (JS a.op t (r.take k)) else a.st,JS a.op t (r.take k),a.n+k⟩) (by
    have ag:(r.take k).length=k:=by rw[length_take];omega
    unfold zcl
    rw[ag,←X,←ht])
   have SP:=@J (d++r=(d++r.take k)++r.drop k) (by rw[List.append_assoc,List.take_append_drop])
   have BN:=@J (∀W,Fr (λj=>j=p) wr W→vR W p (.slice H (r.length-k) (c-k)) (r.drop k)) (λW f=>by
    have ah:(r.drop k).length=r.length-k:=List.length_drop
    by_cases hck:c=k
    ·exact .inl ⟨List.eq_nil_of_length_eq_zero (by omega),H,c-k,by rw[show r.length-k=0 by omega]⟩
    ·refine .inr ⟨b,o+k,c-k,by rw[A2.o hck,ah],O,?_,by omega⟩
     refine zb (λj v n=>?_) f O
     rw[getElem?_map,List.getElem?_drop] at n
     have:=Q (k+j) v (by rw[getElem?_map];exact n)
     rwa [show o+(k+j)=o+k+j by omega] at this)
   have ao:=k1.1
   clear ht hk
   by_cases hz0:z=0
   ·have j2:((z:Int)==0)=true:=by rw[hz0];rfl
    have au:a.st=a.st:=rfl
    clear X
    go_upto_region 6 with((with_reducible refine xF 21 ?_);refine Yj rfl rfl rfl rfl Z.o ?_;generalize wr.setCells p (8+t) ((r.take k).map zu)=wc at*;have M:=(qV y.o G.o).2.2;have ab:=zW (i:=72) G.o)
    have A:=@J ((d++r.take k).foldl xS h=⟨xl a.st (JS a.op t (r.take k)),JS a.op t (r.take k),a.n+k⟩) (by rw[NX.o,AC.o,if_pos hz0])
    have fs:Fr (λj=>j=p) wc (wc.setCell ⟨p,72,none⟩ (.int .u64 ((a.n:Int)+(k:Int)))):=(Fr.refl (λj=>j=p) wc).setCell ⟨p,72,none⟩ (.inr rfl) _
    have F:=@J (Fr (λj=>j=p) wr (wc.setCell ⟨p,72,none⟩ (.int .u64 ((a.n:Int)+(k:Int))))) (FC.o.trans fs (λ_ _ h=>h))
    have m:=@J (qE ⟨a.st,JS a.op t (r.take k),a.n+k⟩) (⟨y.o.st,y.o.op⟩)
    have H9:=@J ((wc.setCell ⟨p,72,none⟩ (.int .u64 ((a.n:Int)+(k:Int)))).heap[p]? =some (.cells (yK ⟨a.st,JS a.op t (r.take k),a.n+k⟩).toArray 156 (0,0))) (by
     have:=heap_setCell_same wc p 72 _ _ (.int .u64 ((a.n:Int)+(k:Int))) G.o
     rw[this]
     congr 2
     simp only[yK,setIfInBounds_toArray]
     rw[List.set_append_right _ _ (by simp[g.o.st,Zg,g.o.op])]
     simp[g.o.st,Zg,g.o.op])
    have u:=J g.o.st
    have B:=J m.o.op
    generalize JS a.op t (r.take k)=q at*
    generalize wc.setCell ⟨p,72,none⟩ (.int .u64 ((a.n:Int)+(k:Int)))=I at*
    have BK:=J (λ(w:World) (h1:Je w) (h2:2<w.heap.size)=>zdP h1 h2 u.o B.o)
    have C:=J (Xk a.st q)
    generalize xl a.st q=S at*
    have HD:=J ((frN I).drew.obj H9.o id)
    have GD:=@J (Je I.drew) ((((HG.o.keep L.o (λe=>V.o.1 e.symm) (λe=>V.o.2 e.symm)).keep F.o (λe=>V.o.1 e.symm) (λe=>V.o.2 e.symm)).keep (frN I).drew id id))
    have SZ:=@J (2<I.drew.heap.size) (by have:=HW.o;have:=L.o.size;have:=F.o.size;have:=(frN I).drew.size;omega)
    obtain⟨d8,y8,r8⟩:=ze5
    obtain⟨an,aj,ai⟩:=ze4
    have L8:=@J ((a.st.map yJ).length=8) (by rw[length_map];exact u.o)
    have aa:=@J ((q.map zu).length=64) (by rw[length_map];exact B.o)
    refine yD [ff,ff,ff,ff,ff,ff,ff,ff,ff,tt,ff,ff,tt] (λw'=>w'.rangeAt p 0 (a.st.map yJ)∧w'.rangeAt p 8 (q.map zu)) (by kernel_rfl) (by kernel_rfl) 12 (by kernel_rfl) (by kernel_rfl) ?_ (λK hK=>?_)
    ·exact⟨(qV m.o HD.o).1,(qV m.o HD.o).2.1⟩
    repeat((first|(refine ym rfl ?_;constructor;constructor;(focus(first|exact yY (ty:=134) rfl (λw h=>h.1) y8 r8 (by rw[L8.o];exact zfi)|exact yY (ty:=136) rfl (λw h=>h.2) aj ai (by rw[aa.o];exact zfh)|(rintro w' -;exact goS))))|(refine yn rfl ?_));try simp only[Act.put,pA,pB,pC])
    (refine yf rfl (λK' hK'=>?_))
    go_simp
    refine(BK.o _ GD.o SZ.o).mono ?_
    rintro e' Y ⟨rfl,f6⟩
    have F6:=J f6
    have U:=J (f6.obj HD.o id)
    clear f6
    refine hK'.out _ _ (λ_=>?_) (λhS=>?_)
    ·exact⟨(qV m.o U.o).1,(qV m.o U.o).2.1⟩
    try simp only[Act.put,pA,pB,pC]
    repeat((first|(refine ym rfl ?_;constructor;constructor;(focus(first|(rintro w' -;exact goS))))|(refine yn rfl ?_));try simp only[Act.put,pA,pB,pC])
    (refine yf rfl (λK' hK'=>?_))
    refine xx (zy (ty:=134) (b:=p) (off:=0) (cs:=S.map yJ) rfl rfl rfl (zM U.o (by simp[yK,u.o,B.o,C.o])) (by rw[length_map,C.o];exact zfi) (λv hv=>by obtain⟨x,-,rfl⟩:=mem_map.1 hv;rfl)) ?_
    refine hK'.out _ _ (λh=>absurd rfl h) (λhS=>?_)
    refine qp (hK.out _ _ ?_)
    have FE:=@J (Fr (λj=>j=p) wr (Y.setCells p 0 (S.map yJ))) (((F.o.trans0 (frN I).drew).trans0 F6.o).trans (zv p _ 0 Y) (λ_ _ h=>h))
    have HE:=@J ((Y.setCells p 0 (S.map yJ)).heap[p]? =some (.cells (yK ((d++r.take k).foldl xS h)).toArray 156 (0,0))) (by
     rw[A.o]
     have:=yN p 156 (S.map yJ) 0 Y _ U.o
     refine this.trans ?_
     congr 2
     have e:=qL (S.map yJ) [] (a.st.map yJ) (q.map zu++[.int .u64 ((a.n+k:Nat):Int)]) (by rw[length_map,length_map,C.o,u.o])
     simp only[List.nil_append,List.length_nil] at e
     simp only[yK,List.append_assoc]
     rw[e])
    go_wp2
    go_roundw
    case rel=>exact⟨d++r.take k,r.drop k,SP.o,BN.o _ FE.o,HE.o,L.o.trans FE.o (λ_ _ h=>h)⟩
    case measure=>show r.length-k<r.length;omega
   ·have j2:((z:Int)==0)=false:=by rw[beq_eq_false_iff_ne];omega
    have A:=@J ((d++r.take k).foldl xS h=⟨a.st,JS a.op t (r.take k),a.n+k⟩) (by rw[NX.o,AC.o,if_neg hz0])
    clear X
    go_wp2_with ((with_reducible refine xF 21 ?_);refine Yj rfl rfl rfl rfl Z.o ?_;generalize wr.setCells p (8+t) ((r.take k).map zu)=wc at*;have M:=(qV y.o G.o).2.2;have ab:=zW (i:=72) G.o)
    have fs:Fr (λj=>j=p) wc (wc.setCell ⟨p,72,none⟩ (.int .u64 ((a.n:Int)+(k:Int)))):=(Fr.refl (λj=>j=p) wc).setCell ⟨p,72,none⟩ (.inr rfl) _
    have F:=@J (Fr (λj=>j=p) wr (wc.setCell ⟨p,72,none⟩ (.int .u64 ((a.n:Int)+(k:Int))))) (FC.o.trans fs (λ_ _ h=>h))
    have H9:=@J ((wc.setCell ⟨p,72,none⟩ (.int .u64 ((a.n:Int)+(k:Int)))).heap[p]? =some (.cells (yK ((d++r.take k).foldl xS h)).toArray 156 (0,0))) (by
     rw[A.o]
     have:=heap_setCell_same wc p 72 _ _ (.int .u64 ((a.n:Int)+(k:Int))) G.o
     rw[this]
     congr 2
     simp only[yK,setIfInBounds_toArray]
     rw[List.set_append_right _ _ (by simp[g.o.st,Zg,g.o.op])]
     simp[g.o.st,Zg,g.o.op])
    go_roundw
    case rel=>exact⟨d++r.take k,r.drop k,SP.o,BN.o _ F.o,H9.o,L.o.trans F.o (λ_ _ h=>h)⟩
    case measure=>show r.length-k<r.length;omega
def vL:vI:=⟨ZT,List.replicate 64 0,0⟩
theorem Yq:qE vL:=⟨rfl,by simp[vL]⟩
theorem zgW (h:Je w):w.rangeAt 0 0 (ZT.map yJ):=λj v a=>by
 rw[getElem?_map] at a
 cases hx:ZT[j]? with
 |none=>rw[hx] at a;cases a
 |some x=>
  rw[hx] at a
  cases a
  have:=h.i j x hx
  rw[zero_add]
  exact this
theorem zaC:prog.built 156 [(0,.agg (ZT.map yJ).toArray)]=some (yK vL).toArray:=by kernel_rfl
theorem zfu (a:Je w):Calls prog 61 #[] w λe w'=>e=.returned (.pointer (some ⟨w.heap.size,0,none⟩))∧w'=w.alloc (.cells (yK vL).toArray 156):=by
 have R:=J (zgW a)
 clear a
 obtain⟨d,c,b⟩:=ze5
 go_enter Tryz.func61,Tryz.ntmps61
 go_wp2_with (first|((with_reducible refine xF 1 ?_);refine zg rfl (ye (ty:=134) rfl rfl R.o c b (by kernel_rfl)) ?_)|((with_reducible refine xF 2 ?_);refine zg rfl (zbq (t:=156) rfl rfl zaC) ?_))
 go_ret
 exact⟨rfl,rfl⟩
def Jo (w:World) (p:Nat) (v:Value) (L:List (List Int)):Prop:=
 ∃va vc,v=.slice va L.length vc∧∀(i:Nat) (l:List Int),L[i]? =some l→∃b off pv,va=some ⟨b,off,none⟩∧b≠p∧w.cell? ⟨b,off+i,none⟩=some pv∧vR w p pv l
theorem Jo.keep {L:List (List Int)} (h:Jo w p v L) (f:Fr (λj=>j=p) w w'):Jo w' p v L:=by
 obtain⟨m,n,e,h⟩:=h
 refine⟨m,n,e,λi l hi=>?_⟩
 obtain⟨b,off,k,c,a,d,g⟩:=h i l hi
 exact⟨b,off,k,c,a,f.cell d a,g.keep f⟩
theorem zeE (z:Je w) (m:2<w.heap.size) {h:vI} (ok:qE h) (g:w.heap[p]? =some (.cells (yK h).toArray 156 (0,0))) (B:p≠0∧p≠2) {L:List (List Int)} (A:Jo w p v L) (Y:L.length≤1000000) (hn:h.n+L.flatten.length≤4611686018427387904):
  Calls prog 62 #[.pointer (some ⟨p,0,none⟩),v] w λe w'=>e=.returned (.int .i64 0)∧w'.heap[p]? =some (.cells (yK (L.flatten.foldl xS h)).toArray 156 (0,0))∧Fr (λj=>j=p) w w':=by
 have I:=J z
 have M:=J m
 have r:=J B
 have O:=J ok
 have G:=J g
 have K:=J A
 obtain⟨va,vc,rfl,-⟩:=A
 clear z m B ok g
 go_enter Tryz.func62,Tryz.ntmps62
 go_wp2
 go_loopw [11] (λu wr=>∃n:Nat,u=.int .i64 n∧n≤L.length∧wr.heap[p]? =some (.cells (yK ((L.take n).flatten.foldl xS h)).toArray 156 (0,0))∧Fr (λj=>j=p) w wr) (λu _=>L.length-(intOf u).toNat)
 case atStart=>exact⟨0,rfl,Nat.zero_le _,G.o,Fr.refl _ _⟩
 case round=>
  obtain⟨n,rfl,S,g,fr⟩:=hrel
  have d:=J fr
  have f:=J g
  clear fr g
  by_cases k:n<L.length
  ·have U:(n:Int)<(L.length:Int):=by omega
   obtain⟨l,o⟩:∃l,L[n]? =some l:=⟨_,getElem?_eq_getElem k⟩
   obtain⟨V,W,T,i⟩:=K.o.keep d.o
   obtain⟨b,off,pv,t,R,c1,c⟩:=i n l o
   cases T
   subst t
   obtain⟨pa,pc,rfl⟩:=c.form
   have C:=J c
   have E:=@J ((L.take (n+1)).flatten.foldl xS h=l.foldl xS ((L.take n).flatten.foldl xS h)) (by rw[List.take_add_one,o];simp)
   have N:=@J (((L.take n).flatten.foldl xS h).n+l.length≤4611686018427387904) (by
    rw[JG]
    have:L=L.take n++l::L.drop (n+1):=by
     have y:=(List.take_append_drop n L).symm
     rw[List.drop_eq_getElem_cons k,(List.getElem?_eq_some_iff.1 o).2] at y
     exact y
    have Q:=congrArg (λX=>X.flatten.length) this
    simp only[List.flatten_append,List.flatten_cons,List.length_append] at Q
    omega)
   have s:=J (O.o.adds (l:=(L.take n).flatten))
   have F:=J (I.o.keep d.o (λe=>r.o.1 e.symm) (λe=>r.o.2 e.symm))
   have P:=@J (2<wr.heap.size) (by have:=M.o;have:=d.o.size;omega)
   generalize (L.take n).flatten.foldl xS h=Z at*
   clear c i o
   go_wp2_with (go_at_call 84;refine(Ql F.o P.o s.o f.o r.o C.o N.o).mono ?_;rintro e w2 ⟨rfl,a,x⟩;rw[←E.o] at a;have q:=J a;have D:=J (d.o.trans x (λ_ _ h=>h));clear a x)
   go_roundw
   case rel=>exact⟨n+1,by simp,by omega,q.o,D.o⟩
   case measure=>show L.length-(n+1)<L.length-n;omega
  ·have U:¬(n:Int)<(L.length:Int):=by omega
   have H:=@J (wr.heap[p]? =some (.cells (yK (L.flatten.foldl xS h)).toArray 156 (0,0))) (by
    have:=f.o
    rwa [show L.take n=L by rw[show n=L.length by omega,List.take_length]] at this)
   go_wp2
   go_ret
   exact⟨rfl,H.o,d.o⟩
def Jy (n:Nat):Nat:=(120-n % 64) % 64
theorem Vk (n:Nat):(n+Jy n) % 64=56:=by unfold Jy;omega
theorem zgJ {n z:Nat} (h:z<Jy n):(n+z) % 64≠56:=by unfold Jy at h;omega
def Yg (n:Nat):List Int:=[((n:Int)*8 % 18446744073709551616) / 72057594037927936 % 256,((n:Int)*8 % 18446744073709551616) / 281474976710656 % 256,((n:Int)*8 % 18446744073709551616) / 1099511627776 % 256,((n:Int)*8 % 18446744073709551616) / 4294967296 % 256,((n:Int)*8 % 18446744073709551616) / 16777216 % 256,((n:Int)*8 % 18446744073709551616) / 65536 % 256,((n:Int)*8 % 18446744073709551616) / 256 % 256,((n:Int)*8 % 18446744073709551616) % 256]
def JC (x:Int):List Int:=[x / 16777216 % 256,x / 65536 % 256,x / 256 % 256,x % 256]
def Jz (h:vI):vI:=(Yg h.n).foldl xS ((List.replicate (Jy (h.n+1)) 0).foldl xS (xS h 128))
def VR (h:vI):List Int:=(Jz h).st.flatMap JC
def y9 (l:List Int):List Int:=VR (l.foldl xS vL)
def xL (l:List Int):List Int:=y9 (y9 l)
def j9 (B:List Int) (m:Nat):List Int:=B.take m++List.replicate (32-m) 0
theorem Vj (a:B.length=32) (b:m≤32):(j9 B m).length=32:=by simp[j9];omega
theorem Yc (c:B.length=32) (d:m<32):(j9 B m).set m (B.getD m 0)=j9 B (m+1):=by
 unfold j9
 have a:32-m=(32-(m+1))+1:=by omega
 have b:(B.take m).length=m:=by simp;omega
 rw[a,List.replicate_succ,List.set_append_right _ _ (by omega),b,Nat.sub_self,List.set_cons_zero,List.take_add_one,List.append_assoc]
 simp[List.getD_eq_getElem?_getD,getElem?_eq_getElem (show m<B.length by omega)]
theorem Y5:∀(S:List Int),(S.flatMap JC).length=4*S.length
 |[]=>rfl
 |x::S=>by
  rw[List.flatMap_cons,List.length_append,Y5 S,List.length_cons]
  have:(JC x).length=4:=rfl
  omega
theorem flat_get:∀(S:List Int) (i k:Nat),k<4→i<S.length→(S.flatMap JC).getD (4*i+k) 0=(JC (S.getD i 0)).getD k 0
 |[],_,_,_,h=>absurd h (by simp)
 |x::S,0,k,hk,_=>by
  rcases(show k=0∨k=1∨k=2∨k=3 by omega) with rfl|rfl|rfl|rfl<;>rfl
 |x::S,i+1,k,hk,h=>by
  have ih:=flat_get S i k hk (by simpa using h)
  have e:4*(i+1)+k=(4*i+k)+4:=by omega
  rw[List.flatMap_cons,e]
  exact ih
theorem zbM (a:B.length=32):j9 B 32=B:=by
 unfold j9
 rw[List.take_of_length_le (by omega)]
 simp
theorem Qp (a:B.length=32) (b:m<32):∃x,((j9 B m).map zu)[m]? =some (.int .u8 x):=
 ⟨(j9 B m)[m]'(by rw[Vj a (by omega)];exact b),by rw[getElem?_map,getElem?_eq_getElem (by rw[Vj a (by omega)];exact b)];rfl⟩
theorem zdt {S:List Int} (hS:S.length=8) {i:Nat} (hi:i<8) (w:World):(Instr.index 134 (.agg (S.map yJ).toArray) (.int .i64 i)).run prog w=.ok (.int .u32 (S.getD i 0)) w:=by
 have b:(0≤(i:Int)∧(i:Int)<((8:Nat):Int)):=by omega
 have c:(sizeOf 59).run prog w=.ok 1 w:=by kernel_rfl
 simp[Instr.index,run_underlying Tryz.underlying134,asIntOf,b,c,part,go_sem]
 have a:i<S.length:=by omega
 rw[getElem?_eq_getElem a]
 simp[hi,yJ]
theorem Vb:(prog.info? 156).map (·.size)=some 73:=by kernel_rfl
theorem zcz:∃d,prog.underlying 156=some d∧d.isRow=true:=vq (by kernel_rfl)
theorem zbw {h:vI}:∀u∈yK h,u.oneCell'=true:=λu a=>by
 simp only[yK,mem_append,mem_map,List.mem_singleton] at a
 rcases a with(⟨x,-,rfl⟩|⟨x,-,rfl⟩)|rfl<;>rfl
theorem Qy (w:World) (x:Int) (a:p≠w.heap.size):vR (w.alloc (.cells #[.int .u8 x] 5)) p (.slice (some ⟨w.heap.size,0,none⟩) 1 1) [x]:=
 .inr ⟨w.heap.size,0,1,rfl,λe=>a e.symm,zK w [Value.int .u8 x] 5,le_refl _⟩
def yO:Array Value:=((List.replicate 32 (0:Int)).map zu).toArray
def zgb:Array Value:=(yK ⟨List.replicate 8 0,List.replicate 64 0,0⟩).toArray
theorem zci:zgb.size=73:=by kernel_rfl
def zcj:Array Value:=((List.replicate 8 (0:Int)).map zu).toArray
def szL (n i:Nat):List Int:=(Yg n).take i++List.replicate (8-i) 0
def zbB (w:World) (p N:Nat):Nat:=match w.cell? ⟨p,72,none⟩ with
 |some (.int _ n)=>N-n.toNat
 |_=>0
theorem qm:(prog.info? 40).map (·.size)=some 32:=by kernel_rfl
theorem QP:∃d,prog.underlying 40=some d∧d.isRow=true:=vq (by kernel_rfl)
theorem zfV (hg:Je w) (aj:2<w.heap.size) {h:vI} (ok:qE h) (hb:w.heap[p]? =some (.cells (yK h).toArray 156 (0,0))) (hp:p≠0∧p≠2) (hn:h.n≤1000000000000):
  Calls prog 63 #[.pointer (some ⟨p,0,none⟩)] w λe w'=>e=.returned (.tuple #[.agg ((VR h).map zu).toArray,.int .i64 0])∧Fr No w w':=by
 have HG:=J hg
 have I:=J aj
 have OK:=J ok
 have HB:=J hb
 obtain⟨dH,yH,rH⟩:=zcz
 have zH:∀w,(zeroValue 156).run prog w=.ok (.agg zgb) w:=λw=>by kernel_rfl
 have aB:∀w,(zeroValue 40).run prog w=.ok (.agg yO) w:=λw=>by kernel_rfl
 have RH:=@J (∀W,Fr No w W→W.rangeAt p 0 (yK h)) (λW f=>xy (f.obj hb id))
 have HL:=J (zbv ok)
 clear hg aj hp ok hb
 go_enter Tryz.func63,Tryz.ntmps63
 have F1:=@J (Fr No w (w.alloc (.cells yO 40))) ((frN w).alloc _)
 have B1:=J (zS w (.cells yO 40))
 have o:=@J (w.heap.size<(w.alloc (.cells yO 40)).heap.size) (by simp)
 go_wp2_with (first|((with_reducible refine xF 16 ?_);refine zg rfl (ye (ty:=156) rfl rfl (RH.o _ F1.o) yH rH (by rw[HL.o];exact Vb)) ?_;generalize w.alloc (.cells yO 40)=Q at*;generalize ay:w.heap.size=q2 at*)|((with_reducible refine zr ?_);refine ze rfl (zj (w:=Q) (ty:=156) (cs:=yK h) rfl rfl rfl (by rw[HL.o];exact zci) (by rw[HL.o];exact Vb) zbw) ?_;have B2:=J (zS Q (.cells (yK h).toArray 156));have F2:=@J (Fr No Q (Q.alloc (.cells (yK h).toArray 156))) ((frN Q).alloc _);have Q2:=@J (Q.heap.size<(Q.alloc (.cells (yK h).toArray 156)).heap.size) (by simp);generalize Q.alloc (.cells (yK h).toArray 156)=w2 at*;generalize ax:Q.heap.size=g at*)|(go_at_call 84;refine(Ql (p:=g) (((HG.o.keep F1.o id id).keep F2.o id id).keep ((frN w2).alloc (.cells #[.int .u8 128] 5)) id id) (by have:=o.o;have:=Q2.o;have:=I.o;simp;omega) OK.o (((frN w2).alloc (.cells #[.int .u8 128] 5)).obj B2.o id) ⟨by have:=o.o;have:=I.o;omega,by have:=o.o;have:=I.o;omega⟩ (Qy w2 128 (by have:=Q2.o;omega)) (by simp;omega)).mono ?_;rintro e R ⟨rfl,af,f3⟩;have B3:=J af;have Z:=@J (Fr (λj=>j=g) w2 R) ((((frN w2).alloc (.cells #[.int .u8 128] 5)).of0 (W:=λj=>j=g)).trans f3 (λ_ _ h=>h));clear af f3))
 have aa:=@J (Je R) (((HG.o.keep F1.o id id).keep F2.o id id).keep Z.o (by have:=o.o;have:=I.o;omega) (by have:=o.o;have:=I.o;omega))
 have C:=@J (g≠0∧g≠2∧2<R.heap.size∧g<R.heap.size) (⟨by have:=o.o;have:=I.o;omega,by have:=o.o;have:=I.o;omega,by have:=o.o;have:=I.o;have:=Q2.o;have:=Z.o.size;omega,by have:=Q2.o;have:=Z.o.size;omega⟩)
 have ad:=J (OK.o.adds (l:=[128]))
 have N1:=@J ((([128]:List Int).foldl xS h).n=h.n+1) (rfl)
 have H1:=@J (([128]:List Int).foldl xS h=xS h 128) (rfl)
 generalize ([128]:List Int).foldl xS h=a at*
 have pl:Jy a.n<64:=by unfold Jy;omega
 have n1:a.n≤1000000000001:=by rw[N1.o];omega
 go_loopw [19] (λ_ wr=>∃z:Nat,z≤Jy a.n∧wr.heap[g]? =some (.cells (yK ((List.replicate z 0).foldl xS a)).toArray 156 (0,0))∧Fr (λj=>j=g) R wr) (λ_ wr=>zbB wr g (a.n+Jy a.n))
 case atStart=>exact⟨0,Nat.zero_le _,B3.o,Fr.refl _ _⟩
 case round=>
  obtain⟨z,hz,X,fz⟩:=hrel
  have T:=J fz
  have BZ:=J X
  have L:=J (ad.o.adds (l:=List.replicate z 0))
  have NZ:=@J (((List.replicate z 0).foldl xS a).n=a.n+z) (by rw[JG,List.length_replicate])
  have SZ:=@J ((List.replicate (z+1) 0).foldl xS a=([0]:List Int).foldl xS ((List.replicate z 0).foldl xS a)) (by rw[List.replicate_succ',List.foldl_append])
  have HX:=@J ((List.replicate z 0).foldl xS a=(List.replicate z 0).foldl xS a) (rfl)
  generalize ai:(List.replicate z 0).foldl xS a=hh at*
  clear HX
  have HX:=J ai
  clear ai
  obtain⟨-,-,aq⟩:=qV L.o X
  have LM:=@J (zbB wr g (a.n+Jy a.n)=a.n+Jy a.n-(a.n+z)) (by unfold zbB;rw[aq,NZ.o];simp only[];omega)
  clear fz X
  obtain⟨m,hm⟩:∃m,m=hh.n % 64:=⟨_,rfl⟩
  have e1:bits .and .u64 (hh.n:Int) 63=(m:Int):=by have:=NZ.o;rw[XS (by omega) (by omega),hm];omega
  by_cases hzp:z=Jy a.n
  ·have au:m=56:=by rw[hm,NZ.o,hzp];exact Vk _
   subst au
   have j1:(((56:Nat):Int)==56)=true:=rfl
   have z8:∀w,(zeroValue 158).run prog w=.ok (.agg zcj) w:=λw=>by kernel_rfl
   have F4:=@J (Fr No wr (wr.alloc (.cells zcj 158))) ((frN wr).alloc _)
   have B4:=J (zS wr (.cells zcj 158))
   have M:=@J (g<wr.heap.size) (by have:=C.o.2.2.2;have:=T.o.size;omega)
   have PP:=@J (p<w.heap.size∧p≠g) (⟨yu HB.o,by have:=yu HB.o;have:=o.o;omega⟩)
   have ak:=@J ((wr.alloc (.cells zcj 158)).cell? ⟨p,72,none⟩=some (.int .u64 h.n)) (F4.o.cell (T.o.cell (Z.o.cell (F2.o.cell (F1.o.cell (qV OK.o HB.o).2.2 id) id) PP.o.2) PP.o.2) id)
   clear hm
   go_wp2
   generalize wr.alloc (.cells zcj 158)=w4 at*
   generalize az:wr.heap.size=r at*
   go_loopw [25] (λE wi=>∃i:Nat,E=.int .i64 i∧i≤8∧wi.heap[r]? =some (.cells ((szL h.n i).map zu).toArray 158 (0,0))∧Fr (λj=>j=r) w4 wi) (λE _=>8-(intOf E).toNat)
   case atStart=>exact⟨0,rfl,by omega,B4.o,Fr.refl _ _⟩
   case round=>
    obtain⟨i,rfl,hi,N,fi⟩:=hrel
    have H:=J fi
    have K:=J N
    have PQ:=@J (p≠r) (by have:=PP.o.1;have:=o.o;have:=M.o;have:=Q2.o;omega)
    have c7:=fi.cell ak.o PQ.o
    have ar:=λi=>zW (i:=i) N
    have q:=xy N
    clear fi N
    by_cases h8:i<8
    ·rcases(show i=0∨i=1∨i=2∨i=3∨i=4∨i=5∨i=6∨i=7 by omega) with rfl|rfl|rfl|rfl|rfl|rfl|rfl|rfl
     ·have d:=q 0 (.int .u8 0) rfl
      simp only[zero_add] at d
      clear q
      have c:=@J (∀v:Int,v=((h.n:Int)*8 % 18446744073709551616) / 72057594037927936 % 256→some (Obj.cells (((szL h.n 0).map zu).toArray.setIfInBounds 0 (.int .u8 v)) 158 (0,0))=some (Obj.cells ((szL h.n 1).map zu).toArray 158 (0,0))) (λv e=>by subst e;rfl)
      go_wp2
      go_roundw
      case rel=>exact⟨1,rfl,by omega,(heap_setCell_same wr r 0 _ _ _ K.o).trans (c.o _ (by omega)),H.o.setCell _ (.inr rfl) _⟩
      case measure=>simp[intOf]
     ·have d:=q 1 (.int .u8 0) rfl
      simp only[zero_add] at d
      clear q
      have c:=@J (∀v:Int,v=((h.n:Int)*8 % 18446744073709551616) / 281474976710656 % 256→some (Obj.cells (((szL h.n 1).map zu).toArray.setIfInBounds 1 (.int .u8 v)) 158 (0,0))=some (Obj.cells ((szL h.n 2).map zu).toArray 158 (0,0))) (λv e=>by subst e;rfl)
      go_wp2
      go_roundw
      case rel=>exact⟨2,rfl,by omega,(heap_setCell_same wr r 1 _ _ _ K.o).trans (c.o _ (by omega)),H.o.setCell _ (.inr rfl) _⟩
      case measure=>simp[intOf]
     ·have d:=q 2 (.int .u8 0) rfl
      simp only[zero_add] at d
      clear q
      have c:=@J (∀v:Int,v=((h.n:Int)*8 % 18446744073709551616) / 1099511627776 % 256→some (Obj.cells (((szL h.n 2).map zu).toArray.setIfInBounds 2 (.int .u8 v)) 158 (0,0))=some (Obj.cells ((szL h.n 3).map zu).toArray 158 (0,0))) (λv e=>by subst e;rfl)
      go_wp2
      go_roundw
      case rel=>exact⟨3,rfl,by omega,(heap_setCell_same wr r 2 _ _ _ K.o).trans (c.o _ (by omega)),H.o.setCell _ (.inr rfl) _⟩
      case measure=>simp[intOf]
     ·have d:=q 3 (.int .u8 0) rfl
      simp only[zero_add] at d
      clear q
      have c:=@J (∀v:Int,v=((h.n:Int)*8 % 18446744073709551616) / 4294967296 % 256→some (Obj.cells (((szL h.n 3).map zu).toArray.setIfInBounds 3 (.int .u8 v)) 158 (0,0))=some (Obj.cells ((szL h.n 4).map zu).toArray 158 (0,0))) (λv e=>by subst e;rfl)
      go_wp2
      go_roundw
      case rel=>exact⟨4,rfl,by omega,(heap_setCell_same wr r 3 _ _ _ K.o).trans (c.o _ (by omega)),H.o.setCell _ (.inr rfl) _⟩
      case measure=>simp[intOf]
     ·have d:=q 4 (.int .u8 0) rfl
      simp only[zero_add] at d
      clear q
      have c:=@J (∀v:Int,v=((h.n:Int)*8 % 18446744073709551616) / 16777216 % 256→some (Obj.cells (((szL h.n 4).map zu).toArray.setIfInBounds 4 (.int .u8 v)) 158 (0,0))=some (Obj.cells ((szL h.n 5).map zu).toArray 158 (0,0))) (λv e=>by subst e;rfl)
      go_wp2
      go_roundw
      case rel=>exact⟨5,rfl,by omega,(heap_setCell_same wr r 4 _ _ _ K.o).trans (c.o _ (by omega)),H.o.setCell _ (.inr rfl) _⟩
      case measure=>simp[intOf]
     ·have d:=q 5 (.int .u8 0) rfl
      simp only[zero_add] at d
      clear q
      have c:=@J (∀v:Int,v=((h.n:Int)*8 % 18446744073709551616) / 65536 % 256→some (Obj.cells (((szL h.n 5).map zu).toArray.setIfInBounds 5 (.int .u8 v)) 158 (0,0))=some (Obj.cells ((szL h.n 6).map zu).toArray 158 (0,0))) (λv e=>by subst e;rfl)
      go_wp2
      go_roundw
      case rel=>exact⟨6,rfl,by omega,(heap_setCell_same wr r 5 _ _ _ K.o).trans (c.o _ (by omega)),H.o.setCell _ (.inr rfl) _⟩
      case measure=>simp[intOf]
     ·have d:=q 6 (.int .u8 0) rfl
      simp only[zero_add] at d
      clear q
      have c:=@J (∀v:Int,v=((h.n:Int)*8 % 18446744073709551616) / 256 % 256→some (Obj.cells (((szL h.n 6).map zu).toArray.setIfInBounds 6 (.int .u8 v)) 158 (0,0))=some (Obj.cells ((szL h.n 7).map zu).toArray 158 (0,0))) (λv e=>by subst e;rfl)
      go_wp2
      go_roundw
      case rel=>exact⟨7,rfl,by omega,(heap_setCell_same wr r 6 _ _ _ K.o).trans (c.o _ (by omega)),H.o.setCell _ (.inr rfl) _⟩
      case measure=>simp[intOf]
     ·have d:=q 7 (.int .u8 0) rfl
      simp only[zero_add] at d
      clear q
      have c:=@J (∀v:Int,v=(h.n:Int)*8 % 18446744073709551616 % 256→some (Obj.cells (((szL h.n 7).map zu).toArray.setIfInBounds 7 (.int .u8 v)) 158 (0,0))=some (Obj.cells ((szL h.n 8).map zu).toArray 158 (0,0))) (λv e=>by subst e;rfl)
      go_wp2
      go_roundw
      case rel=>exact⟨8,rfl,by omega,(heap_setCell_same wr r 7 _ _ _ K.o).trans (c.o _ (by omega)),H.o.setCell _ (.inr rfl) _⟩
      case measure=>simp[intOf]
    ·obtain rfl:i=8:=by omega
     have i1:¬((8:Nat):Int)<8:=by omega
     have sl:∀w,(Instr.sliceAt 158 (.pointer (some ⟨r,0,none⟩)) none none none).run prog w=.ok (.slice (some ⟨r,0,none⟩) 8 8) w:=λw=>by kernel_rfl
     have BY:=@J (vR wr g (.slice (some ⟨r,0,none⟩) 8 8) (Yg h.n)) (.inr ⟨r,0,8,rfl,by have:=M.o;omega,q,le_refl _⟩)
     have ae:=@J ((Yg h.n).foldl xS hh=Jz h) (by rw[←HX.o,hzp,N1.o,H1.o];rfl)
     have ao:=J (L.o.adds (l:=Yg h.n))
     have NP:=@J (hh.n+(Yg h.n).length≤4611686018427387904) (by have:=NZ.o;have:(Yg h.n).length=8:=rfl;omega)
     have FA:=@J (Fr (λj=>j=g∨j=r) R wr) (((T.o.mono (λ_ h=>.inl h)).trans (F4.o.of0 (W:=λj=>j=g∨j=r)) (λ_ _ h=>h)).trans H.o (λ_ _ h=>.inr h))
     have al:=@J (Je wr) (aa.o.keep FA.o (by have:=o.o;have:=I.o;have:=M.o;have:=C.o;omega) (by have:=o.o;have:=I.o;have:=M.o;have:=C.o;omega))
     have S4:=@J (2<wr.heap.size) (by have:=C.o.2.2.1;have:=FA.o.size;omega)
     have BP:=@J (wr.heap[g]? =some (.cells (yK hh).toArray 156 (0,0))) (H.o.obj (F4.o.obj BZ.o id) (by have:=M.o;omega))
     clear c7 ar q K
     have U:=@J (qE (Jz h)) (by rw[←ae.o];exact ao.o)
     have L8:=@J (((Jz h).st.map yJ).length=8) (by rw[length_map];exact U.o.1)
     obtain⟨d8,y8,r8⟩:=ze5
     go_wp2_with (first|((with_reducible refine xF 45 ?_);refine zg rfl (ye (ty:=134) rfl rfl (qV U.o (F6.o.obj B5.o id)).1 y8 r8 (by rw[L8.o];exact zfi)) ?_;generalize F.alloc (.cells yO 40)=w6 at*;generalize aA:F.heap.size=O at*)|(go_at_call 84;refine(Ql (p:=g) al.o S4.o L.o BP.o ⟨C.o.1,C.o.2.1⟩ BY.o NP.o).mono ?_;rintro e F ⟨rfl,u,f5⟩;rw[ae.o] at u;have B5:=J u;have F5:=@J (Fr (λj=>j=g∨j=r) R F) (FA.o.trans (f5.mono (λ_ h=>.inl h)) (λ_ _ h=>h));have F6:=@J (Fr No F (F.alloc (.cells yO 40))) ((frN F).alloc _);have B6:=J (zS F (.cells yO 40));clear u f5))
     have V:=J U.o.1
     have G:=@J (((Jz h).st.flatMap JC).length=32) (by rw[Y5,V.o])
     have FG:=J (flat_get (Jz h).st)
     have O6:=@J (w6.heap[O]? =some (.cells ((j9 ((Jz h).st.flatMap JC) (4*0)).map zu).toArray 40 (0,0))) (B6.o)
     have SD:=@J (VR h=(Jz h).st.flatMap JC) (rfl)
     clear sl BY
     generalize aw:(Jz h).st=S at*
     generalize av:S.flatMap JC=s at*
     go_loopw [46] (λE wi=>∃i:Nat,E=.int .i64 i∧i≤8∧wi.heap[O]? =some (.cells ((j9 s (4*i)).map zu).toArray 40 (0,0))∧Fr (λj=>j=O) w6 wi) (λE _=>8-(intOf E).toNat)
     case atStart=>exact⟨0,rfl,by omega,O6.o,Fr.refl _ _⟩
     case round=>
      obtain⟨i,rfl,hi,ah,fo⟩:=hrel
      have FO:=J fo
      have BO:=J ah
      clear fo ah
      by_cases h8:i<8
      ·have hx:=zdt V.o h8
       have i1:((i:Nat):Int)<8:=by omega
       have WG:=J (λk hk=>FG.o i k hk (by rw[V.o];exact h8))
       generalize S.getD i 0=x at*
       go_wp2
       go_loopw [50] (λE wk=>∃k:Nat,E=.int .i64 k∧k≤4∧wk.heap[O]? =some (.cells ((j9 s (4*i+k)).map zu).toArray 40 (0,0))∧Fr (λj=>j=O) w6 wk) (λE _=>4-(intOf E).toNat)
       case atStart=>exact⟨0,rfl,by omega,BO.o,FO.o⟩
       case round=>
        obtain⟨k,rfl,hk,ag,fk⟩:=hrel
        have FK:=J fk
        have B:=J ag
        clear fk ag
        by_cases k4:k<4
        ·rcases(show k=0∨k=1∨k=2∨k=3 by omega) with rfl|rfl|rfl|rfl
         ·obtain⟨j,A⟩:∃j,j=4*i+0:=⟨_,rfl⟩
          have Y:((j:Nat):Int)<32:=by omega
          have j0:(0:Int)≤(j:Int):=by omega
          have jn:(j:Int).toNat=j:=by omega
          have je:4*(i:Int)+0=(j:Int):=by omega
          obtain⟨y,D⟩:=Qp G.o (m:=4*i+0) (by omega)
          have d:=xy B.o _ _ D
          simp only[zero_add,←A] at d
          clear D
          have fz:=zW (i:=j) B.o
          have c:=@J (∀v:Int,v=x / 16777216 % 256→some (Obj.cells (((j9 s (4*i+0)).map zu).toArray.setIfInBounds j (.int .u8 v)) 40 (0,0))=some (Obj.cells ((j9 s (4*i+1)).map zu).toArray 40 (0,0))) (λv e=>by
           rw[A,setIfInBounds_toArray,←show zu v=.int .u8 v from rfl,←List.map_set,show v=s.getD (4*i+0) 0 from(e.trans (WG.o 0 (by omega)).symm),Yc G.o (by omega)])
          have t:=J (λv=>heap_setCell_same wr O j _ _ (.int .u8 v) B.o)
          clear A
          go_wp2
          go_roundw
          case rel=>exact⟨1,rfl,by omega,(t.o _).trans (c.o _ (by omega)),FK.o.setCell _ (.inr rfl) _⟩
          case measure=>simp[intOf]
         ·obtain⟨j,A⟩:∃j,j=4*i+1:=⟨_,rfl⟩
          have Y:((j:Nat):Int)<32:=by omega
          have j0:(0:Int)≤(j:Int):=by omega
          have jn:(j:Int).toNat=j:=by omega
          have je:4*(i:Int)+1=(j:Int):=by omega
          obtain⟨y,D⟩:=Qp G.o (m:=4*i+1) (by omega)
          have d:=xy B.o _ _ D
          simp only[zero_add,←A] at d
          clear D
          have fz:=zW (i:=j) B.o
          have c:=@J (∀v:Int,v=x / 65536 % 256→some (Obj.cells (((j9 s (4*i+1)).map zu).toArray.setIfInBounds j (.int .u8 v)) 40 (0,0))=some (Obj.cells ((j9 s (4*i+2)).map zu).toArray 40 (0,0))) (λv e=>by
           rw[A,setIfInBounds_toArray,←show zu v=.int .u8 v from rfl,←List.map_set,show v=s.getD (4*i+1) 0 from(e.trans (WG.o 1 (by omega)).symm),Yc G.o (by omega)])
          have t:=J (λv=>heap_setCell_same wr O j _ _ (.int .u8 v) B.o)
          clear A
          go_wp2
          go_roundw
          case rel=>exact⟨2,rfl,by omega,(t.o _).trans (c.o _ (by omega)),FK.o.setCell _ (.inr rfl) _⟩
          case measure=>simp[intOf]
         ·obtain⟨j,A⟩:∃j,j=4*i+2:=⟨_,rfl⟩
          have Y:((j:Nat):Int)<32:=by omega
          have j0:(0:Int)≤(j:Int):=by omega
          have jn:(j:Int).toNat=j:=by omega
          have je:4*(i:Int)+2=(j:Int):=by omega
          obtain⟨y,D⟩:=Qp G.o (m:=4*i+2) (by omega)
          have d:=xy B.o _ _ D
          simp only[zero_add,←A] at d
          clear D
          have fz:=zW (i:=j) B.o
          have c:=@J (∀v:Int,v=x / 256 % 256→some (Obj.cells (((j9 s (4*i+2)).map zu).toArray.setIfInBounds j (.int .u8 v)) 40 (0,0))=some (Obj.cells ((j9 s (4*i+3)).map zu).toArray 40 (0,0))) (λv e=>by
           rw[A,setIfInBounds_toArray,←show zu v=.int .u8 v from rfl,←List.map_set,show v=s.getD (4*i+2) 0 from(e.trans (WG.o 2 (by omega)).symm),Yc G.o (by omega)])
          have t:=J (λv=>heap_setCell_same wr O j _ _ (.int .u8 v) B.o)
          clear A
          go_wp2
          go_roundw
          case rel=>exact⟨3,rfl,by omega,(t.o _).trans (c.o _ (by omega)),FK.o.setCell _ (.inr rfl) _⟩
          case measure=>simp[intOf]
         ·obtain⟨j,A⟩:∃j,j=4*i+3:=⟨_,rfl⟩
          have Y:((j:Nat):Int)<32:=by omega
          have j0:(0:Int)≤(j:Int):=by omega
          have jn:(j:Int).toNat=j:=by omega
          have je:4*(i:Int)+3=(j:Int):=by omega
          obtain⟨y,D⟩:=Qp G.o (m:=4*i+3) (by omega)
          have d:=xy B.o _ _ D
          simp only[zero_add,←A] at d
          clear D
          have fz:=zW (i:=j) B.o
          have c:=@J (∀v:Int,v=x % 256→some (Obj.cells (((j9 s (4*i+3)).map zu).toArray.setIfInBounds j (.int .u8 v)) 40 (0,0))=some (Obj.cells ((j9 s (4*i+4)).map zu).toArray 40 (0,0))) (λv e=>by
           rw[A,setIfInBounds_toArray,←show zu v=.int .u8 v from rfl,←List.map_set,show v=s.getD (4*i+3) 0 from(e.trans (WG.o 3 (by omega)).symm),Yc G.o (by omega)])
          have t:=J (λv=>heap_setCell_same wr O j _ _ (.int .u8 v) B.o)
          clear A
          go_wp2
          go_roundw
          case rel=>exact⟨4,rfl,by omega,(t.o _).trans (c.o _ (by omega)),FK.o.setCell _ (.inr rfl) _⟩
          case measure=>simp[intOf]
        ·obtain rfl:k=4:=by omega
         have k1:¬((4:Nat):Int)<4:=by omega
         have ee:4*i+4=4*(i+1):=by omega
         rw[ee] at B
         go_wp2
         go_roundw
         case rel=>exact⟨i+1,by simp,by omega,B.o,FK.o⟩
         case measure=>show 8-(i+1)<8-i;omega
      ·obtain rfl:i=8:=by omega
       have i1:¬((8:Nat):Int)<8:=by omega
       have an:=@J (F.heap[q2]? =some (.cells yO 40 (0,0))) (F5.o.obj (Z.o.obj (F2.o.obj B1.o id) (by have:=o.o;omega)) (by have:=o.o;have:=M.o;omega))
       have ab:=@J (wr.heap[q2]? =some (.cells yO 40 (0,0))) (FO.o.obj (F6.o.obj an.o id) (by have:=o.o;have:=M.o;have:=F5.o.size;have:=C.o.2.2.2;omega))
       rw[show 4*8=32 from rfl,zbM G.o] at BO
       have FL:=@J ((s.map zu).length=32) (by rw[length_map];exact G.o)
       obtain⟨dh,yh,rh⟩:=QP
       go_wp2_with (first|((with_reducible refine xF 67 ?_);refine zg rfl (ye (ty:=40) rfl rfl (xy BO.o) yh rh (by rw[FL.o];exact qm)) ?_)|(refine ze rfl (zy (ty:=40) (b:=q2) (off:=0) (cs:=s.map zu) rfl rfl rfl (by rw[FL.o];exact zM ab.o (le_refl 32)) (by rw[FL.o];exact qm) (λv hv=>by obtain⟨x,-,rfl⟩:=mem_map.1 hv;rfl)) ?_))
       have FN:=@J (Fr No w wr) ((((((F1.o.trans0 F2.o).trans Z.o (λi h e=>(show False by have:=o.o;omega))).trans F5.o (λi h e=>(show False by have:=o.o;have:=M.o;omega))).trans0 F6.o).trans FO.o (λi h e=>(show False by have:=o.o;have:=M.o;have:=F5.o.size;have:=C.o.2.2.2;omega))))
       refine bodyPost_ret (zR (P:=prog) (fn:=Tryz.f63) rfl _ rfl (yE ab.o (by rw[FL.o];rfl)) yh rh (by rw[FL.o];exact qm) rfl) rfl ⟨by rw[SD.o];rfl,FN.o.trans (zv q2 _ 0 wr) (λi h e=>(show False by omega))⟩
  ·have j1:((m:Int)==56)=false:=by
    rw[beq_eq_false_iff_ne]
    have:=zgJ (n:=a.n) (z:=z) (by omega)
    rw[←NZ.o,←hm] at this
    omega
   clear hm
   have G0:=J (aa.o.keep T.o (λe=>C.o.1 e.symm) (λe=>C.o.2.1 e.symm))
   go_wp2_with (go_at_call 84;refine(Ql (p:=g) (G0.o.keep ((frN wr).alloc (.cells #[.int .u8 0] 5)) id id) (by have:=C.o.2.2.1;have:=T.o.size;simp;omega) L.o (((frN wr).alloc (.cells #[.int .u8 0] 5)).obj BZ.o id) ⟨C.o.1,C.o.2.1⟩ (Qy wr 0 (by have:=C.o.2.2.2;have:=T.o.size;omega)) (by have:=NZ.o;simp;omega)).mono ?_;rintro e F ⟨rfl,u,f5⟩;rw[←SZ.o] at u;have B5:=J u;have F5:=@J (Fr (λj=>j=g) R F) (T.o.trans ((((frN wr).alloc (.cells #[.int .u8 0] 5)).of0 (W:=λj=>j=g)).trans f5 (λ_ _ h=>h)) (λ_ _ h=>h));clear u f5)
   go_roundw
   case rel=>exact⟨z+1,by omega,B5.o,F5.o⟩
   case measure=>
    rw[LM.o]
    have c5:=(qV (ad.o.adds (l:=List.replicate (z+1) 0)) B5.o).2.2
    have:zbB F g (a.n+Jy a.n)=a.n+Jy a.n-(a.n+(z+1)):=by
     unfold zbB
     rw[c5,JG,List.length_replicate]
     simp only[]
     omega
    rw[this]
    omega
end Go.Proofs.YtmpamcnlineceaaGreatDoor
namespace Go
structure zE where
 tx:List Int
 n:Int
structure yk where
 value:Int
 lock:List Int
structure zh where
 at_:zE
 out:yk
instance:DecidableEq zE:=λa b=>if h:a.tx=b.tx∧a.n=b.n then isTrue (by cases a;cases b;simp_all) else isFalse (λe=>h (by rw[e];exact⟨rfl,rfl⟩))
def xU (l:List Int):Prop:=l.length=32∧∀x∈l,0≤x∧x≤255
def zE.ok (p:zE):Prop:=xU p.tx∧0≤p.n∧p.n≤4294967295
def yk.ok (x:yk):Prop:=(0≤x.value∧x.value≤18446744073709551615)∧xU x.lock
def zh.ok (c:zh):Prop:=c.at_.ok∧c.out.ok
def vA:List Int→List Int→Int
 |[],[]=>0
 |[],_::_=> -1
 |_::_,[]=>1
 |a::as0,b::bs=>if a<b then -1 else if b<a then 1 else vA as0 bs
theorem Yn:∀a,vA a a=0
 |[]=>rfl
 |x::a=>by simp[vA,Yn a]
theorem Yo:∀ {a b},vA a b=0→a=b
 |[],[],_=>rfl
 |[],_::_,h=>by simp[vA] at h
 |_::_,[],h=>by simp[vA] at h
 |x::a,y::b,h=>by
  unfold vA at h
  split at h
  ·omega
  ·split at h
   ·omega
   ·have:x=y:=by omega
    rw[this,Yo h]
theorem zbf:∀a b,vA b a= - vA a b
 |[],[]=>rfl
 |[],_::_=>rfl
 |_::_,[]=>rfl
 |x::a,y::b=>by
  unfold vA
  by_cases h1:x<y
  ·have:¬y<x:=by omega
   simp[h1,this]
  ·by_cases h2:y<x
   ·simp[h1,h2]
   ·simp only[h1,h2,if_false]
    exact zbf a b
theorem QF:∀ {a b c},vA a b= -1→vA b c= -1→vA a c= -1
 |[],[],_,h,_=>by simp[vA] at h
 |[],_::_,[],_,h=>by simp[vA] at h
 |[],_::_,_::_,_,_=>rfl
 |_::_,[],_,h,_=>by simp[vA] at h
 |_::_,_::_,[],_,h=>by simp[vA] at h
 |x::a,y::b,z::c,h1,h2=>by
  unfold vA at*
  split at h1
  ·split at h2
   ·rw[if_pos (by omega)]
   ·split at h2
    ·omega
    ·rw[if_pos (by omega)]
  ·split at h1
   ·omega
   ·split at h2
    ·rw[if_pos (by omega)]
    ·split at h2
     ·omega
     ·rw[if_neg (by omega),if_neg (by omega)]
      exact QF h1 h2
theorem V6:∀a b,vA a b= -1∨vA a b=0∨vA a b=1
 |[],[]=>.inr (.inl rfl)
 |[],_::_=>.inl rfl
 |_::_,[]=>.inr (.inr rfl)
 |x::a,y::b=>by
  unfold vA
  split
  ·exact .inl rfl
  ·split
   ·exact .inr (.inr rfl)
   ·exact V6 a b
def YS (a b:Int):Int:=if a<b then -1 else if b<a then 1 else 0
def vB (p q:zE):Int:=if vA p.tx q.tx=0 then YS p.n q.n else vA p.tx q.tx
def xV (p q:zE):Bool:=decide (vB p q= -1)
theorem V7 (p q:zE):vB q p= - vB p q:=by
 unfold vB
 rw[zbf p.tx q.tx]
 by_cases h:vA p.tx q.tx=0
 ·rw[h];simp[YS];split<;>split<;>omega
 ·rw[if_neg (by omega),if_neg h]
theorem zcs (p:zE):vB p p=0:=by simp[vB,Yn,YS]
theorem zct {p q:zE} (h:vB p q=0):p=q:=by
 unfold vB at h
 split at h
 ·rename_i h1
  have a:=Yo h1
  unfold YS at h
  split at h
  ·omega
  ·split at h
   ·omega
   ·cases p;cases q;simp only[zE.mk.injEq] at*;exact⟨a,by omega⟩
 ·contradiction
theorem QG (p q:zE):vB p q= -1∨vB p q=0∨vB p q=1:=by
 unfold vB
 split
 ·unfold YS;split
  ·exact .inl rfl
  ·split
   ·exact .inr (.inr rfl)
   ·exact .inr (.inl rfl)
 ·exact V6 _ _
theorem zbh {p q r:zE} (b:vB p q= -1) (a:vB q r= -1):vB p r= -1:=by
 unfold vB at*
 split at b
 ·rename_i e1
  have:=Yo e1
  rw[this]
  split at a
  ·rename_i e2
   rw[if_pos e2]
   unfold YS at*
   split at b
   ·split at a
    ·rw[if_pos (by omega)]
    ·split at a<;>omega
   ·split at b<;>omega
  ·rename_i e2
   rw[if_neg e2]
   exact a
 ·split at a
  ·rename_i e1 e2
   have:=Yo e2
   rw[←this,if_neg (by omega)]
   exact b
  ·have:=QF b a
   rw[if_neg (by omega)]
   exact this
theorem Yd (p:zE):xV p p=false:=by simp[xV,zcs]
theorem ZC {p q r:zE} (a:xV p q=true) (b:xV q r=true):xV p r=true:=by
 unfold xV at*
 simp only[decide_eq_true_eq] at*
 exact zbh a b
theorem Vr {p q:zE} (h:xV p q=true):xV q p=false:=by
 unfold xV at*
 simp only[decide_eq_true_eq,decide_eq_false_iff_not] at*
 rw[V7 p q];omega
theorem YX {p q:zE} (b:xV p q=false) (a:xV q p=false):p=q:=by
 unfold xV at*
 simp only[decide_eq_false_iff_not] at*
 rw[V7 p q] at a
 exact zct (by rcases QG p q with h|h|h<;>omega)
theorem zaP {p q:zE} (h:xV p q=true):p≠q:=λe=>by subst e;rw[Yd] at h;cases h
def xE (S:List zh) (p:zE):Bool:=S.any λc=>decide (c.at_=p)
def JX (S:List zh) (p:zE):Option yk:=(S.find? λc=>decide (c.at_=p)).map (·.out)
def JP (S:List zh) (c:zh):List zh:=S.takeWhile (λx=> !xV c.at_ x.at_)++c::S.dropWhile (λx=> !xV c.at_ x.at_)
def qP (S l:List zh):List zh:=l.foldl JP S
def yU (S:List zh) (ps:List zE):List zh:=S.filter λc=> !decide (c.at_∈ps)
def qg (S:List zh):Prop:=S.Pairwise λa b=>xV a.at_ b.at_=true
theorem Z0 {S:List zh} {p:zE}:xE S p=true↔∃c∈S,c.at_=p:=by simp[xE]
theorem jA {S:List zh} {p:zE}:xE S p=false↔∀c∈S,c.at_≠p:=by simp[xE]
theorem qg.nodup {S:List zh} (h:qg S):(S.map (·.at_)).Nodup:=by
 rw[List.Nodup,List.pairwise_map]
 exact h.imp λh=>zaP h
theorem qg.uniq {S:List zh} (h:qg S) {a b:zh} (c:a∈S) (d:b∈S) (e:a.at_=b.at_):a=b:=by
 induction h with
 |nil=>cases c
 |cons hx _ ih=>
  rcases List.mem_cons.1 c with rfl|ha'<;>rcases List.mem_cons.1 d with rfl|hb'
  ·rfl
  ·exact absurd e (zaP (hx _ hb'))
  ·exact absurd e.symm (zaP (hx _ ha'))
  ·exact ih ha' hb'
theorem Zu {S:List zh} (h:qg S) {c:zh} (b:c∈S):JX S c.at_=some c.out:=by
 unfold JX
 cases e:S.find? λx=>decide (x.at_=c.at_) with
 |none=>
  have:=List.find?_eq_none.1 e c b
  simp at this
 |some x=>
  have d:=List.mem_of_find?_eq_some e
  have a:=List.find?_some e
  simp only[decide_eq_true_eq] at a
  rw[h.uniq d b a];rfl
theorem QS {S:List zh} {p:zE} (h:xE S p=false):JX S p=none:=by
 unfold JX
 rw[List.find?_eq_none.2 (λx a=>by have:=jA.1 h x a;simpa using this)]
 rfl
theorem zaF {S:List zh} {p:zE}:(JX S p).isSome=xE S p:=by
 rw[Bool.eq_iff_iff,Z0]
 unfold JX
 simp
theorem XD {α:Type} {f:α→Bool} {x:α}:∀ {L:List α},x∈L.takeWhile f→f x=true
 |[],h=>by cases h
 |y::L,h=>by
  rw[List.takeWhile_cons] at h
  split at h
  ·rename_i hy
   rcases List.mem_cons.1 h with rfl|h
   ·exact hy
   ·exact XD h
  ·cases h
theorem Vh {S:List zh} {c x:zh}:x∈JP S c↔x=c∨x∈S:=by
 have e:=List.takeWhile_append_dropWhile (p:=λx:zh=> !xV c.at_ x.at_) (l:=S)
 unfold JP
 constructor
 ·intro h
  rcases List.mem_append.1 h with h|h
  ·right;rw[←e];exact List.mem_append.2 (.inl h)
  ·rcases List.mem_cons.1 h with h|h
   ·exact .inl h
   ·right;rw[←e];exact List.mem_append.2 (.inr h)
 ·rintro(rfl|h)
  ·simp
  ·rw[←e] at h
   rcases List.mem_append.1 h with h|h
   ·exact List.mem_append.2 (.inl h)
   ·exact List.mem_append.2 (.inr (List.mem_cons_of_mem _ h))
theorem zeb (S:List zh) (c:zh):(JP S c).Perm (c::S):=by
 unfold JP
 refine List.perm_middle.trans ?_
 rw[List.takeWhile_append_dropWhile]
theorem zfm {S:List zh} (h:qg S) {c:zh} (o:xE S c.at_=false):qg (JP S c):=by
 have g:=jA.1 o
 have e:=List.takeWhile_append_dropWhile (p:=λx:zh=> !xV c.at_ x.at_) (l:=S)
 have k:∀x∈S.takeWhile (λx=> !xV c.at_ x.at_),xV x.at_ c.at_=true:=by
  intro x d
  have n:xV c.at_ x.at_=false:=by have:=XD d;simpa using this
  cases h2:xV x.at_ c.at_ with
  |true=>rfl
  |false=>exact absurd (YX h2 n) (g x ((List.takeWhile_prefix _).subset d))
 have j:∀x∈S.dropWhile (λx=> !xV c.at_ x.at_),xV c.at_ x.at_=true:=by
  cases hD:S.dropWhile (λx=> !xV c.at_ x.at_) with
  |nil=>intro x d;cases d
  |cons y D=>
   have m:xV c.at_ y.at_=true:=by
    have:=List.head?_dropWhile_not (λx:zh=> !xV c.at_ x.at_) S
    rw[hD] at this
    simpa using this
   have q:qg (y::D):=by rw[←hD];exact List.Pairwise.sublist (List.dropWhile_suffix _).sublist h
   intro x d
   rcases List.mem_cons.1 d with rfl|d
   ·exact m
   ·exact ZC m ((List.pairwise_cons.1 q).1 x d)
 unfold JP qg
 rw[List.pairwise_append]
 refine⟨List.Pairwise.sublist (List.takeWhile_prefix _).sublist h,List.pairwise_cons.2 ⟨j,List.Pairwise.sublist (List.dropWhile_suffix _).sublist h⟩,?_⟩
 intro a i b f
 rcases List.mem_cons.1 f with rfl|f
 ·exact k a i
 ·exact ZC (k a i) (j b f)
theorem vo:∀ {l S:List zh} {x:zh},x∈qP S l↔x∈S∨x∈l
 |[],S,x=>by simp[qP]
 |c::l,S,x=>by
  show x∈qP (JP S c) l↔_
  rw[vo,Vh]
  simp only[List.mem_cons]
  constructor
  ·rintro((h|h)|h)
   ·exact .inr (.inl h)
   ·exact .inl h
   ·exact .inr (.inr h)
  ·rintro(h|h|h)
   ·exact .inl (.inr h)
   ·exact .inl (.inl h)
   ·exact .inr h
theorem jd:∀(l S:List zh),(qP S l).Perm (S++l)
 |[],S=>by simp[qP]
 |c::l,S=>by
  show(qP (JP S c) l).Perm _
  refine(jd l _).trans ?_
  refine((zeb S c).append_right l).trans ?_
  exact List.perm_middle.symm
theorem vD:∀ {l S:List zh},qg S→(l.map (·.at_)).Nodup→(∀c∈l,xE S c.at_=false)→qg (qP S l)
 |[],S,h,_,_=>h
 |c::l,S,h,hn,hd=>by
  show qg (qP (JP S c) l)
  rw[List.map_cons,List.nodup_cons] at hn
  refine vD (zfm h (hd c (by simp))) hn.2 ?_
  intro x b
  rw[jA]
  intro y a
  rcases Vh.1 a with rfl|a
  ·exact λe=>hn.1 (by rw[e];exact List.mem_map.2 ⟨x,b,rfl⟩)
  ·exact jA.1 (hd x (by simp[b])) y a
theorem Zn {S:List zh} {ps:List zE} (h:qg S):qg (yU S ps):=List.Pairwise.filter _ h
theorem jQ {S:List zh} {ps:List zE} {x:zh}:x∈yU S ps↔x∈S∧x.at_∉ps:=by simp[yU]
theorem qg.same {S R:List zh} (h:qg S) (c:qg R) (i:∀x,x∈S↔x∈R):S=R:=by
 have f:∀ {T:List zh},qg T→T.Nodup:=fun {T} h=>by unfold List.Nodup;exact List.Pairwise.imp (fun {a b} h e=>by subst e;rw[Yd] at h;cases h) h
 refine List.Perm.eq_of_pairwise (le:=λa b:zh=>xV a.at_ b.at_=true) ?_ h c ((List.perm_ext_iff_of_nodup (f h) (f c)).2 i)
 intro a b _ _ g d
 rw[Vr g] at d;cases d
end Go
namespace Go
open Go.RowKit Go.Maps Go.MapKept
section
variable {P:Program} {S:World→Prop} {a:Act} {dst:Option Tmp} {ty ty2:TypeId} {pos:String} {after:Array Edge} {gd:Option (Nat×Bool)} {x y:Operand}
structure EqN (P:Program) (k:TypeId):Prop where
 keyed:Keyed P k
 deep:∃m,m≤10000∧P.keyTypeAt m k=true
 wide:(match P.underlying k with|some (.array _ _)|some (.struct _)=>true|_=>false)=true
 guard:P.eqGuardType P.depth k=false
theorem EqN.run {k:TypeId} (h:EqN P k) (w:World) {u v:Array Value} (j:∃l,keyOf P k (.agg u)=some l) (m:∃l,keyOf P k (.agg v)=some l) (b:Bool) (g:b=true↔u=v):
  (Op.equal k (.agg u) (.agg v)).run P w=.ok b w:=by
 obtain⟨n,f⟩:=j
 obtain⟨o,d⟩:=m
 obtain⟨r,i,c⟩:=run_equal_deep w h.deep.choose_spec.1 h.deep.choose_spec.2 h.wide f d
 have:r=b:=by
  rw[Bool.eq_iff_iff,c,g]
  constructor
  ·intro e
   subst e
   have:=h.keyed.inj f d
   injection this
  ·intro e
   subst e
   rw[f] at d
   exact Option.some.inj d
 rw[i,this]
theorem EqN.eql {k:TypeId} (h:EqN P k) (w:World) {u v:Array Value} (e:∃l,keyOf P k (.agg u)=some l) (f:∃l,keyOf P k (.agg v)=some l) (b:Bool) (d:b=true↔u=v):
  (binOp .eql k (.agg u) (.agg v)).run P w=.ok (.bool b) w:=by
 have c:=h.run w e f b d
 rw[run_eql_struct]
 unfold Op.equal at c
 rw[show Op.maxDepth=10000 from rfl] at c
 rw[c]
 rfl
theorem EqN.neq {k:TypeId} (h:EqN P k) (w:World) {u v:Array Value} (e:∃l,keyOf P k (.agg u)=some l) (f:∃l,keyOf P k (.agg v)=some l) (b:Bool) (d:b=true↔u=v):
  (binOp .neq k (.agg u) (.agg v)).run P w=.ok (.bool (!b)) w:=by
 have c:=h.run w e f b d
 rw[run_neq_struct]
 unfold Op.equal at c
 rw[show Op.maxDepth=10000 from rfl] at c
 rw[c]
 rfl
theorem EqN.exec_eql {k:TypeId} (h:EqN P k) {c:Operand→Value} {o:Oper} (e:o.op=.binOp .eql k x y ty2) {u v:Array Value} (i:c x=.agg u) (j:c y=.agg v) (f:∃l,keyOf P k (.agg u)=some l) (g:∃l,keyOf P k (.agg v)=some l) (b:Bool) (d:b=true↔u=v) (w:World):
  (execOp c o).run P w=.ok (.value (.bool b)) w:=by
 simp only[execOp,e,i,j,Sem.run_bind,run_eqGuard_agg w .eql k x y u v h.guard,Result.andThen_ok,h.eql w f g b d,Sem.run_pure]
theorem EqN.exec_neq {k:TypeId} (h:EqN P k) {c:Operand→Value} {o:Oper} (e:o.op=.binOp .neq k x y ty2) {u v:Array Value} (i:c x=.agg u) (j:c y=.agg v) (f:∃l,keyOf P k (.agg u)=some l) (g:∃l,keyOf P k (.agg v)=some l) (b:Bool) (d:b=true↔u=v) (w:World):
  (execOp c o).run P w=.ok (.value (.bool (!b))) w:=by
 simp only[execOp,e,i,j,Sem.run_bind,run_eqGuard_agg w .neq k x y u v h.guard,Result.andThen_ok,h.neq w f g b d,Sem.run_pure]
theorem YH {k:TypeId} {e:List (TypeId×Nat×Bool)} (b:qM P k=e) (g:e≠[]) (i:e.all (·.2.2)=true) {cs:List Value} (j:P.cellsOf k=cs.length) (d:Nat)
  (m:∀x∈e,∃l,P.keyLits d x.1 ((cs.drop x.2.1).take (P.cellsOf x.1))=some l):∃l,P.keyLits (d+1) k cs=some l:=by
 unfold qM at b
 split at b
 ·rename_i fs hu
  subst b
  obtain⟨h,hys⟩:∃h,fs.toList.mapM (λf=>P.keyLits d f.type ((cs.drop f.offset).take (P.cellsOf f.type)))=some h:=
   mapM_some λf n=>m (f.type,f.offset,f.name != "_") (List.mem_map.2 ⟨f,n,rfl⟩)
  have c:fs.all (·.name != "_")=true:=by
   rw[←Array.all_toList]
   rw[List.all_map] at i
   exact i
  refine⟨h.flatten,?_⟩
  unfold Program.keyLits
  simp only[hu,j,c,and_self,if_true,hys]
  rfl
 ·exact absurd b.symm g
end
end Go
namespace Go.Proofs.YtmpamcnlineceaaGreatDoor
open Go Go.RowKit Go.Maps Go.MapKept
open Go.Proofs.Tryz(prog)
open List(mem_map getElem?_eq_getElem mem_append mem_cons length_map length_take getElem?_map setIfInBounds_toArray)
open Nat(le_refl zero_add)
theorem zeo {h:vI} (ok:qE h):qE (Jz h):=(((ok.add 128).adds).adds)
theorem zca {h:vI} (ok:qE h):(VR h).length=32:=by unfold VR;rw[Y5,(zeo ok).st]
theorem zdH {w:World} (H:Je w) (q:2<w.heap.size) {v:Value} {L:List (List Int)} (I:∀p,w.heap.size≤p→Jo w p v L) (G:L.length≤1000000) (V:L.flatten.length≤1000000000000):
  Calls prog 44 #[v] w λe w'=>e=.returned (.agg ((y9 L.flatten).map zu).toArray)∧Fr No w w':=by
 have u:=J H
 have d:=J q
 have R:=J I
 have T:=J G
 have S:=@J ((L.flatten.foldl xS vL).n=L.flatten.length) (by rw[JG];exact zero_add _)
 have aa:∀w,(zeroValue 40).run prog w=.ok (.agg yO) w:=λw=>by kernel_rfl
 clear H q I G
 obtain⟨dh,Z,Y⟩:=QP
 go_enter Tryz.func44,Tryz.ntmps44
 have m:=@J (Fr No w (w.alloc (.cells yO 40))) ((frN w).alloc _)
 have B:=J (zS w (.cells yO 40))
 have a:=@J ((w.alloc (.cells yO 40)).heap.size=w.heap.size+1) (by simp)
 go_wp2_with (first|(go_at_call 61;refine(zfu (u.o.keep m.o id id)).mono ?_;rintro e z ⟨rfl,r⟩;generalize w.alloc (.cells yO 40)=l at*;have k:=@J (Fr No l z) (r▸(frN l).alloc _);have K:=@J (z.heap[l.heap.size]? =some (.cells (yK vL).toArray 156 (0,0))) (r▸zS l _);have D:=@J (l.heap.size<z.heap.size) (by subst r;simp);clear r;generalize hp:l.heap.size=p at*)|(go_at_call 62;refine(zeE ((u.o.keep m.o id id).keep k.o id id) (by have:=a.o;have:=D.o;have:=d.o;omega) Yq K.o ⟨by have:=a.o;have:=d.o;omega,by have:=a.o;have:=d.o;omega⟩ ((R.o p (by have:=a.o;omega)).keep (((m.o.trans0 k.o).of0 (W:=λj=>j=p)))) T.o (by show 0+_≤_;omega)).mono ?_;rintro e w3 ⟨rfl,o,E⟩;have M:=J o;have n:=J E;clear o E)|(go_at_call 63;refine(zfV (p:=p) (((u.o.keep m.o id id).keep k.o id id).keep n.o (by have:=a.o;have:=d.o;omega) (by have:=a.o;have:=d.o;omega)) (by have:=a.o;have:=D.o;have:=d.o;have:=n.o.size;omega) (Yq.adds) M.o ⟨by have:=a.o;have:=d.o;omega,by have:=a.o;have:=d.o;omega⟩ (by rw[S.o];exact V)).mono ?_;rintro e g ⟨rfl,F⟩;have s:=J F;clear F;have f:=@J (((VR (L.flatten.foldl xS vL)).map zu).length=32) (by rw[length_map];exact zca Yq.adds);have U:=@J (y9 L.flatten=VR (L.flatten.foldl xS vL)) (rfl);generalize VR (L.flatten.foldl xS vL)=c at*)|((with_reducible refine zr ?_);refine ze rfl (zj (w:=g) (ty:=40) (cs:=c.map zu) rfl rfl rfl (by rw[f.o];rfl) (by rw[f.o];exact qm) (λv y=>by obtain⟨x,-,rfl⟩:=mem_map.1 y;rfl)) ?_;have N:=J (zS g (.cells (c.map zu).toArray 40));have t:=@J (Fr No g (g.alloc (.cells (c.map zu).toArray 40))) ((frN g).alloc _);generalize g.alloc (.cells (c.map zu).toArray 40)=A at*;generalize X:g.heap.size=q5 at*)|((with_reducible refine xF 15 ?_);refine zg rfl (ye (ty:=40) rfl rfl (xy N.o) Z Y (by rw[f.o];exact qm)) ?_)|(refine ze rfl (zy (ty:=40) (b:=w.heap.size) (off:=0) (cs:=c.map zu) rfl rfl rfl (by rw[f.o];exact zM (t.o.obj (s.o.obj (n.o.obj (k.o.obj B.o id) (by have:=a.o;omega)) id) id) (le_refl 32)) (by rw[f.o];exact qm) (λv y=>by obtain⟨x,-,rfl⟩:=mem_map.1 y;rfl)) ?_))
 have O:=@J (Fr No w A) ((((((m.o.trans0 k.o).trans n.o (λi h e=>(show False by have:=a.o;omega))).trans0 s.o).trans0 t.o)))
 have Q:=@J (A.heap[w.heap.size]? =some (.cells yO 40 (0,0))) (t.o.obj (s.o.obj (n.o.obj (k.o.obj B.o id) (by have:=a.o;omega)) id) id)
 have C:=yN w.heap.size 40 (c.map zu) 0 A yO Q.o
 have e:=qL (c.map zu) [] yO.toList [] (by rw[f.o];rfl)
 simp only[List.nil_append,List.append_nil,List.length_nil] at e
 rw[e] at C
 exact bodyPost_ret (v:=.agg (c.map zu).toArray) (results_cell_row (P:=prog) (fn:=Tryz.f44) rfl _ _ w.heap.size 40 (c.map zu).toArray (0,0) _ rfl C Tryz.underlying40 rfl (by rw[List.size_toArray,f.o];exact qm)) rfl ⟨by rw[U.o],O.o.trans (zv _ _ _ _) (λi hi e=>(show False by omega))⟩
end Go.Proofs.YtmpamcnlineceaaGreatDoor
