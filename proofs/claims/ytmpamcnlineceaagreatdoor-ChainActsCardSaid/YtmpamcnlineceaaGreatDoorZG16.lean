/- pappusref03.Block. -/
import Derived.Test.YtmpamcnlineceaaGreatDoorZG15
import Derived.Test.YtmpamcnlineceaaGreatDoorZG5
import Derived.Test.YtmpamcnlineceaaGreatDoorZG4
set_option linter.unusedVariables false
set_option linter.unusedSimpArgs false
set_option linter.unnecessarySimpa false
set_option linter.all false
set_option maxRecDepth 20000
set_option maxHeartbeats 16000000
namespace Go.Proofs.YtmpamcnlineceaaGreatDoor
open Go Go.RowKit Go.Maps Go.MapKept
open Go.Proofs.Tryz(prog)
open Nat(le_refl zero_le sub_self)
open List(length_map length_take)
variable {i q:Nat} {w:World}
theorem Ym {q k:Nat} {B:List Int} {T:TypeId} {f:Nat×Nat} (h:w.heap[q]? =some (.cells (B.map zu).toArray T f)) (a:k<B.length):w.cell? ⟨q,k,none⟩=some (.int .u8 (B.getD k 0)):=by
 simp only[World.cell?,h]
 simp[a,zu]
def JM (L:List Int):List Int:=L++List.replicate (64-L.length) 0
theorem za8 (L:List Int) (x:Int) (h:L.length<64):(JM L).set L.length x=JM (L++[x]):=by
 unfold JM
 rw[List.set_append_right _ _ (le_refl _),sub_self,List.length_append,List.length_singleton,List.append_assoc]
 obtain⟨d,a⟩:∃d,64-L.length=d+1:=⟨63-L.length,by omega⟩
 rw[a,show 64-(L.length+1)=d by omega]
 rfl
theorem za7 {L:List Int} (h:L.length≤64):(JM L).length=64:=by
 unfold JM
 rw[List.length_append,List.length_replicate]
 omega
theorem Y1 {L:List Int} (h:i<L.length):(JM L).getD i 0=L.getD i 0:=by
 unfold JM
 simp only[List.getD_eq_getElem?_getD]
 rw[List.getElem?_append_left h]
theorem ziC (S B:List Int) (h:S.length=8):v8 (s0S S B)=S:=by
 match S,h with
 |[a,b,c,d,e,f,g,h],_=>rfl
def z8L:List Int:=List.replicate 8 0
def zf9:List Int:=List.replicate 64 0
theorem zaZ (w:World):(zeroValue 134).run prog w=.ok (.agg (xm z8L)) w:=zge w
theorem zgd (w:World):(zeroValue 159).run prog w=.ok (.agg (xm zf9)) w:=zdJ w
theorem zga:zf9=JM []:=rfl
theorem zg7 (w:World):(zeroValue 136).run prog w=.ok (.agg ((List.replicate 64 0).map zu).toArray) w:=by kernel_rfl
def m32 (x:Int):Int:=x % 4294967296
def XX (S V:List Int) (i:Nat):List Int:=(List.zipWith (λx y=>(x+y) % 4294967296) S V).take i++S.drop i
section
variable {S V:List Int}
theorem zeF:XX S V 0=S:=by simp[XX]
theorem zgh (hS:S.length=8) (a:V.length=8) (hi:i≤8):(XX S V i).length=8:=by
 simp only[XX,List.length_append,length_take,List.length_zipWith,List.length_drop]
 omega
theorem zgf (hS:S.length=8) (a:V.length=8):XX S V 8=List.zipWith (λx y=>(x+y) % 4294967296) S V:=by
 unfold XX
 rw[List.take_of_length_le (by rw[List.length_zipWith];omega),List.drop_of_length_le (by omega),List.append_nil]
theorem zdK (hS:S.length=8) (a:V.length=8) (hi:i<8):((List.zipWith (λx y=>(x+y) % 4294967296) S V).take i).length=i:=by
 rw[length_take,List.length_zipWith]
 omega
theorem zgg (hS:S.length=8) (a:V.length=8) (hi:i<8):(XX S V i).getD i 0=S.getD i 0:=by
 have h:=zdK hS a hi
 simp only[XX,List.getD_eq_getElem?_getD]
 rw[List.getElem?_append_right (by rw[h];exact le_refl _),h,sub_self,List.getElem?_drop,Nat.add_zero]
theorem zgi (hS:S.length=8) (e:V.length=8) (hi:i<8):(XX S V i).set i (m32 (S.getD i 0+V.getD i 0))=XX S V (i+1):=by
 have h:=zdK hS e hi
 have a:S[i]? =some (S.getD i 0):=by rw[List.getD_eq_getElem?_getD,List.getElem?_eq_getElem (by omega)];rfl
 have b:V[i]? =some (V.getD i 0):=by rw[List.getD_eq_getElem?_getD,List.getElem?_eq_getElem (by omega)];rfl
 have c:S.drop i=S.getD i 0::S.drop (i+1):=by
  rw[List.drop_eq_getElem_cons (by omega)]
  congr 1
  rw[List.getD_eq_getElem?_getD,List.getElem?_eq_getElem (by omega)]
  rfl
 have d:(List.zipWith (λx y=>(x+y) % 4294967296) S V)[i]? =some (m32 (S.getD i 0+V.getD i 0)):=by
  rw[List.getElem?_zipWith,a,b]
  rfl
 unfold XX
 rw[List.set_append_right _ _ (by rw[h];exact le_refl _),h,sub_self,c,List.set_cons_zero,List.take_add_one,d,List.append_assoc]
 rfl
end
theorem zev {T:TypeId} {z cs:List Value} (h:w.heap[q]? =some (.cells z.toArray T (0,0))) (b:z.length=cs.length):(w.setCells q 0 cs).heap[q]? =some (.cells cs.toArray T (0,0)):=by
 have a:=yN q T cs 0 w _ h
 have e:=qL cs [] z [] b
 simp only[List.nil_append,List.append_nil,List.length_nil] at e
 rw[List.toList_toArray,e] at a
 exact a
theorem zii (w:World) (x a b c y e f g:Int):(Instr.build 134 #[(0,.int .u32 (x % 4294967296)),(1,.int .u32 a),(2,.int .u32 b),(3,.int .u32 c),(4,.int .u32 (y % 4294967296)),(5,.int .u32 e),(6,.int .u32 f),(7,.int .u32 g)]).run prog w=.ok (.agg (xm [m32 x,a,b,c,m32 y,e,f,g])) w:=ziJ w _ _ _ _ _ _ _ _
theorem zhJ (e:Int):bv (bits .xor .u32 (if IntKind.u32.signed=true then -1 else IntKind.u32.max) e)= ~~~ bv e:=by
 have h:(if IntKind.u32.signed=true then(-1:Int) else IntKind.u32.max)=4294967295:=by decide
 have a:bv 4294967295=BitVec.allOnes 32:=by decide
 rw[h,Qw,ZW,a,BitVec.allOnes_xor]
theorem ix0 (q:Nat) (w:World):(Instr.indexAt 134 (.pointer (some ⟨q,0,none⟩)) (.int .i64 0)).run prog w=.ok (.pointer (some ⟨q,0,none⟩)) w:=by kernel_rfl
theorem ix1 (q:Nat) (w:World):(Instr.indexAt 134 (.pointer (some ⟨q,0,none⟩)) (.int .i64 1)).run prog w=.ok (.pointer (some ⟨q,1,none⟩)) w:=by kernel_rfl
theorem ix2 (q:Nat) (w:World):(Instr.indexAt 134 (.pointer (some ⟨q,0,none⟩)) (.int .i64 2)).run prog w=.ok (.pointer (some ⟨q,2,none⟩)) w:=by kernel_rfl
theorem ix3 (q:Nat) (w:World):(Instr.indexAt 134 (.pointer (some ⟨q,0,none⟩)) (.int .i64 3)).run prog w=.ok (.pointer (some ⟨q,3,none⟩)) w:=by kernel_rfl
theorem ix4 (q:Nat) (w:World):(Instr.indexAt 134 (.pointer (some ⟨q,0,none⟩)) (.int .i64 4)).run prog w=.ok (.pointer (some ⟨q,4,none⟩)) w:=by kernel_rfl
theorem ix5 (q:Nat) (w:World):(Instr.indexAt 134 (.pointer (some ⟨q,0,none⟩)) (.int .i64 5)).run prog w=.ok (.pointer (some ⟨q,5,none⟩)) w:=by kernel_rfl
theorem ix6 (q:Nat) (w:World):(Instr.indexAt 134 (.pointer (some ⟨q,0,none⟩)) (.int .i64 6)).run prog w=.ok (.pointer (some ⟨q,6,none⟩)) w:=by kernel_rfl
theorem ix7 (q:Nat) (w:World):(Instr.indexAt 134 (.pointer (some ⟨q,0,none⟩)) (.int .i64 7)).run prog w=.ok (.pointer (some ⟨q,7,none⟩)) w:=by kernel_rfl
theorem ixI (h:i<8) (q:Nat) (w:World):(Instr.indexAt 134 (.pointer (some ⟨q,0,none⟩)) (.int .i64 i)).run prog w=.ok (.pointer (some ⟨q,i,none⟩)) w:=
 match i,h with
 |0,_=>by kernel_rfl
 |1,_=>by kernel_rfl
 |2,_=>by kernel_rfl
 |3,_=>by kernel_rfl
 |4,_=>by kernel_rfl
 |5,_=>by kernel_rfl
 |6,_=>by kernel_rfl
 |7,_=>by kernel_rfl
def ziF (S B:List Int) (w:World) (e:Ending) (w':World):Prop:=e=.returned (.agg (xm (xl S B)))∧Fr No w w'
theorem zco (w:World) {S B:List Int} (hS:S.length=8) (hB:B.length=64):Calls prog 65 #[.agg (xm S),.agg (B.map zu).toArray] w (ziF S B w):=by
 have z8:=zaZ
 have bG:=zgd
 have HS:=J hS
 have ag:=J hB
 have F1:=J ((((frN w).alloc (.cells (xm S) 134)).alloc (.cells (B.map zu).toArray 136)).alloc (.cells (xm (z8L)) 134))
 have BS:=J (((((frN _).alloc (.cells (B.map zu).toArray 136)).alloc (.cells (xm (z8L)) 134))).obj (zS w (.cells (xm S) 134)) _root_.id)
 have BB:=J (((frN _).alloc (.cells (xm (z8L)) 134)).obj (xK (w.alloc (.cells (xm S) 134)) (.cells (B.map zu).toArray 136) (n:=w.heap.size+1) (by simp)) _root_.id)
 have BR:=J (xK ((w.alloc (.cells (xm S) 134)).alloc (.cells (B.map zu).toArray 136)) (.cells (xm (z8L)) 134) (n:=w.heap.size+1+1) (by simp))
 have SZ:=@J ((((w.alloc (.cells (xm S) 134)).alloc (.cells (B.map zu).toArray 136)).alloc (.cells (xm (z8L)) 134)).heap.size=w.heap.size+3) (by simp)
 have KL:=@J ((JD.map yJ).length=64) (rfl)
 clear hS hB
 go_enter Tryz.func65,Tryz.ntmps65
 have⟨K0,K1⟩:=tZ2
 go_wp2_with ((first|(clear K0;go_at_call 85;generalize bw:((w.alloc (.cells (xm S) 134)).alloc (.cells (B.map zu).toArray 136)).alloc (.cells (xm (z8L)) 134)=w3 at*;refine(VN w3).mono ?_;rintro e w4 ⟨rfl,f4⟩;have F4:=J f4;clear f4)|((with_reducible refine zr ?_);clear K1;refine ze rfl (zj (w:=w4) (ty:=159) (cs:=JD.map yJ) rfl rfl rfl (by rw[KL.o];rfl) (by rw[KL.o];exact zaG) Ja) ?_;have F5:=J (F4.o.alloc (.cells (JD.map yJ).toArray 159));have BK:=J (zS w4 (.cells (JD.map yJ).toArray 159));generalize bt:w4.alloc (.cells (JD.map yJ).toArray 159)=w5 at*));go_frame)
 have FL:=J (jg B 64)
 have aC:=J (λ(t:Nat) (ht:t<16)=>zd4 (B:=B) ht)
 generalize hq:w.heap.size=q at*
 have B5:=@J (w5.heap[q]? =some (.cells (xm S) 134 (0,0))∧w5.heap[q+1]? =some (.cells (B.map zu).toArray 136 (0,0))∧w5.heap[q+1+1]? =some (.cells (xm (z8L)) 134 (0,0))) (⟨F5.o.obj BS.o _root_.id,F5.o.obj BB.o _root_.id,F5.o.obj BR.o _root_.id⟩)
 have F6:=J ((frN w5).alloc (.cells (xm (zf9)) 159))
 have BW:=J (zS w5 (.cells (xm (zf9)) 159))
 have S5:=@J (q+3<w5.heap.size) (by rw[←bt];have:=F4.o.size;have:=SZ.o;simp;omega)
 generalize bx:w5.alloc (.cells (xm (zf9)) 159)=w6 at*
 generalize bu:w5.heap.size=m at*
 generalize aq:xe B 64=g at*
 go_loopw [19,7] (λI tv wr=>∃t:Nat,I=.int .i64 t∧t≤16∧wr.heap[m]? =some (.cells (xm (JM (g.take t))) 159 (0,0))∧Fr (λj=>j=m) w6 wr) (λI _ _=>16-(intOf I).toNat)
 case atStart=>exact⟨0,rfl,zero_le _,by have:=BW.o;rw[zga] at this;exact this,Fr.refl _ _⟩
 case round=>
  obtain⟨t,rfl,ht,ad,fr⟩:=hrel
  rename World=>wr
  have FR:=J fr
  have p:=J ad
  clear fr ad
  by_cases hlt:t<16
  ·have i1:(t:Int)<16:=by omega
   have TL:=@J ((g.take t).length=t) (by rw[length_take,FL.o];omega)
   have af:=J (FR.o.obj (F6.o.obj B5.o.2.1 _root_.id) (λe=>by have:=S5.o;omega))
   obtain⟨L,aQ⟩:∃k,k=4*t:=⟨_,rfl⟩
   obtain⟨k1,aR⟩:∃k,k=L+1:=⟨_,rfl⟩
   obtain⟨k2,aS⟩:∃k,k=L+2:=⟨_,rfl⟩
   obtain⟨k3,aT⟩:∃k,k=L+3:=⟨_,rfl⟩
   have e0:IntKind.i64.wrap (4*(t:Int))=(L:Int):=by rw[IntWalk.i64_in _ (by omega)];omega
   have e1:IntKind.i64.wrap ((L:Int)+1)=(k1:Int):=by rw[IntWalk.i64_in _ (by omega)];omega
   have e2:IntKind.i64.wrap ((L:Int)+2)=(k2:Int):=by rw[IntWalk.i64_in _ (by omega)];omega
   have e3:IntKind.i64.wrap ((L:Int)+3)=(k3:Int):=by rw[IntWalk.i64_in _ (by omega)];omega
   have C0:=J (Ym (k:=L) af.o (by have:=ag.o;omega))
   have C1:=J (Ym (k:=k1) af.o (by have:=ag.o;omega))
   have C2:=J (Ym (k:=k2) af.o (by have:=ag.o;omega))
   have C3:=J (Ym (k:=k3) af.o (by have:=ag.o;omega))
   have WD:=J (aC.o t hlt)
   rw[←aQ,←aR,←aS,←aT] at WD
   generalize B.getD L 0=N at*
   generalize B.getD k1 0=O at*
   generalize B.getD k2 0=Q at*
   generalize B.getD k3 0=U at*
   have l0:(L:Int)<64:=by omega
   have l1:(k1:Int)<64:=by omega
   have l2:(k2:Int)<64:=by omega
   have l3:(k3:Int)<64:=by omega
   have lt:(t:Int)<64:=by omega
   have p0:(0:Int)≤(L:Int):=by omega
   have p1:(0:Int)≤(k1:Int):=by omega
   have p2:(0:Int)≤(k2:Int):=by omega
   have p3:(0:Int)≤(k3:Int):=by omega
   have pt:(0:Int)≤(t:Int):=by omega
   have n0:(L:Int).toNat=L:=by omega
   have n1:(k1:Int).toNat=k1:=by omega
   have n2:(k2:Int).toNat=k2:=by omega
   have n3:(k3:Int).toNat=k3:=by omega
   have nt:(t:Int).toNat=t:=by omega
   clear aR aS aT aQ aq
   go_upto_region 6 with fail
   have M:=zW (i:=t) p.o
   have CT:=J (yx (k:=t) p.o (by rw[za7 (by rw[TL.o];omega)];omega))
   generalize (JM (List.take t g)).getD t 0=ct at*
   have ai:=CT.o
   refine yD [ff,ff,ff,ff,ff,ff,ff,ff,ff,ff,ff,ff,ff,ff,ff,ff,ff,ff,ff,ff,ff,ff,ff,ff,ff,ff,ff,ff,ff,ff,ff,tt] (λw'=>w'.cell? ⟨q+1,L,none⟩=some (.int .u8 N)∧w'.cell? ⟨q+1,k1,none⟩=some (.int .u8 O)∧w'.cell? ⟨q+1,k2,none⟩=some (.int .u8 Q)∧w'.cell? ⟨q+1,k3,none⟩=some (.int .u8 U)) (by kernel_rfl) (by kernel_rfl) 31 (by kernel_rfl) (by kernel_rfl) ?_ (λK hK=>?_)
   ·exact⟨(frN wr).drew.cell C0.o _root_.id,(frN wr).drew.cell C1.o _root_.id,(frN wr).drew.cell C2.o _root_.id,(frN wr).drew.cell C3.o _root_.id⟩
   repeat((first|(refine ym rfl ?_;constructor;constructor;(focus(first|(rintro w' ⟨G,s2,s3,s4⟩;exact goS))))|(refine yn rfl ?_));try simp only[Act.put,pA,pB,pC])
   (refine yf rfl (λK' hK'=>?_))
   go_simp
   refine hK'.out _ _ (λh=>absurd rfl h) (λhS=>?_)
   refine qp (hK.out _ _ ?_)
   have hv:bits .or .u32 (bits .or .u32 (bits .or .u32 (IntKind.u32.wrap (IntKind.u32.wrap N*16777216)) (IntKind.u32.wrap (IntKind.u32.wrap O*65536))) (IntKind.u32.wrap (IntKind.u32.wrap Q*256))) (IntKind.u32.wrap U)=orW N O Q U:=by
    have q0:IntKind.u32.wrap (IntKind.u32.wrap N*16777216)=N*16777216 % 4294967296:=by rw[wrap32,wrap32];omega
    have q1:IntKind.u32.wrap (IntKind.u32.wrap O*65536)=O*65536 % 4294967296:=by rw[wrap32,wrap32];omega
    have q2:IntKind.u32.wrap (IntKind.u32.wrap Q*256)=Q*256 % 4294967296:=by rw[wrap32,wrap32];omega
    rw[q0,q1,q2,wrap32 U]
    unfold orW
    rw[Zs,Zs _ U,zeV]
   rw[hv]
   have TK:=@J (g.take (t+1)=g.take t++[orW N O Q U]) (by
    rw[List.take_add_one,←WD.o,List.getD_eq_getElem?_getD]
    have:g[t]? =some (g[t]'(by rw[FL.o];exact hlt)):=List.getElem?_eq_getElem _
    rw[this]
    rfl)
   have aa:=@J ((wr.setCell ⟨m,t,none⟩ (.int .u32 (orW N O Q U))).drew.heap[m]? =some (.cells (xm (JM (g.take (t+1)))) 159 (0,0))) (by
    have:=heap_setCell_same wr m t _ _ (.int .u32 (orW N O Q U)) p.o
    rw[Yh] at this
    have e:=za8 (g.take t) (orW N O Q U) (by rw[TL.o];omega)
    rw[TL.o] at e
    rw[e,←TK.o] at this
    exact this)
   have F9:=@J (Fr (λj=>j=m) w6 (wr.setCell ⟨m,t,none⟩ (.int .u32 (orW N O Q U))).drew) ((FR.o.setCell ⟨m,t,none⟩ (.inr rfl) _).drew)
   generalize (wr.setCell ⟨m,t,none⟩ (.int .u32 (orW N O Q U))).drew=w9 at*
   clear hv e0 e1 e2 e3
   go_wp2_with fail
   go_roundw
   case rel=>exact⟨t+1,by go_num,by omega,aa.o,F9.o⟩
   case measure=>simp[intOf];omega
  ·have ae:t=16:=by omega
   have i1:¬(t:Int)<16:=by omega
   have bk:=@J (wr.heap[m]? =some (.cells (xm (JM (wL g 0))) 159 (0,0))) (by
    have:=p.o
    rw[ae,List.take_of_length_le (by rw[FL.o];exact le_refl _)] at this
    exact this)
   have bd:=J FR.o
   clear FR p ht hlt ae
   go_wp2_with fail
   (try simp only[Exit.inBlock,Exit.then])
   go_loopw [8] (λI A=>∃T k:Nat,I=.int .i64 T∧T=16+k∧k≤48∧A.heap[m]? =some (.cells (xm (JM (wL g k))) 159 (0,0))∧Fr (λj=>j=m) w6 A) (λI _=>64-(intOf I).toNat)
   case atStart=>exact⟨16,0,rfl,rfl,zero_le _,bk.o,bd.o⟩
   case round=>
    obtain⟨T,k,rfl,hT,hk,ad,fr⟩:=hrel
    rename World=>A
    have FQ:=J fr
    have p:=J ad
    clear fr ad
    by_cases hlt:k<48
    ·have i1:(T:Int)<64:=by omega
     have H:=J (XU FL.o k)
     have AL:=@J ((JM (wL g k)).length=64) (za7 (by rw[H.o];omega))
     obtain⟨a2,h2⟩:∃a,a=k+14:=⟨_,rfl⟩
     obtain⟨E,aL⟩:∃a,a=k+1:=⟨_,rfl⟩
     obtain⟨a7,h7⟩:∃a,a=k+9:=⟨_,rfl⟩
     have e2:IntKind.i64.wrap ((T:Int)-2)=(a2:Int):=by rw[IntWalk.i64_in _ (by omega)];omega
     have bq:IntKind.i64.wrap ((T:Int)-15)=(E:Int):=by rw[IntWalk.i64_in _ (by omega)];omega
     have e7:IntKind.i64.wrap ((T:Int)-7)=(a7:Int):=by rw[IntWalk.i64_in _ (by omega)];omega
     have br:IntKind.i64.wrap ((T:Int)-16)=(k:Int):=by rw[IntWalk.i64_in _ (by omega)];omega
     have g2:(JM (wL g k)).getD a2 0=(wL g k).getD (k+14) 0:=by rw[h2];exact Y1 (by rw[H.o];omega)
     have aJ:(JM (wL g k)).getD E 0=(wL g k).getD (k+1) 0:=by rw[aL];exact Y1 (by rw[H.o];omega)
     have g7:(JM (wL g k)).getD a7 0=(wL g k).getD (k+9) 0:=by rw[h7];exact Y1 (by rw[H.o];omega)
     have aK:(JM (wL g k)).getD k 0=(wL g k).getD k 0:=Y1 (by rw[H.o];omega)
     have C2:=J (yx (k:=a2) p.o (by rw[AL.o];omega))
     have ay:=J (yx (k:=E) p.o (by rw[AL.o];omega))
     have C7:=J (yx (k:=a7) p.o (by rw[AL.o];omega))
     have az:=J (yx (k:=k) p.o (by rw[AL.o];omega))
     have CT:=J (yx (k:=T) p.o (by rw[AL.o];omega))
     rw[g2] at C2
     rw[aJ] at ay
     rw[g7] at C7
     rw[aK] at az
     have WS:=@J (wL g (k+1)=wL g k++[JK ((wL g k).getD (k+14) 0) ((wL g k).getD (k+1) 0) ((wL g k).getD (k+9) 0) ((wL g k).getD k 0)]) (rfl)
     clear g2 aJ g7 aK
     generalize (wL g k).getD (k+14) 0=x at*
     generalize (wL g k).getD (k+1) 0=y at*
     generalize (wL g k).getD (k+9) 0=u at*
     generalize (wL g k).getD k 0=c at*
     generalize (JM (wL g k)).getD T 0=ct at*
     have l2:(a2:Int)<64:=by omega
     have bz:(E:Int)<64:=by omega
     have l7:(a7:Int)<64:=by omega
     have bA:(k:Int)<64:=by omega
     have p2:(0:Int)≤(a2:Int):=by omega
     have bE:(0:Int)≤(E:Int):=by omega
     have p7:(0:Int)≤(a7:Int):=by omega
     have bF:(0:Int)≤(k:Int):=by omega
     have pT:(0:Int)≤(T:Int):=by omega
     have n2:(a2:Int).toNat=a2:=by omega
     have bB:(E:Int).toNat=E:=by omega
     have n7:(a7:Int).toNat=a7:=by omega
     have bC:(k:Int).toNat=k:=by omega
     have nT:(T:Int).toNat=T:=by omega
     have HT:=J hT
     clear h2 aL h7 hT
     go_upto_region 11 with fail
     refine wrLx [ff,ff,ff,ff,tt,ff,ff,ff,ff,tt,ff,ff,ff,ff,ff,ff,ff,ff] (λw'=>w'.cell? ⟨m,a2,none⟩=some (.int .u32 x)) ?_ (λK hK=>?_)
     ·exact(frN A).drew.cell C2.o _root_.id
     repeat((first|(refine zn rfl ?_;constructor;constructor;(focus(first|(rintro w' G;exact goS))))|(refine zq rfl ?_));try simp only[Act.put,pA,pB,pC])
     (refine zN rfl (λK' hK'=>?_))
     go_simp
     refine(zhW _ _).mono ?_
     rintro e wv ⟨rfl,rfl⟩
     refine nXt hK' ?_ λhS=>?_
     ·exact(frN A).drew.cell C2.o _root_.id
     try simp only[Act.put,pA,pB,pC]
     repeat((first|(refine zn rfl ?_;constructor;constructor;(focus(first|(rintro w' G;exact goS))))|(refine zq rfl ?_));try simp only[Act.put,pA,pB,pC])
     (refine zN rfl (λK' hK'=>?_))
     go_simp
     refine(zhY _ _).mono ?_
     rintro e wv ⟨rfl,rfl⟩
     refine nXt hK' ?_ λhS=>?_
     ·exact(frN A).drew.cell C2.o _root_.id
     try simp only[Act.put,pA,pB,pC]
     repeat((first|(refine zn rfl ?_;constructor;constructor;(focus(first|(rintro w' G;exact goS))))|(refine zq rfl ?_));try simp only[Act.put,pA,pB,pC])
     refine zZ (hK.out _ _ ?_)
     have FK:=J FQ.o.drew
     have aD:=J ((frN A).drew.obj p.o _root_.id)
     have Y:=J ((frN A).drew.cell ay.o _root_.id)
     have a6:=J ((frN A).drew.cell C7.o _root_.id)
     have aA:=J ((frN A).drew.cell az.o _root_.id)
     have ba:=J ((frN A).drew.cell CT.o _root_.id)
     generalize A.drew=wk at*
     go_upto_region 12 with fail
     refine wrLx [ff,ff,ff,ff,tt,ff,ff,ff,ff,tt,ff,ff,ff,ff,ff,ff,ff,ff] (λw'=>w'.cell? ⟨m,E,none⟩=some (.int .u32 y)) ?_ (λK hK=>?_)
     ·exact(frN wk).drew.cell Y.o _root_.id
     repeat((first|(refine zn rfl ?_;constructor;constructor;(focus(first|(rintro w' G;exact goS))))|(refine zq rfl ?_));try simp only[Act.put,pA,pB,pC])
     (refine zN rfl (λK' hK'=>?_))
     go_simp
     refine(ziB _ _).mono ?_
     rintro e wv ⟨rfl,rfl⟩
     refine nXt hK' ?_ λhS=>?_
     ·exact(frN wk).drew.cell Y.o _root_.id
     try simp only[Act.put,pA,pB,pC]
     repeat((first|(refine zn rfl ?_;constructor;constructor;(focus(first|(rintro w' G;exact goS))))|(refine zq rfl ?_));try simp only[Act.put,pA,pB,pC])
     (refine zN rfl (λK' hK'=>?_))
     go_simp
     refine(zhX _ _).mono ?_
     rintro e wv ⟨rfl,rfl⟩
     refine nXt hK' ?_ λhS=>?_
     ·exact(frN wk).drew.cell Y.o _root_.id
     try simp only[Act.put,pA,pB,pC]
     repeat((first|(refine zn rfl ?_;constructor;constructor;(focus(first|(rintro w' G;exact goS))))|(refine zq rfl ?_));try simp only[Act.put,pA,pB,pC])
     refine zZ (hK.out _ _ ?_)
     have M:=zW (i:=T) ((frN wk).drew.obj aD.o _root_.id)
     have bl:=J ((frN wk).drew.obj aD.o _root_.id)
     have FM:=J FK.o.drew
     have a8:=J ((frN wk).drew.cell a6.o _root_.id)
     have aB:=J ((frN wk).drew.cell aA.o _root_.id)
     have ai:=(frN wk).drew.cell ba.o _root_.id
     generalize wk.drew=wm at*
     go_upto_region 13 with fail
     refine yD [ff,ff,ff,ff,ff,ff,ff,ff,ff,ff,ff,ff,ff,ff,ff,tt] (λw'=>w'.cell? ⟨m,a7,none⟩=some (.int .u32 u)∧w'.cell? ⟨m,k,none⟩=some (.int .u32 c)) (by kernel_rfl) (by kernel_rfl) 15 (by kernel_rfl) (by kernel_rfl) ?_ (λK hK=>?_)
     ·exact⟨(frN wm).drew.cell a8.o _root_.id,(frN wm).drew.cell aB.o _root_.id⟩
     repeat((first|(refine ym rfl ?_;constructor;constructor;(focus(first|(rintro w' ⟨G,s2⟩;exact goS))))|(refine yn rfl ?_));try simp only[Act.put,pA,pB,pC])
     (refine yf rfl (λK' hK'=>?_))
     go_simp
     refine hK'.out _ _ (λh=>absurd rfl h) (λhS=>?_)
     refine qp (hK.out _ _ ?_)
     have hv:IntKind.u32.wrap (IntKind.u32.wrap (IntKind.u32.wrap (bits .xor .u32 (bits .xor .u32 (zb0 x) (zb2 x)) (x / 1024)+u)+bits .xor .u32 (bits .xor .u32 (zfO y) (zb1 y)) (y / 8))+c)=JK x y u c:=by
      unfold JK
      rw[Int.add_comm c]
     rw[hv]
     have aa:=@J ((wm.setCell ⟨m,T,none⟩ (.int .u32 (JK x y u c))).drew.heap[m]? =some (.cells (xm (JM (wL g (k+1)))) 159 (0,0))) (by
      have:=heap_setCell_same wm m T _ _ (.int .u32 (JK x y u c)) bl.o
      rw[Yh] at this
      have e:=za8 (wL g k) (JK x y u c) (by rw[H.o];omega)
      rw[H.o,←HT.o] at e
      rw[e,←WS.o] at this
      exact this)
     have F9:=@J (Fr (λj=>j=m) w6 (wm.setCell ⟨m,T,none⟩ (.int .u32 (JK x y u c))).drew) ((FM.o.setCell ⟨m,T,none⟩ (.inr rfl) _).drew)
     generalize (wm.setCell ⟨m,T,none⟩ (.int .u32 (JK x y u c))).drew=w9 at*
     clear hv e2 bq e7 br M ai
     go_wp2_with fail
     go_roundw
     case rel=>exact⟨T+1,k+1,by go_num,by have:=HT.o;omega,by omega,aa.o,F9.o⟩
     case measure=>simp[intOf];omega
    ·have aU:k=48:=by omega
     have i1:¬(T:Int)<64:=by omega
     have WL:=@J ((wL g 48).length=64) (XU FL.o 48)
     have ao:=@J (A.heap[m]? =some (.cells (xm (wL g 48)) 159 (0,0))) (by
      have h:=p.o
      rw[aU] at h
      unfold JM at h
      rw[WL.o,sub_self,List.replicate_zero,List.append_nil] at h
      exact h)
     have FW:=@J (Fr (λj=>j=m) w5 A) (F6.o.of0.trans FQ.o (λ_ _ h=>h))
     have aI:=@J (∀t,t<64→(vx (yX (s0S S B) t).W t).getD (t % 16) 0=(wL g 48).getD t 0) (λt ht=>by rw[←aq];exact zfP S B ht)
     obtain⟨bD,ak,aj⟩:=zb7 S B HS.o
     have al:=J aj
     have aE:=J ak
     obtain⟨R,hR⟩:∃R,R=yX (s0S S B):=⟨_,rfl⟩
     have R0:=@J (v8 (R 0)=S) (by rw[hR];exact ziC S B HS.o)
     have RS:=@J (∀t,R (t+1)=Yx (R t) t) (λt=>by rw[hR];rfl)
     rw[←hR] at aI al
     generalize wL g 48=WW at*
     clear aq hR aj ak aU FL aC hT hk hlt
     have QK:=@J (w4.heap.size<m) (by have:=yu BK.o;omega)
     generalize w4.heap.size=qk at*
     have au:=J (FW.o.obj BK.o (λe=>by have:=QK.o;omega))
     have an:=@J (A.heap[q]? =some (.cells (S.map yJ).toArray 134 (0,0))) (FW.o.obj B5.o.1 (λe=>by have:=S5.o;omega))
     have av:=J (FW.o.obj B5.o.2.2 (λe=>by have:=S5.o;omega))
     have SL:=@J ((S.map yJ).length=8) (by rw[length_map];exact HS.o)
     obtain⟨d8,uU,rU⟩:=ze7
     have aH:=J (xy an.o)
     have bH:=zaZ
     have⟨K0,K1⟩:=tZ2
     go_wp2_with ((first|((with_reducible refine zt ?_);clear K0;refine zg rfl (ye (ty:=134) rfl rfl aH.o uU rU (by rw[SL.o];exact Jc)) ?_)|((with_reducible refine zr ?_);clear K1;refine ze rfl (zj (w:=A) (ty:=134) (cs:=S.map yJ) rfl rfl rfl (by rw[SL.o];rfl) (by rw[SL.o];exact Jc) Ja) ?_;have aW:=J (zS A (.cells (S.map yJ).toArray 134));have Z:=J ((frN A).alloc (.cells (S.map yJ).toArray 134));generalize aV:A.heap.size=d at*;generalize A.alloc (.cells (S.map yJ).toArray 134)=w8 at*));go_frame)
     have aG:=@J (m<d) (by have:=yu ao.o;omega)
     have ar:=J (Z.o.obj au.o _root_.id)
     have aZ:=J (Z.o.obj an.o _root_.id)
     have aX:=J (Z.o.obj av.o _root_.id)
     have ax:=J (Z.o.obj ao.o _root_.id)
     have bg:=@J (Fr (λj=>j=m) w5 w8) (FW.o.trans0 Z.o)
     have D:=@J (q+3<d∧qk<d) (by have:=S5.o;have:=QK.o;have:=aG.o;omega)
     clear aV au an av ao FW aH p FQ i1
     go_loopw [108] (λI r=>∃t:Nat,I=.int .i64 t∧t≤64∧r.heap[d]? =some (.cells (xm (v8 (R t))) 134 (0,0))∧Fr (λj=>j=d) w8 r) (λI _=>64-(intOf I).toNat)
     case atStart=>exact⟨0,rfl,zero_le _,by rw[R0.o];exact aW.o,Fr.refl _ _⟩
     case round=>
      obtain⟨f,rfl,bs,aN,fr⟩:=hrel
      rename World=>r
      have M:=J fr
      have HV:=J aN
      clear fr aN
      by_cases hlt:f<64
      ·have i3:(f:Int)<64:=by omega
       have p3:(0:Int)≤(f:Int):=by omega
       have n3:(f:Int).toNat=f:=by omega
       have W3:=J (aI.o f hlt)
       have S3:=J (RS.o f)
       have CK:=J (yx (k:=f) (W:=JD) (M.o.obj ar.o (λe=>by have:=D.o;omega)) (by have:=KL.o;rw[length_map] at this;omega))
       have CW:=J (yx (k:=f) (M.o.obj ax.o (λe=>by have:=aG.o;omega)) (by rw[WL.o];exact hlt))
       have HR:=@J (∀n:Int,bv n= ~~~ bv (R f).e→rP (R f) n (JD.getD f 0) ((vx (R f).W f).getD (f % 16) 0)=Qj (R f) f) (λn hn=>ziw (R f) f hn)
       have HQ:=J (zix (R f))
       have bp:=@J (v8 (R (f+1))=[m32 (Qj (R f) f+zc5 (R f)),(R f).a,(R f).b,(R f).c,m32 ((R f).d+Qj (R f) f),(R f).e,(R f).f,(R f).g]) (by rw[S3.o];exact zg4 _ _)
       rw[←W3.o] at CW
       generalize JD.getD f 0=kt at*
       generalize (vx (R f).W f).getD (f % 16) 0=xt at*
       generalize Qj (R f) f=sp at*
       generalize zc5 (R f)=sq at*
       generalize R f=s at*
       have C0:r.cell? ⟨d,0,none⟩=some (.int .u32 s.a):=yx (k:=0) HV.o (show 0<8 by decide)
       have C1:r.cell? ⟨d,1,none⟩=some (.int .u32 s.b):=yx (k:=1) HV.o (show 1<8 by decide)
       have C2:r.cell? ⟨d,2,none⟩=some (.int .u32 s.c):=yx (k:=2) HV.o (show 2<8 by decide)
       have C3:r.cell? ⟨d,3,none⟩=some (.int .u32 s.d):=yx (k:=3) HV.o (show 3<8 by decide)
       have C4:r.cell? ⟨d,4,none⟩=some (.int .u32 s.e):=yx (k:=4) HV.o (show 4<8 by decide)
       have C5:r.cell? ⟨d,5,none⟩=some (.int .u32 s.f):=yx (k:=5) HV.o (show 5<8 by decide)
       have C6:r.cell? ⟨d,6,none⟩=some (.int .u32 s.g):=yx (k:=6) HV.o (show 6<8 by decide)
       have C7:r.cell? ⟨d,7,none⟩=some (.int .u32 s.h):=yx (k:=7) HV.o (show 7<8 by decide)
       clear W3
       have N:=ix0 d
       have O:=ix1 d
       have Q:=ix2 d
       have U:=ix3 d
       have x4:=ix4 d
       have x5:=ix5 d
       have x6:=ix6 d
       have x7:=ix7 d
       go_upto_region 19 with fail
       have FD:=J ((frN r).drew)
       have G7:=@J (r.drew.cell? ⟨d,7,none⟩=some (.int .u32 s.h)∧r.drew.cell? ⟨d,5,none⟩=some (.int .u32 s.f)∧r.drew.cell? ⟨d,6,none⟩=some (.int .u32 s.g)∧r.drew.cell? ⟨qk,f,none⟩=some (.int .u32 kt)∧r.drew.cell? ⟨m,f,none⟩=some (.int .u32 xt)) (⟨FD.o.cell C7 _root_.id,FD.o.cell C5 _root_.id,FD.o.cell C6 _root_.id,FD.o.cell CK.o _root_.id,FD.o.cell CW.o _root_.id⟩)
       refine wrLx [ff,ff,ff,tt,ff,tt,ff,ff,tt,ff,ff,ff,ff,ff,ff,ff,ff,ff,ff,ff,ff,ff,ff,ff,ff,ff,ff,ff,ff,ff,ff] (λw'=>w'.cell? ⟨d,7,none⟩=some (.int .u32 s.h)∧w'.cell? ⟨d,5,none⟩=some (.int .u32 s.f)∧w'.cell? ⟨d,6,none⟩=some (.int .u32 s.g)∧w'.cell? ⟨qk,f,none⟩=some (.int .u32 kt)∧w'.cell? ⟨m,f,none⟩=some (.int .u32 xt)) ?_ (λK hK=>?_)
       ·exact G7.o
       repeat((first|(refine zn rfl ?_;constructor;constructor;(focus(first|(rintro w' ⟨G,s2,s3,s4,s5⟩;exact goS))))|(refine zq rfl ?_));try simp only[Act.put,pA,pB,pC])
       (refine zN rfl (λK' hK'=>?_))
       go_simp
       refine(ziA _ _).mono ?_
       rintro e wv ⟨rfl,rfl⟩
       refine nXt hK' ?_ λhS=>?_
       ·exact G7.o
       try simp only[Act.put,pA,pB,pC]
       repeat((first|(refine zn rfl ?_;constructor;constructor;(focus(first|(rintro w' ⟨G,s2,s3,s4,s5⟩;exact goS))))|(refine zq rfl ?_));try simp only[Act.put,pA,pB,pC])
       (refine zN rfl (λK' hK'=>?_))
       go_simp
       refine(zhU _ _).mono ?_
       rintro e wv ⟨rfl,rfl⟩
       refine nXt hK' ?_ λhS=>?_
       ·exact G7.o
       try simp only[Act.put,pA,pB,pC]
       repeat((first|(refine zn rfl ?_;constructor;constructor;(focus(first|(rintro w' ⟨G,s2,s3,s4,s5⟩;exact goS))))|(refine zq rfl ?_));try simp only[Act.put,pA,pB,pC])
       (refine zN rfl (λK' hK'=>?_))
       go_simp
       refine(zh0 _ _).mono ?_
       rintro e wv ⟨rfl,rfl⟩
       refine nXt hK' ?_ λhS=>?_
       ·exact G7.o
       try simp only[Act.put,pA,pB,pC]
       repeat((first|(refine zn rfl ?_;constructor;constructor;(focus(first|(rintro w' ⟨G,s2,s3,s4,s5⟩;exact goS))))|(refine zq rfl ?_));try simp only[Act.put,pA,pB,pC])
       refine zZ (hK.out _ _ ?_)
       have hp:IntKind.u32.wrap (IntKind.u32.wrap (IntKind.u32.wrap (IntKind.u32.wrap (s.h+bits .xor .u32 (bits .xor .u32 (zet s.e) (zao s.e)) (zap s.e))+bits .xor .u32 (bits .and .u32 s.e s.f) (bits .and .u32 (bits .xor .u32 (if IntKind.u32.signed=true then -1 else IntKind.u32.max) s.e) s.g))+kt)+xt)=sp:=HR.o _ (zhJ s.e)
       rw[hp]
       have ah:=J (FD.o.obj HV.o _root_.id)
       have bh:=J (M.o.trans0 FD.o)
       generalize r.drew=F at*
       have C0:F.cell? ⟨d,0,none⟩=some (.int .u32 s.a):=yx (k:=0) ah.o (show 0<8 by decide)
       clear hp G7 CK CW C1 C2 C3 C4 C5 C6 C7
       go_upto_region 21 with fail
       have FE:=J ((frN F).drew)
       have G2:=@J (F.drew.cell? ⟨d,1,none⟩=some (.int .u32 s.b)∧F.drew.cell? ⟨d,2,none⟩=some (.int .u32 s.c)) (⟨FE.o.cell (yx (k:=1) ah.o (show 1<8 by decide)) _root_.id,FE.o.cell (yx (k:=2) ah.o (show 2<8 by decide)) _root_.id⟩)
       refine wrLx [ff,tt,ff,tt,ff,ff,tt,ff,ff,ff,ff,ff,ff,ff,ff,ff,ff,ff,ff,ff,ff,ff,ff,ff,ff] (λw'=>w'.cell? ⟨d,1,none⟩=some (.int .u32 s.b)∧w'.cell? ⟨d,2,none⟩=some (.int .u32 s.c)) ?_ (λK hK=>?_)
       ·exact G2.o
       repeat((first|(refine zn rfl ?_;constructor;constructor;(focus(first|(rintro w' ⟨G,s2⟩;exact goS))))|(refine zq rfl ?_));try simp only[Act.put,pA,pB,pC])
       (refine zN rfl (λK' hK'=>?_))
       go_simp
       refine(ziz _ _).mono ?_
       rintro e wv ⟨rfl,rfl⟩
       refine nXt hK' ?_ λhS=>?_
       ·exact G2.o
       try simp only[Act.put,pA,pB,pC]
       repeat((first|(refine zn rfl ?_;constructor;constructor;(focus(first|(rintro w' ⟨G,s2⟩;exact goS))))|(refine zq rfl ?_));try simp only[Act.put,pA,pB,pC])
       (refine zN rfl (λK' hK'=>?_))
       go_simp
       refine(zhV _ _).mono ?_
       rintro e wv ⟨rfl,rfl⟩
       refine nXt hK' ?_ λhS=>?_
       ·exact G2.o
       try simp only[Act.put,pA,pB,pC]
       repeat((first|(refine zn rfl ?_;constructor;constructor;(focus(first|(rintro w' ⟨G,s2⟩;exact goS))))|(refine zq rfl ?_));try simp only[Act.put,pA,pB,pC])
       (refine zN rfl (λK' hK'=>?_))
       go_simp
       refine(zhZ _ _).mono ?_
       rintro e wv ⟨rfl,rfl⟩
       refine nXt hK' ?_ λhS=>?_
       ·exact G2.o
       try simp only[Act.put,pA,pB,pC]
       repeat((first|(refine zn rfl ?_;constructor;constructor;(focus(first|(rintro w' ⟨G,s2⟩;exact goS))))|(refine zq rfl ?_));try simp only[Act.put,pA,pB,pC])
       refine zZ (hK.out _ _ ?_)
       have hq:IntKind.u32.wrap (bits .xor .u32 (bits .xor .u32 (zfN s.a) (zbZ s.a)) (zb3 s.a)+bits .xor .u32 (bits .xor .u32 (bits .and .u32 s.a s.b) (bits .and .u32 s.a s.c)) (bits .and .u32 s.b s.c))=sq:=HQ.o
       rw[hq]
       have C:=J (FE.o.obj ah.o _root_.id)
       have bj:=J (bh.o.trans0 FE.o)
       generalize F.drew=wx at*
       clear hq G2 C0 FD FE
       have C0:wx.cell? ⟨d,0,none⟩=some (.int .u32 s.a):=yx (k:=0) C.o (show 0<8 by decide)
       have C1:wx.cell? ⟨d,1,none⟩=some (.int .u32 s.b):=yx (k:=1) C.o (show 1<8 by decide)
       have C2:wx.cell? ⟨d,2,none⟩=some (.int .u32 s.c):=yx (k:=2) C.o (show 2<8 by decide)
       have C3:wx.cell? ⟨d,3,none⟩=some (.int .u32 s.d):=yx (k:=3) C.o (show 3<8 by decide)
       have C4:wx.cell? ⟨d,4,none⟩=some (.int .u32 s.e):=yx (k:=4) C.o (show 4<8 by decide)
       have C5:wx.cell? ⟨d,5,none⟩=some (.int .u32 s.f):=yx (k:=5) C.o (show 5<8 by decide)
       have C6:wx.cell? ⟨d,6,none⟩=some (.int .u32 s.g):=yx (k:=6) C.o (show 6<8 by decide)
       have⟨K0,K1⟩:=tZ2
       go_wp2_with ((first|((with_reducible refine xF 188 ?_);clear K0;refine zg rfl (yl (o:=⟨some 188,_,_,_,_,_⟩) (t:=134) rfl rfl (zii _ _ _ _ _ _ _ _ _)) ?_)|((with_reducible refine zr ?_);clear K1;refine ze rfl (zy (ty:=134) (b:=d) (off:=0) (cs:=[m32 (sp+sq),s.a,s.b,s.c,m32 (s.d+sp),s.e,s.f,s.g].map yJ) rfl rfl rfl (zM C.o (le_refl 8)) Jc Ja) ?_));go_frame)
       have FS:=zv d [yJ (m32 (sp+sq)),yJ s.a,yJ s.b,yJ s.c,yJ (m32 (s.d+sp)),yJ s.e,yJ s.f,yJ s.g] 0 wx
       have bn:=@J ((wx.setCells d 0 [yJ (m32 (sp+sq)),yJ s.a,yJ s.b,yJ s.c,yJ (m32 (s.d+sp)),yJ s.e,yJ s.f,yJ s.g]).heap[d]? =some (.cells (xm (v8 (R (f+1)))) 134 (0,0))) (by rw[bp.o];exact zev (z:=(v8 s).map yJ) (cs:=[yJ (m32 (sp+sq)),yJ s.a,yJ s.b,yJ s.c,yJ (m32 (s.d+sp)),yJ s.e,yJ s.f,yJ s.g]) C.o rfl)
       have bf:=J (bj.o.trans FS (λ_ _ h=>h))
       generalize wx.setCells d 0 [yJ (m32 (sp+sq)),yJ s.a,yJ s.b,yJ s.c,yJ (m32 (s.d+sp)),yJ s.e,yJ s.f,yJ s.g]=wu at*
       go_roundw
       case rel=>exact⟨f+1,by go_num,by omega,bn.o,bf.o⟩
       case measure=>simp[intOf];omega
      ·have ae:f=64:=by omega
       have i3:¬(f:Int)<64:=by omega
       obtain⟨V,hV⟩:∃V,V=v8 (R f):=⟨_,rfl⟩
       have V8:=@J (V.length=8) (by rw[hV];rfl)
       have bo:=@J (r.heap[d]? =some (.cells (xm V) 134 (0,0))) (by rw[hV];exact HV.o)
       have BV:=@J (xl S B=List.zipWith (λx y=>(x+y) % 4294967296) S V) (by rw[al.o,aE.o,hV,ae])
       have a1:=J (M.o.obj aZ.o (λe=>by have:=D.o;omega))
       have aY:=J (M.o.obj aX.o (λe=>by have:=D.o;omega))
       have bc:=@J (Fr No w r) (((F1.o.trans0 F5.o).trans bg.o (λi hi e=>by have:=S5.o;omega)).trans M.o (λi hi e=>by have:=D.o;omega))
       clear hV ae HV hlt bs M ar ax al aE
       go_wp2_with fail
       (try simp only[Exit.inBlock,Exit.then])
       go_loopw [190] (λI F=>∃i:Nat,I=.int .i64 i∧i≤8∧F.heap[q]? =some (.cells (xm (XX S V i)) 134 (0,0))∧Fr (λj=>j=q) r F) (λI _=>8-(intOf I).toNat)
       case atStart=>exact⟨0,rfl,zero_le _,by rw[zeF];exact a1.o,Fr.refl _ _⟩
       case round=>
        obtain⟨i,rfl,hi,aM,fr⟩:=hrel
        rename World=>F
        have FY:=J fr
        have HY:=J aM
        clear fr aM
        by_cases hlt:i<8
        ·have i4:(i:Int)<8:=by omega
         have pi:(0:Int)≤(i:Int):=by omega
         have ni:(i:Int).toNat=i:=by omega
         have ZS:=J (zgi HS.o V8.o hlt)
         have CS:=J (yx (k:=i) HY.o (by rw[zgh HS.o V8.o (by omega)];exact hlt))
         have CV:=J (yx (k:=i) (FY.o.obj bo.o (λe=>by have:=D.o;omega)) (by rw[V8.o];exact hlt))
         rw[zgg HS.o V8.o hlt] at CS
         generalize S.getD i 0=x at*
         generalize V.getD i 0=y at*
         have xi:=ixI hlt q
         have xj:=ixI hlt d
         go_upto_region 27 with fail
         have M:=zW (i:=i) HY.o
         have ai:=CS.o
         refine yD [ff,ff,ff,ff,ff,ff,ff,ff,tt] (λw'=>w'.cell? ⟨q,i,none⟩=some (.int .u32 x)∧w'.cell? ⟨d,i,none⟩=some (.int .u32 y)) (by kernel_rfl) (by kernel_rfl) 8 (by kernel_rfl) (by kernel_rfl) ?_ (λK hK=>?_)
         ·exact⟨(frN F).drew.cell CS.o _root_.id,(frN F).drew.cell CV.o _root_.id⟩
         repeat((first|(refine ym rfl ?_;constructor;constructor;(focus(first|(rintro w' ⟨G,s2⟩;exact goS))))|(refine yn rfl ?_));try simp only[Act.put,pA,pB,pC])
         (refine yf rfl (λK' hK'=>?_))
         go_simp
         refine hK'.out _ _ (λh=>absurd rfl h) (λhS=>?_)
         refine qp (hK.out _ _ ?_)
         have hv:IntKind.u32.wrap (x+y)=m32 (x+y):=wrap32 _
         rw[hv]
         have aa:=@J ((F.setCell ⟨q,i,none⟩ (.int .u32 (m32 (x+y)))).drew.heap[q]? =some (.cells (xm (XX S V (i+1))) 134 (0,0))) (by
          have:=heap_setCell_same F q i _ _ (.int .u32 (m32 (x+y))) HY.o
          rw[Yh,ZS.o] at this
          exact this)
         have F9:=@J (Fr (λj=>j=q) r (F.setCell ⟨q,i,none⟩ (.int .u32 (m32 (x+y)))).drew) ((FY.o.setCell ⟨q,i,none⟩ (.inr rfl) _).drew)
         generalize (F.setCell ⟨q,i,none⟩ (.int .u32 (m32 (x+y)))).drew=w9 at*
         clear hv M ai
         go_wp2_with fail
         go_roundw
         case rel=>exact⟨i+1,by go_num,by omega,aa.o,F9.o⟩
         case measure=>simp[intOf];omega
        ·have aP:i=8:=by omega
         have i4:¬(i:Int)<8:=by omega
         have HE:=@J (F.heap[q]? =some (.cells ((xl S B).map yJ).toArray 134 (0,0))) (by rw[BV.o,←zgf HS.o V8.o,←aP];exact HY.o)
         have X:=@J (((xl S B).map yJ).length=8) (by rw[length_map,BV.o,List.length_zipWith,HS.o,V8.o];rfl)
         have RE:=J (xy HE.o)
         have aw:=J (FY.o.obj aY.o (λe=>by omega))
         have bb:=J (bc.o.trans FY.o (λi hi e=>by omega))
         have aF:=J (Ja (l:=xl S B))
         generalize aO:(xl S B).map yJ=ab at*
         have bm:=J aO
         clear aO
         clear aP hlt hi HY
         have⟨K0,K1⟩:=tZ2
         go_wp2_with ((first|((with_reducible refine zt ?_);clear K0;refine zg rfl (ye (ty:=134) rfl rfl RE.o uU rU (by rw[X.o];exact Jc)) ?_)|((with_reducible refine zr ?_);clear K1;refine ze rfl (zy (ty:=134) (b:=q+1+1) (off:=0) (cs:=ab) rfl rfl rfl (by rw[X.o];exact zM aw.o (le_refl 8)) (by rw[X.o];exact Jc) aF.o) ?_));go_frame)
         have BE:=zev (cs:=ab) aw.o (by rw[X.o];rfl)
         have fE:=zv (q+1+1) ab 0 F
         exact bodyPost_ret (v:=.agg ab.toArray) (results_cell_row (P:=prog) (fn:=Tryz.f65) rfl _ _ (q+1+1) 134 ab.toArray (0,0) _ rfl BE Tryz.underlying134 rfl (by rw[List.size_toArray,X.o];exact Jc)) rfl ⟨by rw[←bm.o];rfl,bb.o.trans fE (λi hi e=>by omega)⟩
theorem zch {P:Program} {o:Oper} {a:Act} {w w':World} {K:Act→World→Prop} {Q:Exit→Act→World→Prop} {s x:Operand} {e:Array TypeId} {d f v:Value}
  (c:o.op=.call {callee:=.builtin .copy,args:= #[s,x],argTypes:=e}) (i:a.eval s=d) (j:a.eval x=f)
  (b:(Builtin.copy_ e o.type #[d,f]).run P w=.ok v w') (h:K (a.put o.dst v) w'):o.wp P a w K Q:=by
 unfold Oper.wp
 have g:(execOp a.eval o).run P w=.ok (.value v) w':=by
  simp[execOp,c,resolve,i,j,invoke,builtin,b,Result.andThen]
 rw[g]
 exact h
theorem zgq {B g n c i d:Nat} {l:List Int} {z:List Value} (h:yC w B (.slice (some ⟨g,0,none⟩) n c) l) (hi:i+64≤l.length) (m:w.heap[d]? =some (.cells z.toArray 136 (0,0))) (p:z.length=64):
  (Builtin.copy_ #[84,84] 3 #[.slice (some ⟨d,0,none⟩) 64 64,.slice (some ⟨g,i,none⟩) 64 (c-i)]).run prog w=.ok (goInt 64) (w.setCells d 0 (((l.drop i).take 64).map zu)):=by
 have o:(((l.drop i).take 64).map zu).length=64:=by rw[length_map,length_take,List.length_drop];omega
 have s:yP w (.slice (some ⟨g,0,none⟩) n c) l.length (l.map zu):=h.slice
 have:=run_copy_cells (P:=prog) w 84 84 3 5 d 0 64 64 ⟨g,i,none⟩ 64 (c-i) (((l.drop i).take 64).map zu) Tryz.underlying84 (by kernel_rfl) (by rw[o];rfl) (λj v a=>by
  rcases s with⟨e,_⟩|⟨b,off,q,e,_,_,r,_⟩
  ·cases e
  ·injection e with e1 e2 e3
   injection e1 with e1
   injection e1 with e1 e4
   subst e1
   rw[Jp]
   have f:j<64:=by have:=(List.getElem?_eq_some_iff.1 a).1;omega
   have:=r (i+j) v (by
    rw[List.getElem?_map] at a⊢
    rw[List.getElem?_take,if_pos f,List.getElem?_drop] at a
    exact a)
   rw[←e4,Nat.zero_add] at this
   exact this) (λj a=>by
  have:=zM m (k:=64) (by simp[p]) j (by omega)
  simpa using this.1) (λj a=>by
  have:=zM m (k:=64) (by simp[p]) j (by omega)
  simpa using this.2) V3
 rw[o] at this
 exact this
theorem zhw (g n c i j:Nat) (d:j=i+64) (hi:j≤n) (e:n≤c) (w:World):(Instr.slice 84 (.slice (some ⟨g,0,none⟩) n c) (some (.int .i64 i)) (some (.int .i64 j)) none).run prog w=.ok (.slice (some ⟨g,i,none⟩) 64 (c-i)) w:=by
 have a:(sizeOf (prog.elem 84)).run prog w=.ok 1 w:=by kernel_rfl
 rw[Go.run_slice_lh (P:=prog) w 84 (some ⟨g,0,none⟩) n c (by kernel_rfl) IntKind.i64 IntKind.i64 (i:Int) (j:Int) (by omega) (by omega) (by omega),a]
 have b:(j:Int).toNat-(i:Int).toNat=64:=by omega
 simp[sliced,Jp]
 omega
def zf7:List Value:=(List.replicate 64 (0:Int)).map zu
theorem zf8:zf7.length=64:=rfl
theorem zgc (w:World):(zeroValue 136).run prog w=.ok (.agg zf7.toArray) w:=zg7 w
theorem zgA:(prog.info? 136).map (·.size)=some 64:=by kernel_rfl
theorem zgs:∃d,prog.underlying 136=some d∧d.isRow=true:=vq (by kernel_rfl)
theorem Xm (b:List Int) (i:Nat):(Zj b i).length=8:=(qE.adds (l:=b.take (64*i)) (h:=vL) ⟨rfl,rfl⟩).1
theorem zgG {q m j:Nat} {a:List Int} {v:Int} (c:a.length=32) (d:w.heap[q]? =some (.cells ((j9 a m).map zu).toArray 40 (0,0))) (f:m<32) (e:j=m) (b:v=a.getD m 0):
  (w.setCell ⟨q,j,none⟩ (.int .u8 v)).heap[q]? =some (.cells ((j9 a (m+1)).map zu).toArray 40 (0,0)):=by
 subst e
 have h:=heap_setCell_same w q j _ _ (.int .u8 v) d
 rw[List.setIfInBounds_toArray,←show zu v=.int .u8 v from rfl,←List.map_set,b,Yc c f] at h
 rw[b]
 exact h
theorem ziO {q i c d e f:Nat} {a:List Int} {g h j k:Int} (b:a.length=32) (v:w.heap[q]? =some (.cells ((j9 a (4*i)).map zu).toArray 40 (0,0))) (hi:i<8) (r:c=4*i) (s:d=4*i+1) (t:e=4*i+2) (u:f=4*i+3)
  (l:g=a.getD (4*i) 0) (n:h=a.getD (4*i+1) 0) (o:j=a.getD (4*i+2) 0) (p:k=a.getD (4*i+3) 0):
  ((((w.setCell ⟨q,c,none⟩ (.int .u8 g)).setCell ⟨q,d,none⟩ (.int .u8 h)).setCell ⟨q,e,none⟩ (.int .u8 j)).setCell ⟨q,f,none⟩ (.int .u8 k)).heap[q]? =some (.cells ((j9 a (4*(i+1))).map zu).toArray 40 (0,0)):=by
 rw[show 4*(i+1)=4*i+3+1 by omega]
 exact zgG (m:=4*i+3) b (zgG (m:=4*i+2) b (zgG (m:=4*i+1) b (zgG (m:=4*i) b v (by omega) r l) (by omega) s n) (by omega) t o) (by omega) u p
theorem fr4 {w w0:World} {q a b c d:Nat} {e g h i:Int} (f:Fr (λj=>j=q) w0 w):Fr (λj=>j=q) w0 ((((w.setCell ⟨q,a,none⟩ (.int .u8 e)).setCell ⟨q,b,none⟩ (.int .u8 g)).setCell ⟨q,c,none⟩ (.int .u8 h)).setCell ⟨q,d,none⟩ (.int .u8 i)):=
 (((f.setCell _ (.inr rfl) _).setCell _ (.inr rfl) _).setCell _ (.inr rfl) _).setCell _ (.inr rfl) _
end Go.Proofs.YtmpamcnlineceaaGreatDoor
