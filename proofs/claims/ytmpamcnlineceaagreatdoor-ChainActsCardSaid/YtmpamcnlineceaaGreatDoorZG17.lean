/- pappusref03.Sum. -/
import Derived.Deep.CutRange
import Derived.Test.YtmpamcnlineceaaGreatDoorZG16
import Derived.Test.YtmpamcnlineceaaGreatDoorZG5
import Derived.Test.YtmpamcnlineceaaGreatDoorZG7
import Derived.Test.YtmpamcnlineceaaGreatDoorZG3
import Derived.Test.YtmpamcnlineceaaGreatDoorZG4
import Derived.Test.YtmpamcnlineceaaGreatDoorZG15
import Derived.Test.YtmpamcnlineceaaGreatDoorZG9
import Derived.Test.YtmpamcnlineceaaGreatDoorZG14
set_option linter.unusedVariables false
set_option linter.unusedSimpArgs false
set_option linter.unnecessarySimpa false
set_option linter.all false
set_option maxRecDepth 20000
set_option maxHeartbeats 16000000
namespace Go.Proofs.YtmpamcnlineceaaGreatDoor
open Go Go.RowKit Go.Maps Go.MapKept
open Go.Proofs.Tryz(prog)
open List(mem_map getElem?_eq_getElem mem_of_getElem? length_append length_map take_length length_take append_assoc size_toArray mem_of_mem_take length_singleton)
open Nat(le_refl zero_le)
variable {l:List Int} {v:Value} {w:World}
theorem zij (w:World):(Instr.buildSlice 84 0 #[]).run prog w=.ok (.slice (some ⟨w.heap.size,0,none⟩) 0 0) (w.alloc (.cells #[] 5)):=by kernel_rfl
section
variable {o:Oper} {w:World} {ev:Operand→Value}
theorem zcF (a:o.op=.buildSlice 84 0 #[]):(execOp ev o).run prog w=.ok (.value (.slice (some ⟨w.heap.size,0,none⟩) 0 0)) (w.alloc (.cells #[] 5)):=by
 have b:(#[]:Array (Nat×Operand)).map (λ(i,x)=>(i,ev x))= #[]:=by simp
 simp only[execOp,a,b,Sem.run_bind,zij,Result.andThen_ok,Sem.run_pure]
end
theorem ziQ (w:World) (T:TypeId) (k:Nat):(w.alloc (.cells #[] T)).ownsRow w.heap.size T k (.slice (some ⟨w.heap.size,0,none⟩) 0 0) 0 []:=
 ⟨by simp,.inr ⟨w.heap.size,0,#[],rfl,le_refl _,zS w _,le_refl _,zero_le _,by simp,by simp⟩⟩
def Qi (m:List Int) (k:Nat):List Int:=m++[128]++List.replicate k 0
theorem zbP (m:List Int) (k:Nat):(Qi m k).length=m.length+1+k:=by simp[Qi];omega
theorem zen (m:List Int) (k:Nat):Qi m (k+1)=Qi m k++[0]:=by
 unfold Qi
 rw[List.replicate_succ',←append_assoc]
def X0 (b:Int):Int:=b / 72057594037927936
def X1 (b:Int):Int:=b / 281474976710656 % 256
def X2 (b:Int):Int:=b / 1099511627776 % 256
def X3 (b:Int):Int:=b / 4294967296 % 256
def X4 (b:Int):Int:=b / 16777216 % 256
def X5 (b:Int):Int:=b / 65536 % 256
def X6 (b:Int):Int:=b / 256 % 256
def X7 (b:Int):Int:=b % 256
def szB (b:Int):List Int:=[X0 b,X1 b,X2 b,X3 b,X4 b,X5 b,X6 b,X7 b]
def zhf:Value→Nat
 |.slice _ n _=>n
 |_=>0
def ziI (m:List Int) (w:World) (e:Ending) (w':World):Prop:=e=.returned (.agg (zl (y9 m)).toArray)∧Fr No w w'
theorem zg8 (w:World):(zeroValue 40).run prog w=.ok (.agg yO) w:=by kernel_rfl
theorem Vz (w:World) {m:List Int} (hm:xG w v m.length (m.map zu)) (hN:m.length≤900000):Calls prog 47 #[v] w (ziI m w):=by
 have zH:=zg8
 have z8:=zaZ
 have zB:=zgc
 obtain⟨va,vc,rfl⟩:=hm.form
 have F1:=J ((frN w).alloc (.cells yO 40))
 have B1:=J (zS w (.cells yO 40))
 have HM:=J (hm.keep F1.o)
 have n1:m.length≤900000:=hN
 clear hm hN
 go_enter Tryz.func47,Tryz.ntmps47
 go_upto_region 2 with fail
 generalize bH:w.heap.size=q2 at*
 generalize w.alloc (.cells yO 40)=G at*
 have R0:=@J (yC (G.alloc (.cells #[] 5)) G.heap.size (.slice (some ⟨G.heap.size,0,none⟩) 0 0) []) (ziQ G 5 1)
 have F2:=J ((frN G).alloc (.cells #[] 5))
 obtain⟨v3,w3,E,u,F,O⟩:=yq (v:=.slice (some ⟨G.heap.size,0,none⟩) 0 0) (G.alloc (.cells #[] 5)) R0.o (HM.o.keep F2.o) (by simp;omega) F2.o.size 84
 obtain⟨b3,c3,bp⟩:=u.form
 subst bp
 have F3:=@J (Fr No G w3) (F2.o.trans F (λi hi e=>(show False by have h:G.heap.size=i:=(by simpa[Value.ownBlock] using e);omega)))
 have A1:=J E
 have R3:=@J (yC w3 G.heap.size (.slice b3 m.length c3) m) (by simpa using u)
 have Z3:=J F3.o.size
 obtain⟨v4,w4,b1,b2,ak,b4⟩:=yT w3 (x:=128) R3.o (by omega) Z3.o 84
 obtain⟨d4,e4,aY⟩:=b2.form
 obtain⟨l4,an⟩:∃l4,l4=(m++[128]).length:=⟨_,rfl⟩
 rw[←an] at aY
 subst aY
 have A4:=J b1
 have F4:=@J (Fr No G w4) (F3.o.trans ak (λi hi e=>(show False by have:=(R3.o.lt i e).1;omega)))
 have R4:=@J (yC w4 G.heap.size (.slice d4 l4 e4) (Qi m 0)) (by simpa[Qi] using b2)
 clear E u F O b1 b2 ak b4
 have⟨H,K1,K2⟩:=tZ3
 go_wp2_with ((first|((with_reducible refine xF 16 ?_);clear H;refine zg (o:=⟨some 16,_,_,_,_,_⟩) rfl (zcF rfl) ?_)|((with_reducible refine zt ?_);first|(clear K1;at_builtin;refine zk rfl rfl rfl rfl A1.o ?_)|(clear K2;at_builtin;refine zk rfl rfl rfl rfl A4.o ?_)));go_frame)
 clear R0 A1 R3 A4 F2 HM
 generalize aL:G.heap.size=V at*
 have L:=J aL
 clear aL Z3 F3
 have R5:=R4
 have L4:=@J (l4=m.length+1+0) (by rw[an];simp)
 clear R4 an
 go_loopw [4] (λbv wr=>∃(k:Nat) (a:Option Addr) (B c:Nat),bv=.slice a B c∧B=m.length+1+k∧k≤Jy (m.length+1)∧yC wr V (.slice a B c) (Qi m k)∧Fr No G wr) (λbv _=>m.length+65-zhf bv)
 case atStart=>exact⟨0,d4,l4,e4,rfl,L4.o,zero_le _,R5.o,F4.o⟩
 case round=>
  clear R5 L4 F4
  obtain⟨k,ba,B,bc,rfl,ao,hk,ad,T⟩:=hrel
  rename World=>wr
  have I:=J ad
  have U:=J T
  have X:=J ao
  have PE:=J (Vk (m.length+1))
  have PL:=@J (Jy (m.length+1)<64) (by unfold Jy;omega)
  clear ad T
  obtain⟨rr,aW⟩:∃rr,rr=B % 64:=⟨_,rfl⟩
  have r1:(B:Int) % 64=(rr:Int):=by omega
  have r2:(B:Int).tmod 64=(rr:Int):=by rw[Int.tmod_eq_emod_of_nonneg (by omega)];omega
  by_cases hlt:k<Jy (m.length+1)
  ·have e1:¬(rr:Int)=56:=by
    have h:=PL.o
    have h2:=PE.o
    unfold Jy at*
    omega
   have e2:((rr:Int)==56)=false:=by simpa using e1
   have aa:=J hlt
   have n2:B≤900100:=by have:=PL.o;omega
   have M:=@J (V≤wr.heap.size) (by have:=U.o.size;have:=L.o;omega)
   obtain⟨v5,D,E,u,F,O⟩:=yT wr (x:=0) (show yC wr V (.slice ba B bc) (Qi m k) from I.o) (by rw[zbP];omega) M.o 84
   obtain⟨n,p,l⟩:=u.form
   rw[length_append,zbP,length_singleton,←X.o] at l
   subst l
   have q:=J E
   have s:=@J (yC D V (.slice n (B+1) p) (Qi m (k+1))) (by rw[zen];exact u)
   have t:=@J (Fr No G D) (U.o.trans F (λi hi e=>(show False by have:=(I.o.lt i e).1;have:=L.o;omega)))
   clear E u F O ao hk hlt e1 aW
   have H:=tru
   go_wp2_with ((with_reducible refine zt ?_);clear H;at_builtin;refine zk rfl rfl rfl rfl q.o ?_;go_frame)
   go_roundw
   case rel=>exact⟨k+1,n,B+1,p,rfl,by have:=X.o;omega,by have:=aa.o;omega,s.o,t.o⟩
   case measure=>exact(show m.length+65-(B+1)<m.length+65-B by have:=X.o;have:=PL.o;have:=aa.o;omega)
  ·have e1:(rr:Int)=56:=by
    have h:=PL.o
    have h2:=PE.o
    have h3:k=Jy (m.length+1):=by omega
    rw[←h3] at h2
    omega
   have KE:=@J (k=Jy (m.length+1)) (by omega)
   have LB:=@J (B≤900100) (by have:=PL.o;omega)
   clear ao hk hlt aW
   go_wp2_with fail
   (try simp only[Exit.inBlock,Exit.then])
   obtain⟨d,aM⟩:∃d:Int,d=(m.length:Int)*8:=⟨_,rfl⟩
   rw[←aM]
   have BB:=@J (0≤d∧d≤18446744073709551615) (by omega)
   have SB:=@J (Yg m.length=szB d) (by
    have h:(m.length:Int)*8 % 18446744073709551616=d:=by omega
    have h2:d / 72057594037927936 % 256=d / 72057594037927936:=by omega
    unfold Yg
    rw[h,h2]
    rfl)
   clear aM r1 r2 e1 n1 PE PL X
   generalize aK:Qi m k=N at*
   have az:=@J (N=Qi m (Jy (m.length+1))) (by rw[←aK,KE.o])
   clear aK KE
   go_loopw [4,5] (λbv iv wr=>∃(j:Nat) (a:Option Addr) (f c:Nat),iv=.int .i64 (7-(j:Int))∧j≤8∧bv=.slice a f c∧f=B+j∧yC wr V (.slice a f c) (N++(szB d).take j)∧Fr No G wr) (λbv _ _=>B+9-zhf bv)
   case atStart=>exact⟨0,ba,B,bc,rfl,by omega,rfl,rfl,by simpa using I.o,U.o⟩
   case round=>
    clear I U
    obtain⟨j,ba,f,bc,rfl,hj,rfl,aT,ad,T⟩:=hrel
    rename World=>wr
    have I:=J ad
    have U:=J T
    have A:=J aT
    have M:=@J (V≤wr.heap.size) (by have:=U.o.size;have:=L.o;omega)
    have Q:=@J ((N++(szB d).take j).length=f) (by
     obtain⟨a',c',h⟩:=I.o.form
     injection h with _ h2 _
     exact h2.symm)
    clear ad T aT
    by_cases hlt:j<8
    ·have aH:=BB.o.1
     have aI:=BB.o.2
     clear hj
     rcases(show j=0∨j=1∨j=2∨j=3∨j=4∨j=5∨j=6∨j=7 by omega) with rfl|rfl|rfl|rfl|rfl|rfl|rfl|rfl
     ·have hz:=A.o
      clear hlt
      obtain⟨v5,D,E,u,F,O⟩:=yT wr (x:=X0 d) I.o (by rw[Q.o];have:=A.o;have:=LB.o;omega) M.o 84
      obtain⟨n,p,l⟩:=u.form
      have r:(N++(szB d).take 0++[X0 d]).length=f+1:=by rw[length_append,Q.o];rfl
      rw[r] at l
      subst l
      have q:=J E
      have s:=@J (yC D V (.slice n (f+1) p) (N++(szB d).take 1)) (by rw[show(szB d).take 1=(szB d).take 0++[X0 d] from rfl,←append_assoc];exact u)
      have t:=@J (Fr No G D) (U.o.trans F (λi hi e=>(show False by have:=(I.o.lt i e).1;have:=L.o;omega)))
      unfold X0 at q
      clear E u F O r
      have H:=tru
      go_wp2_with ((with_reducible refine zt ?_);clear H;at_builtin;refine zk rfl rfl rfl rfl q.o ?_;go_frame)
      go_roundw
      case rel=>exact⟨1,n,f+1,p,by first|rfl|(congr 1),by omega,rfl,by have:=A.o;omega,s.o,t.o⟩
      case measure=>exact(show B+9-(f+1)<B+9-f by have:=A.o;omega)
     ·have hz:=A.o
      clear hlt
      obtain⟨v5,D,E,u,F,O⟩:=yT wr (x:=X1 d) I.o (by rw[Q.o];have:=A.o;have:=LB.o;omega) M.o 84
      obtain⟨n,p,l⟩:=u.form
      have r:(N++(szB d).take 1++[X1 d]).length=f+1:=by rw[length_append,Q.o];rfl
      rw[r] at l
      subst l
      have q:=J E
      have s:=@J (yC D V (.slice n (f+1) p) (N++(szB d).take 2)) (by rw[show(szB d).take 2=(szB d).take 1++[X1 d] from rfl,←append_assoc];exact u)
      have t:=@J (Fr No G D) (U.o.trans F (λi hi e=>(show False by have:=(I.o.lt i e).1;have:=L.o;omega)))
      unfold X1 at q
      clear E u F O r
      have H:=tru
      go_wp2_with ((with_reducible refine zt ?_);clear H;at_builtin;refine zk rfl rfl rfl rfl q.o ?_;go_frame)
      go_roundw
      case rel=>exact⟨2,n,f+1,p,by first|rfl|(congr 1),by omega,rfl,by have:=A.o;omega,s.o,t.o⟩
      case measure=>exact(show B+9-(f+1)<B+9-f by have:=A.o;omega)
     ·have hz:=A.o
      clear hlt
      obtain⟨v5,D,E,u,F,O⟩:=yT wr (x:=X2 d) I.o (by rw[Q.o];have:=A.o;have:=LB.o;omega) M.o 84
      obtain⟨n,p,l⟩:=u.form
      have r:(N++(szB d).take 2++[X2 d]).length=f+1:=by rw[length_append,Q.o];rfl
      rw[r] at l
      subst l
      have q:=J E
      have s:=@J (yC D V (.slice n (f+1) p) (N++(szB d).take 3)) (by rw[show(szB d).take 3=(szB d).take 2++[X2 d] from rfl,←append_assoc];exact u)
      have t:=@J (Fr No G D) (U.o.trans F (λi hi e=>(show False by have:=(I.o.lt i e).1;have:=L.o;omega)))
      unfold X2 at q
      clear E u F O r
      have H:=tru
      go_wp2_with ((with_reducible refine zt ?_);clear H;at_builtin;refine zk rfl rfl rfl rfl q.o ?_;go_frame)
      go_roundw
      case rel=>exact⟨3,n,f+1,p,by first|rfl|(congr 1),by omega,rfl,by have:=A.o;omega,s.o,t.o⟩
      case measure=>exact(show B+9-(f+1)<B+9-f by have:=A.o;omega)
     ·have hz:=A.o
      clear hlt
      obtain⟨v5,D,E,u,F,O⟩:=yT wr (x:=X3 d) I.o (by rw[Q.o];have:=A.o;have:=LB.o;omega) M.o 84
      obtain⟨n,p,l⟩:=u.form
      have r:(N++(szB d).take 3++[X3 d]).length=f+1:=by rw[length_append,Q.o];rfl
      rw[r] at l
      subst l
      have q:=J E
      have s:=@J (yC D V (.slice n (f+1) p) (N++(szB d).take 4)) (by rw[show(szB d).take 4=(szB d).take 3++[X3 d] from rfl,←append_assoc];exact u)
      have t:=@J (Fr No G D) (U.o.trans F (λi hi e=>(show False by have:=(I.o.lt i e).1;have:=L.o;omega)))
      unfold X3 at q
      clear E u F O r
      have H:=tru
      go_wp2_with ((with_reducible refine zt ?_);clear H;at_builtin;refine zk rfl rfl rfl rfl q.o ?_;go_frame)
      go_roundw
      case rel=>exact⟨4,n,f+1,p,by first|rfl|(congr 1),by omega,rfl,by have:=A.o;omega,s.o,t.o⟩
      case measure=>exact(show B+9-(f+1)<B+9-f by have:=A.o;omega)
     ·have hz:=A.o
      clear hlt
      obtain⟨v5,D,E,u,F,O⟩:=yT wr (x:=X4 d) I.o (by rw[Q.o];have:=A.o;have:=LB.o;omega) M.o 84
      obtain⟨n,p,l⟩:=u.form
      have r:(N++(szB d).take 4++[X4 d]).length=f+1:=by rw[length_append,Q.o];rfl
      rw[r] at l
      subst l
      have q:=J E
      have s:=@J (yC D V (.slice n (f+1) p) (N++(szB d).take 5)) (by rw[show(szB d).take 5=(szB d).take 4++[X4 d] from rfl,←append_assoc];exact u)
      have t:=@J (Fr No G D) (U.o.trans F (λi hi e=>(show False by have:=(I.o.lt i e).1;have:=L.o;omega)))
      unfold X4 at q
      clear E u F O r
      have H:=tru
      go_wp2_with ((with_reducible refine zt ?_);clear H;at_builtin;refine zk rfl rfl rfl rfl q.o ?_;go_frame)
      go_roundw
      case rel=>exact⟨5,n,f+1,p,by first|rfl|(congr 1),by omega,rfl,by have:=A.o;omega,s.o,t.o⟩
      case measure=>exact(show B+9-(f+1)<B+9-f by have:=A.o;omega)
     ·have hz:=A.o
      clear hlt
      obtain⟨v5,D,E,u,F,O⟩:=yT wr (x:=X5 d) I.o (by rw[Q.o];have:=A.o;have:=LB.o;omega) M.o 84
      obtain⟨n,p,l⟩:=u.form
      have r:(N++(szB d).take 5++[X5 d]).length=f+1:=by rw[length_append,Q.o];rfl
      rw[r] at l
      subst l
      have q:=J E
      have s:=@J (yC D V (.slice n (f+1) p) (N++(szB d).take 6)) (by rw[show(szB d).take 6=(szB d).take 5++[X5 d] from rfl,←append_assoc];exact u)
      have t:=@J (Fr No G D) (U.o.trans F (λi hi e=>(show False by have:=(I.o.lt i e).1;have:=L.o;omega)))
      unfold X5 at q
      clear E u F O r
      have H:=tru
      go_wp2_with ((with_reducible refine zt ?_);clear H;at_builtin;refine zk rfl rfl rfl rfl q.o ?_;go_frame)
      go_roundw
      case rel=>exact⟨6,n,f+1,p,by first|rfl|(congr 1),by omega,rfl,by have:=A.o;omega,s.o,t.o⟩
      case measure=>exact(show B+9-(f+1)<B+9-f by have:=A.o;omega)
     ·have hz:=A.o
      clear hlt
      obtain⟨v5,D,E,u,F,O⟩:=yT wr (x:=X6 d) I.o (by rw[Q.o];have:=A.o;have:=LB.o;omega) M.o 84
      obtain⟨n,p,l⟩:=u.form
      have r:(N++(szB d).take 6++[X6 d]).length=f+1:=by rw[length_append,Q.o];rfl
      rw[r] at l
      subst l
      have q:=J E
      have s:=@J (yC D V (.slice n (f+1) p) (N++(szB d).take 7)) (by rw[show(szB d).take 7=(szB d).take 6++[X6 d] from rfl,←append_assoc];exact u)
      have t:=@J (Fr No G D) (U.o.trans F (λi hi e=>(show False by have:=(I.o.lt i e).1;have:=L.o;omega)))
      unfold X6 at q
      clear E u F O r
      have H:=tru
      go_wp2_with ((with_reducible refine zt ?_);clear H;at_builtin;refine zk rfl rfl rfl rfl q.o ?_;go_frame)
      go_roundw
      case rel=>exact⟨7,n,f+1,p,by first|rfl|(congr 1),by omega,rfl,by have:=A.o;omega,s.o,t.o⟩
      case measure=>exact(show B+9-(f+1)<B+9-f by have:=A.o;omega)
     ·have hz:=A.o
      clear hlt
      obtain⟨v5,D,E,u,F,O⟩:=yT wr (x:=X7 d) I.o (by rw[Q.o];have:=A.o;have:=LB.o;omega) M.o 84
      obtain⟨n,p,l⟩:=u.form
      have r:(N++(szB d).take 7++[X7 d]).length=f+1:=by rw[length_append,Q.o];rfl
      rw[r] at l
      subst l
      have q:=J E
      have s:=@J (yC D V (.slice n (f+1) p) (N++(szB d).take 8)) (by rw[show(szB d).take 8=(szB d).take 7++[X7 d] from rfl,←append_assoc];exact u)
      have t:=@J (Fr No G D) (U.o.trans F (λi hi e=>(show False by have:=(I.o.lt i e).1;have:=L.o;omega)))
      unfold X7 at q
      clear E u F O r
      have H:=tru
      go_wp2_with ((with_reducible refine zt ?_);clear H;at_builtin;refine zk rfl rfl rfl rfl q.o ?_;go_frame)
      go_roundw
      case rel=>exact⟨8,n,f+1,p,by first|rfl|(congr 1),by omega,rfl,by have:=A.o;omega,s.o,t.o⟩
      case measure=>exact(show B+9-(f+1)<B+9-f by have:=A.o;omega)
    ·have aQ:j=8:=by omega
     have i1:¬(0:Int)≤7-(j:Int):=by omega
     obtain⟨C,af⟩:∃C,C=zbQ m:=⟨_,rfl⟩
     have aj:=@J (N++(szB d).take j=C) (by
      rw[af,az.o,aQ,List.take_of_length_le (le_refl 8),←SB.o]
      rfl)
     have ae:=@J (yC wr V (.slice ba f bc) C) (by rw[←aj.o];exact I.o)
     have LD:=@J (C.length=f) (by rw[←aj.o];exact Q.o)
     have bk:=J af
     have aw:=zbR m
     rw[←af] at aw
     obtain⟨NN,aJ⟩:∃NN,C.length=64*NN:=⟨C.length / 64,by omega⟩
     have X:=@J (f=64*NN) (by rw[←LD.o];exact aJ)
     have LM:=@J (f≤900200) (by have:=A.o;have:=LB.o;omega)
     have aH:=BB.o.1
     have aI:=BB.o.2
     have i2:¬(j:Int)≤7:=by omega
     clear af aJ aw aQ hj hlt I Q aj az SB
     have SI:=@J ((ZT.map yJ).length=8) (rfl)
     obtain⟨d8,uU,rU⟩:=ze7
     have⟨H,K1⟩:=tZ2
     go_wp2_with ((first|(clear H;go_at_call 64;refine(zdL wr).mono ?_;rintro e D ⟨rfl,f5⟩;have t:=J (U.o.trans0 f5);have s:=J (ae.o.keep0 f5);clear f5)|((with_reducible refine zr ?_);clear K1;refine ze rfl (zj (w:=D) (ty:=134) (cs:=ZT.map yJ) rfl rfl rfl (by rw[SI.o];rfl) (by rw[SI.o];exact Jc) Ja) ?_;have B6:=J (zS D (.cells (ZT.map yJ).toArray 134));have FN:=J ((frN D).alloc (.cells (ZT.map yJ).toArray 134));generalize aU:D.heap.size=W at B6⊢;have Q6:=J aU;clear aU;generalize D.alloc (.cells (ZT.map yJ).toArray 134)=w6 at*));go_frame)
     have aZ:=@J (∀j,(Value.slice ba f bc).ownBlock=some j→j<W) (λj hj=>by have:=(s.o.lt j hj).2;have:=Q6.o;omega)
     have a7:=J (s.o.keep0 FN.o)
     have bf:=J (t.o.trans0 FN.o)
     have aC:=@J (w6.heap[W]? =some (.cells (xm (Zj C 0)) 134 (0,0))) (B6.o)
     have bl:=@J (G.heap.size≤W) (by have:=t.o.size;have:=Q6.o;omega)
     obtain⟨d9,uB,rB⟩:=zgs
     clear U ae s t B6 FN i1 i2 aH aI BB A LB Q6
     go_loopw [7] (λiv wr=>∃(k i:Nat),iv=.int .i64 i∧i=64*k∧k≤NN∧wr.heap[W]? =some (.cells (xm (Zj C k)) 134 (0,0))∧Fr (λj=>j=W) w6 wr) (λiv _=>f-(intOf iv).toNat)
     case atStart=>exact⟨0,0,rfl,rfl,zero_le _,aC.o,Fr.refl _ _⟩
     case round=>
      clear aC
      obtain⟨R,i,rfl,ag,aR,aX,T⟩:=hrel
      rename World=>wr
      have ST:=J aX
      have FS:=J T
      clear aX T
      by_cases hlt:R<NN
      ·have IK:=J ag
       have i3:(i:Int)<(f:Int):=by have:=X.o;omega
       have av:=J (a7.o.keep FS.o (λj hj e=>by have:=aZ.o j hj;omega))
       obtain⟨g,hg,hcap⟩:∃g,ba=some ⟨g,0,none⟩∧f≤bc:=by
        rcases av.o.2 with⟨e,hn⟩|⟨g,bz,bA,e,-,-,hc,-⟩
        ·exfalso
         have:=LD.o
         have:=X.o
         omega
        ·injection e with e1 e2 e3
         exact⟨g,e1,by rw[e3,e2];exact hc⟩
       subst hg
       obtain⟨jj,al⟩:∃jj,jj=i+64:=⟨_,rfl⟩
       have bF:IntKind.i64.wrap ((i:Int)+64)=(jj:Int):=by rw[IntWalk.i64_in _ (by have:=LM.o;omega)];omega
       have a8:=J (λw=>zhw g f bc i jj al (by have:=X.o;omega) hcap w)
       have IL:=@J (i+64≤C.length) (by have:=X.o;have:=LD.o;omega)
       have NX:=@J (Zj C (R+1)=xl (Zj C R) ((C.drop i).take 64)) (by rw[ag];exact zeA (by have:=X.o;have:=LD.o;omega))
       have ZL:=J zf8
       have aa:=J hlt
       have ai:=J al
       clear ag aR hlt al hcap
       go_upto_region 14 with fail
       have B8:=J (zS wr (.cells zf7.toArray 136))
       have F8:=J ((frN wr).alloc (.cells zf7.toArray 136))
       generalize aq:wr.heap.size=q8 at B8⊢
       have Q8:=@J (W<q8) (by rw[←aq];exact yu ST.o)
       have bm:=@J (w6.heap.size≤q8) (by rw[←aq];exact FS.o.size)
       generalize wr.alloc (.cells zf7.toArray 136)=wa at*
       clear aq
       have FD:=J ((frN wa).drew)
       have ae:=J ((av.o.keep0 F8.o).keep0 FD.o)
       have ar:=J (FD.o.obj B8.o _root_.id)
       have bo:=J (FD.o.obj (F8.o.obj ST.o _root_.id) _root_.id)
       have CP:=J (zgq ae.o IL.o ar.o ZL.o)
       have bP:∀w,(Instr.sliceAt 136 (.pointer (some ⟨q8,0,none⟩)) none none none).run prog w=.ok (.slice (some ⟨q8,0,none⟩) 64 64) w:=λw=>by kernel_rfl
       have ct:=a8.o
       refine wrLx [ff,ff,ff,ff,ff,ff,tt] (λ_=>True) ?_ (λK hK=>?_)
       ·trivial
       generalize wa.drew=wd at*
       repeat((first|(refine zn rfl ?_;constructor;constructor;(focus(first|(rintro w' -;exact goS))))|(refine zq rfl ?_));try simp only[Act.put,pA,pB,pC])
       (refine zN rfl (λK' hK'=>?_))
       refine zch rfl rfl rfl CP.o ?_
       refine nXt hK' ?_ λhS=>?_
       ·trivial
       try simp only[Act.put,pA,pB,pC]
       repeat((first|(refine zn rfl ?_;constructor;constructor;(focus(first|(rintro w' -;exact goS))))|(refine zq rfl ?_));try simp only[Act.put,pA,pB,pC])
       refine zZ (hK.out _ _ ?_)
       have FC:=J (zv q8 (((C.drop i).take 64).map zu) 0 wd)
       have BC:=J (zev (cs:=((C.drop i).take 64).map zu) ar.o (by rw[ZL.o,length_map,length_take,List.length_drop];have:=IL.o;omega))
       have aF:=J (FC.o.obj bo.o (λe=>by have:=Q8.o;omega))
       have bj:=@J (Fr (λj=>j=W) w6 (wd.setCells q8 0 (((C.drop i).take 64).map zu))) (((FS.o.trans0 F8.o).trans0 FD.o).trans FC.o (λx hx e=>(show x=W by have:=bm.o;omega)))
       have BL:=@J (((C.drop i).take 64).length=64) (by rw[length_take,List.length_drop];have:=IL.o;omega)
       generalize wd.setCells q8 0 (((C.drop i).take 64).map zu)=wc at*
       generalize (C.drop i).take 64=BB at*
       have a6:=@J ((BB.map zu).length=64) (by rw[length_map];exact BL.o)
       have ab:=@J (((Zj C R).map yJ).length=8) (by rw[length_map];exact Xm C R)
       have bn:=J (Xm C R)
       have RS:=J (xy (cs:=(Zj C R).map yJ) aF.o)
       have RB:=J (xy BC.o)
       have ay:=@J (((xl (Zj C R) BB).map yJ).length=8) (by rw[length_map];rfl)
       have⟨H,K1,K2,K3⟩:=tZ4
       go_wp2_with ((first|((with_reducible refine zt ?_);first|(clear H;refine zg rfl (ye (ty:=134) rfl rfl RS.o uU rU (by rw[ab.o];exact Jc)) ?_)|(clear K1;refine zg rfl (ye (ty:=136) rfl rfl RB.o uB rB (by rw[a6.o];exact zgA)) ?_))|(clear K2;go_at_call 65;refine(zco wc bn.o BL.o).mono ?_;rintro e w9 ⟨rfl,f9⟩;rw[←NX.o];have aD:=J (f9.obj aF.o _root_.id);have bg:=J (bj.o.trans0 f9);clear f9)|((with_reducible refine zr ?_);clear K3;refine ze rfl (zy (ty:=134) (b:=W) (off:=0) (cs:=(Zj C (R+1)).map yJ) rfl rfl rfl (by rw[NX.o,ay.o];exact zM aD.o (by have:=ab.o;rw[←size_toArray] at this;exact Nat.le_of_eq this.symm)) (by rw[NX.o,ay.o];exact Jc) Ja) ?_));go_frame)
       have FU:=zv W ((Zj C (R+1)).map yJ) 0 w9
       have BU:=J (zev (z:=(Zj C R).map yJ) (cs:=(Zj C (R+1)).map yJ) aD.o (by rw[ab.o,length_map,Xm]))
       have bh:=@J (Fr (λj=>j=W) w6 (w9.setCells W 0 ((Zj C (R+1)).map yJ))) (bg.o.trans FU (λ_ _ h=>h))
       generalize w9.setCells W 0 ((Zj C (R+1)).map yJ)=wu at*
       go_roundw
       case rel=>exact⟨R+1,jj,by first|rfl|(congr 1;have:=ai.o;omega),by have:=ai.o;have:=IK.o;omega,by have:=aa.o;omega,BU.o,bh.o⟩
       case measure=>simp[intOf];have:=X.o;have:=IK.o;have:=aa.o;have:=ai.o;omega
      ·have aS:R=NN:=by omega
       have i3:¬(i:Int)<(f:Int):=by have:=X.o;omega
       obtain⟨S,hS⟩:∃S,S=Zj C R:=⟨_,rfl⟩
       have aG:=@J (y9 m=S.flatMap JC) (by
        rw[zc6,←bk.o,hS,aS]
        congr 2
        have:=X.o
        have:=LD.o
        omega)
       have S8:=@J (S.length=8) (by rw[hS];exact Xm C R)
       have aE:=@J (wr.heap[W]? =some (.cells (S.map yJ).toArray 134 (0,0))) (by rw[hS];exact ST.o)
       have RS:=J (xy aE.o)
       have ab:=@J ((S.map yJ).length=8) (by rw[length_map];exact S8.o)
       have BL:=@J ((S.flatMap JC).length=32) (by rw[Y5,S8.o])
       have FG:=J (flat_get S)
       have ah:=@J (Fr No G wr) (bf.o.trans FS.o (λx hx e=>by have:=bl.o;omega))
       clear aS hS ag aR hlt ST
       go_upto_region 17 with fail
       have B9:=J (zS wr (.cells yO 40))
       have F9:=J ((frN wr).alloc (.cells yO 40))
       have aB:=J (zb RS.o F9.o _root_.id)
       generalize aV:wr.heap.size=q9 at B9⊢
       have Q9:=J aV
       clear aV
       generalize wr.alloc (.cells yO 40)=w7 at*
       have H:=tru
       go_wp2_with ((with_reducible refine zt ?_);clear H;refine zg rfl (ye (ty:=134) rfl rfl aB.o uU rU (by rw[ab.o];exact Jc)) ?_;go_frame)
       have O9:=@J (w7.heap[q9]? =some (.cells ((j9 (S.flatMap JC) (4*0)).map zu).toArray 40 (0,0))) (B9.o)
       have ax:=J (ah.o.trans0 F9.o)
       have aA:=@J (G.heap.size≤q9) (by have:=ah.o.size;have:=Q9.o;omega)
       clear RS aB aE B9 F9 i3 ah
       generalize bG:S.flatMap JC=FB at*
       go_loopw [59] (λiv wi=>∃i:Nat,iv=.int .i64 i∧i≤8∧wi.heap[q9]? =some (.cells ((j9 FB (4*i)).map zu).toArray 40 (0,0))∧Fr (λj=>j=q9) w7 wi) (λiv _=>8-(intOf iv).toNat)
       case atStart=>exact⟨0,rfl,zero_le _,O9.o,Fr.refl _ _⟩
       case round=>
        obtain⟨Z,rfl,aO,aN,fo⟩:=hrel
        rename World=>wi
        have FO:=J fo
        have BO:=J aN
        clear fo aN
        by_cases h8:Z<8
        ·have hx:=zdt S8.o h8
         have i1:(Z:Int)<8:=by omega
         have WG:=J (λk hk=>FG.o Z k hk (by rw[S8.o];exact h8))
         generalize S.getD Z 0=x at*
         obtain⟨Y,h0⟩:∃j,j=4*Z:=⟨_,rfl⟩
         obtain⟨j1,h1⟩:∃j,j=4*Z+1:=⟨_,rfl⟩
         obtain⟨j2,h2⟩:∃j,j=4*Z+2:=⟨_,rfl⟩
         obtain⟨j3,h3⟩:∃j,j=4*Z+3:=⟨_,rfl⟩
         have J0:=J h0
         have J1:=J h1
         have J2:=J h2
         have J3:=J h3
         have a0:4*(Z:Int)=(Y:Int):=by omega
         have E:(Y:Int)+1=(j1:Int):=by omega
         have u:(Y:Int)+2=(j2:Int):=by omega
         have F:(Y:Int)+3=(j3:Int):=by omega
         have bq:(Y:Int)<32:=by omega
         have br:(j1:Int)<32:=by omega
         have bs:(j2:Int)<32:=by omega
         have ak:(j3:Int)<32:=by omega
         have bt:(0:Int)≤(Y:Int):=by omega
         have bu:(0:Int)≤(j1:Int):=by omega
         have bw:(0:Int)≤(j2:Int):=by omega
         have bx:(0:Int)≤(j3:Int):=by omega
         have bB:(Y:Int).toNat=Y:=by omega
         have bC:(j1:Int).toNat=j1:=by omega
         have bD:(j2:Int).toNat=j2:=by omega
         have bE:(j3:Int).toNat=j3:=by omega
         have bJ:¬j1=Y:=by omega
         have bK:¬j2=Y:=by omega
         have bM:¬j2=j1:=by omega
         have bL:¬j3=Y:=by omega
         have bN:¬j3=j1:=by omega
         have bO:¬j3=j2:=by omega
         have CC:=@J (∀j,j<32→∃y,wi.cell? ⟨q9,j,none⟩=some y) (λj hj=>by
          have h:=zM BO.o (k:=32) (by rw[size_toArray,length_map,Vj BL.o (by omega)];exact le_refl _) j hj
          exact Option.isSome_iff_exists.1 (by simpa using h.1))
         obtain⟨y0,k0⟩:=CC.o Y (by omega)
         obtain⟨y1,k1⟩:=CC.o j1 (by omega)
         obtain⟨y2,k2⟩:=CC.o j2 (by omega)
         obtain⟨y3,bI⟩:=CC.o j3 (by omega)
         have z0:=zW (i:=Y) BO.o
         have z1:=zW (i:=j1) BO.o
         have z2:=zW (i:=j2) BO.o
         have z3:=zW (i:=j3) BO.o
         have H8:=J h8
         clear h0 h1 h2 h3 CC h8 aO
         go_wp2_with fail
         go_roundw
         case rel=>exact⟨Z+1,by go_num,by have:=H8.o;omega,ziO BL.o BO.o H8.o J0.o J1.o J2.o J3.o (WG.o 0 (by decide)).symm (WG.o 1 (by decide)).symm (WG.o 2 (by decide)).symm (WG.o 3 (by decide)).symm,fr4 FO.o⟩
         case measure=>simp[intOf];have:=H8.o;omega
        ·have aP:Z=8:=by omega
         have i1:¬(Z:Int)<8:=by omega
         have HE:=@J (wi.heap[q9]? =some (.cells (zl FB).toArray 40 (0,0))) (by
          have h:=BO.o
          rw[aP,zbM BL.o] at h
          exact h)
         have HL:=@J ((zl FB).length=32) (by unfold zl;rw[length_map];exact BL.o)
         have RE:=J (xy HE.o)
         have au:=J (FO.o.obj (ax.o.obj B1.o _root_.id) (λe=>by have:=aA.o;have:=yu B1.o;omega))
         have bd:=@J (Fr No G wi) (ax.o.trans FO.o (λx hx e=>by have:=aA.o;omega))
         clear aP h8 aO
         have⟨H,K1⟩:=tZ2
         go_wp2_with ((first|((with_reducible refine zt ?_);clear H;refine ziT rfl rfl rfl RE.o HL.o ?_)|((with_reducible refine zr ?_);clear K1;refine ze rfl (zy (ty:=40) (b:=q2) (off:=0) (cs:=zl FB) rfl rfl rfl (by rw[HL.o];exact zM au.o (le_refl 32)) (by rw[HL.o];exact yG) zX) ?_));go_frame)
         have BE:=zev (z:=yO.toList) (cs:=zl FB) au.o (by rw[HL.o];rfl)
         have fE:=zv q2 (zl FB) 0 wi
         exact bodyPost_ret (v:=.agg (zl FB).toArray) (results_cell_row (P:=prog) (fn:=Tryz.f47) rfl _ _ q2 40 (zl FB).toArray (0,0) _ rfl BE Tryz.underlying40 rfl (by rw[size_toArray,HL.o];exact yG)) rfl ⟨by rw[aG.o],(F1.o.trans0 bd.o).trans fE (λx hx e=>by omega)⟩
def TwF (m:List Int) (w:World) (e:Ending) (w':World):Prop:=e=.returned (.agg (zl (xL m)).toArray)∧Fr No w w'
theorem VD (w:World) {m:List Int} (o:xG w v m.length (m.map zu)) (B:m.length≤900000):Calls prog 31 #[v] w (TwF m w):=by
 have zH:=qt
 obtain⟨T,U,rfl⟩:=o.form
 have s:=J ((frN w).alloc (.cells (zl z7).toArray 40))
 have C:=J (zS w (.cells (zl z7).toArray 40))
 obtain⟨a,c⟩:∃H,H=y9 m:=⟨_,rfl⟩
 obtain⟨f,d⟩:∃H,H=y9 a:=⟨_,rfl⟩
 have O:=@J (Calls prog 47 #[.slice T m.length U] (w.alloc (.cells (zl z7).toArray 40)) λe w'=>e=.returned (.agg (zl a).toArray)∧Fr No (w.alloc (.cells (zl z7).toArray 40)) w') (by rw[c];exact Vz _ (o.keep s.o) B)
 have g:=@J (xU a) (by rw[c];exact vp m)
 have N:=J (yr g.o)
 have l:=@J (∀w v,xG w v a.length (a.map zu)→Calls prog 47 #[v] w λe w'=>e=.returned (.agg (zl f).toArray)∧Fr No w w') (λw v h=>by rw[d];exact Vz w h (by rw[g.o.1];decide))
 have Q:=@J (xL m=f) (by rw[d,c];rfl)
 have j:=@J ((zl f).length=32) (by rw[d];exact yr (vp a))
 clear c d
 clear o B
 go_enter Tryz.func31,Tryz.ntmps31
 go_upto_region 1 with fail
 generalize S:w.heap.size=p at*
 generalize w.alloc (.cells (zl z7).toArray 40)=Z at*
 have⟨I,K,L,M⟩:=tZ4
 go_wp2_with ((first|(clear I;go_at_call 47;refine O.o.mono ?_;rintro e i ⟨rfl,A⟩;have E:=J A;clear A)|(clear L;go_at_call 47;refine k.o.mono ?_;rintro e W ⟨rfl,n⟩;have F:=J (t.o.trans0 n);have r:=J ((t.o.trans0 n).obj C.o _root_.id);clear n)|((with_reducible refine zr ?_);first|(clear K;refine zi3 (w:=i) (cs:=zl a) rfl rfl rfl rfl N.o zX ?_;have y:=J (zK i (zl a) 40);have G:=J ((frN i).alloc (.cells (zl a).toArray 40));have u:=J (yu (zS i (.cells (zl a).toArray 40)));generalize i.heap.size=q at y u⊢;generalize i.alloc (.cells (zl a).toArray 40)=V at*;have Y:∀(w:World),(Instr.sliceAt 40 (.pointer (some ⟨q,0,none⟩)) none none none).run prog w=.ok (.slice (some ⟨q,0,none⟩) 32 32) w:=(λw=>by kernel_rfl);have t:=J (E.o.trans0 G.o);have k:=J (l.o V (.slice (some ⟨q,0,none⟩) 32 32) (Jf y.o g.o.1 u.o)))|(clear M;refine ze rfl (zy (ty:=40) (b:=p) (off:=0) (cs:=zl f) rfl rfl rfl (by rw[j.o];exact zM r.o (le_refl 32)) (by rw[j.o];exact yG) zX) ?_)));go_frame)
 have D:=zev (z:=zl z7) (cs:=zl f) r.o (by rw[j.o];rfl)
 have R:=zv p (zl f) 0 W
 exact bodyPost_ret (v:=.agg (zl f).toArray) (results_cell_row (P:=prog) (fn:=Tryz.f31) rfl _ _ p 40 (zl f).toArray (0,0) _ rfl D Tryz.underlying40 rfl (by rw[size_toArray,j.o];exact yG)) rfl ⟨by rw[Q.o],(s.o.trans0 F.o).trans R (λx X e=>by omega)⟩
theorem zgE {f:Option Addr} {g:Nat} (h:xG w (.slice f l.length g) l.length (l.map jK)) {n:Nat} {x:Int} (d:l[n]? =some x):
  ∃b off c,Value.slice f l.length g=.slice (some ⟨b,off,none⟩) l.length c∧w.cell? ⟨b,off+n,none⟩=some (.int .u64 x):=by
 have j:=(List.getElem?_eq_some_iff.1 d).1
 rcases h with(⟨e,h,-⟩|⟨b,off,c,e,k,m,i,o⟩)|⟨a,c,e,h,-⟩
 ·omega
 ·exact⟨b,off,c,e,i n _ (by rw[List.getElem?_map,d];rfl)⟩
 ·omega
theorem zaV:∀ {l:List Int},(∀x∈l,0≤x)→0≤l.sum
 |[],_=>by simp
 |a::l,h=>by
  have:=zaV (l:=l) (λx b=>h x (.tail _ b))
  have:=h a (.head _)
  rw[List.sum_cons];omega
theorem zfX (h:∀x∈l,0≤x) (n:Nat):(l.take n).sum≤l.sum:=by
 have e:l.sum=(l.take n).sum+(l.drop n).sum:=by rw[←List.sum_append,List.take_append_drop]
 have:=zaV (l:=l.drop n) (λx a=>h x (List.mem_of_mem_drop a))
 omega
theorem zfW {n:Nat} {x:Int} (h:l[n]? =some x):(l.take (n+1)).sum=(l.take n).sum+x:=by
 rw[List.take_add_one,h];simp
theorem zbl (w:World) (k:xG w v l.length (l.map jK)) (ok:∀x∈l,0≤x∧x≤18446744073709551615) (G:l.length≤100000):
  Calls prog 89 #[v] w λe w'=>e=.returned (.tuple #[.int .u64 (Zm l),.int .i64 (Zl l)])∧Fr No w w':=by
 have t:=J k
 have i:=J ok
 obtain⟨K,L,rfl⟩:=k.form
 clear k ok
 go_enter Tryz.func89,Tryz.ntmps89
 go_wp2
 go_loopw [4,9] (λD p wr=>∃n:Nat,p=.int .i64 n∧n≤l.length∧D=.int .u64 (l.take n).sum∧(l.take n).sum<18446744073709551616∧Fr No w wr) (λ_ p _=>l.length-(intOf p).toNat)
 case atStart=>exact⟨0,rfl,zero_le _,by simp,by simp,Fr.refl _ _⟩
 case round=>
  obtain⟨n,rfl,I,rfl,a,fr⟩:=hrel
  have g:=J fr
  have h:=J a
  have E:=zaV (l:=l.take n) (λx c=>(i.o x (mem_of_mem_take c)).1)
  clear fr
  by_cases m:n<l.length
  ·have B:(n:Int)<(l.length:Int):=by omega
   obtain⟨x,c⟩:∃x,l[n]? =some x:=⟨_,getElem?_eq_getElem m⟩
   have u:=i.o x (mem_of_getElem? c)
   have j:=zfW c
   have q:=zfX (λx c=>(i.o x c).1) (n+1)
   obtain⟨b,off,y,A,H⟩:=zgE (t.o.keep g.o) c
   cases A
   clear c
   generalize (l.take n).sum=T at*
   by_cases hg:18446744073709551615-T<x
   ·have f:=@J (Zl l=3∧Zm l=0) (by
     have r:¬l.sum<18446744073709551616:=by omega
     unfold Zl Zm;rw[if_neg r,if_neg r];exact⟨rfl,rfl⟩)
    have z:(18446744073709551615-T) % 18446744073709551616=18446744073709551615-T:=by omega
    have C:decide (18446744073709551615-T<x)=true:=by simpa using hg
    clear j q
    go_wp2
    go_ret2
    exact⟨by rw[f.o.1,f.o.2];rfl,g.o⟩
   ·have z:(18446744073709551615-T) % 18446744073709551616=18446744073709551615-T:=by omega
    have F:(T+x) % 18446744073709551616=T+x:=by omega
    have C:decide (18446744073709551615-T<x)=false:=by simpa using hg
    have d:=@J ((l.take (n+1)).sum=T+x∧T+x<18446744073709551616) (⟨j,by omega⟩)
    clear j q hg
    go_wp2
    go_roundw
    case rel=>exact⟨n+1,by go_num,by omega,by rw[d.o.1],by rw[d.o.1];exact d.o.2,g.o⟩
    case measure=>simp[intOf];omega
  ·have o:n=l.length:=by omega
   have B:¬(n:Int)<(l.length:Int):=by omega
   have s:l.take n=l:=by rw[o,take_length]
   rw[s] at h⊢
   have f:=@J (Zl l=0∧Zm l=l.sum) (by unfold Zl Zm;rw[if_pos h.o,if_pos h.o];exact⟨rfl,rfl⟩)
   generalize l.sum=S at*
   clear s a
   go_wp2
   go_ret2
   exact⟨by rw[f.o.1,f.o.2];rfl,g.o⟩
theorem zcT {b o:Nat} {x:yk} (h:w.rangeAt b o (zx x)):w.rangeAt b (o+1) (zl x.lock):=λj v a=>by
 have:=h (j+1) v (by simpa[zx,zl] using a)
 rwa [show o+1+j=o+(j+1) by omega]
theorem zfv {t:TxD} {cs:List Value} (ht:TxQ w t cs) {prev:List yk} (hp:xA w v prev) (hN:prev.length≤1000):
  Calls prog 72 #[.agg cs.toArray,v] w (Qu w t prev):=by
 have HT:=J ht
 have HP:=J hp
 obtain⟨ia,ic,oa,oc,rfl,hv,hi,d⟩:=ht
 obtain⟨va,vc,rfl⟩:=hp.2.form
 obtain⟨dH,uH,rH⟩:=JW
 have zO:=yA
 have zI:=vX
 have F1:=J ((frN w).alloc (.cells #[.int .u32 t.ver,.slice ia t.ins.length ic,.slice oa t.outs.length oc] 62))
 obtain⟨-,c1,c2,r0⟩:=qF w t.ver (.slice ia t.ins.length ic) (.slice oa t.outs.length oc)
 have C1:=J c1
 have C2:=J c2
 have R0:=J r0
 have X:=J (QC (w.alloc (.cells #[.int .u32 t.ver,.slice ia t.ins.length ic,.slice oa t.outs.length oc] 62)) (HT.o.keep F1.o))
 have HI:=J (hi.keep0 F1.o)
 have Y:=J (d.keep F1.o)
 clear hi d hv c1 c2 r0 hp
 show Calls prog 72 #[.agg #[.int .u32 t.ver,.slice ia t.ins.length ic,.slice oa t.outs.length oc],.slice va prev.length vc] w _
 by_cases hck:yM t=0
 rotate_left
 ·have c:=J (jW (t:=t) (prev:=prev) (w:=w) (E:=yM t) (by unfold jo;rw[if_neg hck]) hck)
  have jz:(yM t==0)=false:=by rw[beq_eq_false_iff_ne];exact hck
  clear hck
  go_enter Tryz.func72,Tryz.ntmps72
  have⟨g,j⟩:=tZ2
  go_wp2_with ((first|((with_reducible refine zt ?_);clear g;refine ziU rfl rfl rfl R0.o rfl ?_;generalize w.alloc (.cells #[.int .u32 t.ver,.slice ia t.ins.length ic,.slice oa t.outs.length oc] 62)=w1 at*)|(clear j;go_at_call 70;refine X.o.mono ?_;rintro e w2 ⟨rfl,O⟩;have a:=J O;clear O));go_frame)
  go_ret2
  exact c.o _ (F1.o.trans0 a.o)
 obtain⟨aa,-,-,-,-,aq⟩:=Qz hck
 obtain⟨hk,aF,aG⟩:=qi.1 aa
 have HK:=J hk
 by_cases hlen:prev.length=t.ins.length
 rotate_left
 ·have c:=J (jW (t:=t) (prev:=prev) (w:=w) (E:=2) (by unfold jo;rw[if_pos hck,if_neg hlen]) (by decide))
  have jl:¬(prev.length:Int)=(t.ins.length:Int):=by omega
  have ab:((prev.length:Int)==(t.ins.length:Int))=false:=by rw[beq_eq_false_iff_ne];exact jl
  unfold xO at X
  rw[hck] at X
  clear hck hlen aa hk
  go_enter Tryz.func72,Tryz.ntmps72
  have⟨g,j⟩:=tZ2
  go_wp2_with ((first|((with_reducible refine zt ?_);clear g;refine ziU rfl rfl rfl R0.o rfl ?_;generalize w.alloc (.cells #[.int .u32 t.ver,.slice ia t.ins.length ic,.slice oa t.outs.length oc] 62)=w1 at*)|(clear j;go_at_call 70;refine X.o.mono ?_;rintro e w2 ⟨rfl,O⟩;have a:=J O;clear O;have d1:=a.o.cell C1.o id));go_frame)
  go_ret2
  exact c.o _ (F1.o.trans0 a.o)
 have ab:((prev.length:Int)==(t.ins.length:Int))=true:=by rw[beq_iff_eq];omega
 have aI:((prev.length:Int) !=(t.ins.length:Int))=false:=by rw[bne,ab];rfl
 have L:=@J (jo t prev=if opens t.ins prev=true then(if(yR prev).sum<18446744073709551616 then(if xW t.outs≤(yR prev).sum then 0 else 11) else 11) else 13) (by unfold jo;rw[if_pos hck,if_pos hlen])
 have af:=J hlen
 have ak:=J aq
 have L8:=J (And.intro aF aG)
 unfold xO at X
 rw[hck] at X
 clear hck hlen aa hk aq
 go_enter Tryz.func72,Tryz.ntmps72
 have⟨g,j⟩:=tZ2
 go_wp2_with ((first|((with_reducible refine zt ?_);clear g;refine ziU rfl rfl rfl R0.o rfl ?_;generalize w.alloc (.cells #[.int .u32 t.ver,.slice ia t.ins.length ic,.slice oa t.outs.length oc] 62)=w1 at*)|(clear j;go_at_call 70;refine X.o.mono ?_;rintro e w2 ⟨rfl,O⟩;have a:=J O;clear O;have d1:=a.o.cell C1.o id));go_frame)
 have F2:=J (F1.o.trans0 a.o)
 have ay:=J (HI.o.keep0 a.o)
 clear d1 ab aI
 go_loopw [33] (λiv wr=>∃n:Nat,iv=.int .i64 n∧n≤t.ins.length∧(∀i,i<n→∀x o,t.ins[i]? =some x→prev[i]? =some o→y9 x.key=o.lock)∧Fr No w2 wr) (λiv _=>t.ins.length-(intOf iv).toNat)
 case atStart=>exact⟨0,rfl,zero_le _,(λi hi=>by omega),Fr.refl _ _⟩
 case round=>
  obtain⟨n,rfl,hn,an,fr⟩:=hrel
  have FR:=J fr
  have OP:=J an
  have FW:=J (F2.o.trans0 fr)
  clear fr an
  by_cases k:n<t.ins.length
  ·have i1:(n:Int)<(t.ins.length:Int):=by omega
   have i2:(n:Int)<(prev.length:Int):=by have:=af.o;omega
   obtain⟨o,m⟩:∃x,prev[n]? =some x:=⟨_,getElem?_eq_getElem (by omega)⟩
   obtain⟨x,F⟩:∃x,t.ins[n]? =some x:=⟨_,getElem?_eq_getElem k⟩
   obtain⟨bb,off,al,hv,S,-⟩:=(HP.o.keep FW.o).at_ m
   cases hv
   have b:=HP.o.1 o (mem_of_getElem? m)
   obtain⟨b3,aK,aJ,aL,aH,ao,T,U,rfl,ad,R⟩:=(ay.o.keep0 FR.o).at_ F
   cases aH
   have R1:=J ao
   have N:=J (vl ad (.slice T x.key.length U))
   have I:=J b.2
   have LK:=J (zcT S)
   have fA:=((frN wr).alloc (.cells (inC x.from_ (.slice T x.key.length U)).toArray 106)).drew
   have B:=J fA
   have N2:=J (jO wr (kv:=.slice T x.key.length U) ad).2
   have ai:=J (Vz (wr.alloc (.cells (inC x.from_ (.slice T x.key.length U)).toArray 106)).drew ((R.keep fA).2) (by have:=HK.o x (mem_of_getElem? F);omega))
   have aj:=J (vp x.key)
   have KS:=@J (∀w',Fr No (wr.alloc (.cells (inC x.from_ (.slice T x.key.length U)).toArray 106)).drew w'→w'.cell? ⟨wr.heap.size,33,none⟩=some (.slice T x.key.length U)∧w'.rangeAt bb (off+n*33+1) (zl o.lock)) (λw' f=>⟨f.cell ((frN _).drew.cell N2.o id) id,zb (zb LK.o B.o id) f id⟩)
   have aC:=@J (y9 x.key≠o.lock→opens t.ins prev=false) (λq=>by
    cases d:opens t.ins prev with
    |false=>rfl
    |true=>exact absurd (Yb.1 d n x o F m) q)
   have aD:=@J (y9 x.key=o.lock→∀i,i<n+1→∀x' o',t.ins[i]? =some x'→prev[i]? =some o'→y9 x'.key=o'.lock) (λhe i hi x' o' z h2=>by
    by_cases hin:i<n
    ·exact OP.o i hin x' o' z h2
    ·obtain rfl:i=n:=by omega
     rw[F] at z;rw[m] at h2
     cases z;cases h2
     exact he)
   clear S ao R ad fA m F b
   have⟨g,j⟩:=tZ2
   go_wp2_with ((first|((with_reducible refine zt ?_);clear g;refine ziV rfl rfl rfl R1.o N.o ?_)|((with_reducible refine zr ?_);clear j;refine zi4 (w:=wr) (cs:=inC x.from_ (.slice T x.key.length U)) rfl rfl rfl rfl N.o qD ?_));go_frame)
   refine wrLx [ff,ff,tt,ff,ff,ff,ff,ff,ff] (λw'=>w'.cell? ⟨wr.heap.size,33,none⟩=some (.slice T x.key.length U)∧w'.rangeAt bb (off+n*33+1) (zl o.lock)) ?_ (λK hK=>?_)
   ·exact KS.o _ (Fr.refl _ _)
   repeat((first|(refine zn rfl ?_;constructor;constructor;(focus(first|(rintro w' ⟨s1,s2⟩;exact goS))))|(refine zq rfl ?_));try simp only[Act.put,pA,pB,pC])
   (refine zN rfl (λK' hK'=>?_))
   go_simp
   refine ai.o.mono ?_
   rintro e wz ⟨rfl,fz⟩
   have FZ:=J fz
   have av:=J ((FR.o.trans0 B.o).trans0 fz)
   have aw:=J ((FW.o.trans0 B.o).trans0 fz)
   clear fz
   refine nXt hK' ?_ λhS=>?_
   ·exact KS.o _ FZ.o
   try simp only[Act.put,pA,pB,pC]
   by_cases heq:y9 x.key=o.lock
   ·repeat((first|(refine zn rfl ?_;constructor;constructor;(focus(first|exact yY (ty:=40) rfl (λw h=>h.2) uH rH (by rw[yr I.o];exact yG)|exact λw' _=>jN.exec_neq rfl (u:=(zl (y9 x.key)).toArray) (v:=(zl o.lock).toArray) rfl rfl (xn aj.o) (xn I.o) true (by rw[heq];simp) w'|(rintro w' ⟨s1,s2⟩;exact goS))))|(refine zq rfl ?_));try simp only[Act.put,pA,pB,pC])
    refine zZ (hK.out _ _ ?_)
    have aE:=J (aD.o heq)
    clear heq
    go_wp2_with fail
    go_roundw
    case rel=>exact⟨n+1,by go_num,by omega,aE.o,av.o⟩
    case measure=>simp[intOf];omega
   ·repeat((first|(refine zn rfl ?_;constructor;constructor;(focus(first|exact yY (ty:=40) rfl (λw h=>h.2) uH rH (by rw[yr I.o];exact yG)|exact λw' _=>jN.exec_neq rfl (u:=(zl (y9 x.key)).toArray) (v:=(zl o.lock).toArray) rfl rfl (xn aj.o) (xn I.o) false (by simp only[Bool.false_eq_true,false_iff];intro h;exact heq (Yr (by simpa using congrArg Array.toList h))) w'|(rintro w' ⟨s1,s2⟩;exact goS))))|(refine zq rfl ?_));try simp only[Act.put,pA,pB,pC])
    refine zZ (hK.out _ _ ?_)
    have c:=J (jW (t:=t) (prev:=prev) (w:=w) (E:=13) (by rw[L.o,aC.o heq];rfl) (by decide))
    clear heq
    go_wp2_with fail
    go_ret2
    exact c.o _ aw.o
  ·have q:n=t.ins.length:=by omega
   have i1:¬(n:Int)<(t.ins.length:Int):=by omega
   have D:opens t.ins prev=true:=Yb.2 (λi x o z h2=>OP.o i (by have:=(List.getElem?_eq_some_iff.1 z).1;omega) x o z h2)
   rw[D,if_pos rfl] at L
   have ag:=J (HP.o.keep FW.o)
   have az:=J (Y.o.keep (a.o.trans0 FR.o))
   have au:=J ((a.o.trans0 FR.o).cell C2.o id)
   have SP:=J (zaV (l:=yR prev) (λy F=>by
    obtain⟨o,d,rfl⟩:=mem_map.1 F
    exact(HP.o.1 o d).1.1))
   have Z:=@J (0≤xW t.outs∧Zl (yR t.outs)=0∧Zm (yR t.outs)=xW t.outs) (by
    have z:(yR t.outs).sum=xW t.outs:=rfl
    have h2:=ak.o
    refine⟨Yy (λx m=>(Y.o.1 x m).1.1),?_,?_⟩
    ·unfold Zl;rw[if_pos (by rw[z];omega)]
    ·unfold Zm;rw[if_pos (by rw[z];omega),z])
   clear D k hn q
   go_wp2_with fail
   go_loopw [9,50] (λrv jv w3=>∃n:Nat,jv=.int .i64 n∧n≤prev.length∧w3.ownsRow wr.heap.size 33 1 rv n (((yR prev).take n).map jK)∧Fr No wr w3) (λ_ jv _=>prev.length-(intOf jv).toNat)
   case atStart=>exact⟨0,rfl,zero_le _,World.ownsRow_nil _ _ _ _,Fr.refl _ _⟩
   case round=>
    obtain⟨n,rfl,hn,d,fr⟩:=hrel
    have G:=J fr
    have H:=J d
    obtain⟨la,lc,rfl⟩:=d.slice.arg.form
    clear fr d
    by_cases k:n<prev.length
    ·have i1:(n:Int)<(prev.length:Int):=by omega
     obtain⟨x,m⟩:∃x,prev[n]? =some x:=⟨_,getElem?_eq_getElem k⟩
     obtain⟨bb,off,al,hv,S,-⟩:=(ag.o.keep G.o).at_ m
     cases hv
     have b:=ag.o.1 x (mem_of_getElem? m)
     have R1:=J S
     have N:=J (z6 b)
     have n1:=(vt wr b).1
     have B:=G.o.alloc (.cells (zx x).toArray 68)
     have TF:=@J (((yR prev).take (n+1)).map jK=((yR prev).take n).map jK++[jK x.value]) (by
      have e3:(yR prev)[n]? =some x.value:=by simp[yR,m]
      rw[List.take_add_one,e3]
      simp)
     obtain⟨v5,w5,p,r,s,-,-⟩:=yw (P:=prog) _ _ 162 162 33 1 8 _ zaX Vc rfl (by decide) (H.o.alloc (.cells (zx x).toArray 68)) [jK x.value] rfl (by simp[jK,Value.oneCell']) (by omega) (by unfold maxLen;omega) B.size
     have A:=J (B.trans s (λi hi e=>by have:=(H.o.lt i e).1;omega))
     have C:=J r
     rw[←TF.o] at C
     obtain⟨a5,c5,rfl⟩:=r.slice.arg.form
     rw[show(wr.alloc (.cells (zx x).toArray 68)).heap.size=wr.heap.size+1 by simp] at p
     have W:=J p
     clear p r s S m B b
     have⟨g,j,K2⟩:=tZ3
     go_wp2_with ((first|((with_reducible refine zt ?_);first|(clear g;refine ziW rfl rfl rfl R1.o N.o ?_)|(clear K2;at_builtin;refine zk rfl rfl rfl rfl W.o ?_))|((with_reducible refine zr ?_);clear j;refine zi5 (w:=wr) (cs:=zx x) rfl rfl rfl rfl N.o zV ?_));go_frame)
     go_roundw
     case rel=>exact⟨n+1,by simp,by omega,C.o,A.o⟩
     case measure=>show prev.length-(n+1)<prev.length-n;omega
    ·have q:n=prev.length:=by omega
     have i1:¬(n:Int)<(prev.length:Int):=by omega
     have aA:=@J (xG wr (.slice la n lc) (yR prev).length ((yR prev).map jK)) (by
      have z:=H.o.slice.arg
      rw[List.take_of_length_le (by simp[yR];omega)] at z
      rwa [show(yR prev).length=n by simp[yR];omega])
     have M:=J (az.o.keep G.o)
     have ax:=J (FW.o.trans0 G.o)
     have ar:=G.o.cell au.o id
     clear k hn q H
     go_wp2_with fail
     clear ar
     go_loopw [10,63] (λrv jv w3=>∃n:Nat,jv=.int .i64 n∧n≤t.outs.length∧w3.ownsRow wr.heap.size 33 1 rv n (((yR t.outs).take n).map jK)∧Fr No wr w3) (λ_ jv _=>t.outs.length-(intOf jv).toNat)
     case atStart=>exact⟨0,rfl,zero_le _,World.ownsRow_nil _ _ _ _,Fr.refl _ _⟩
     case round=>
      obtain⟨n,rfl,hn,d,fr⟩:=hrel
      have G:=J fr
      have H:=J d
      obtain⟨la,lc,rfl⟩:=d.slice.arg.form
      clear fr d
      by_cases k:n<t.outs.length
      ·have i1:(n:Int)<(t.outs.length:Int):=by omega
       obtain⟨x,m⟩:∃x,t.outs[n]? =some x:=⟨_,getElem?_eq_getElem k⟩
       obtain⟨bb,off,al,hv,S,-⟩:=(M.o.keep G.o).at_ m
       cases hv
       have b:=M.o.1 x (mem_of_getElem? m)
       have R1:=J S
       have N:=J (z6 b)
       have n1:=(vt wr b).1
       have B:=G.o.alloc (.cells (zx x).toArray 68)
       have TF:=@J (((yR t.outs).take (n+1)).map jK=((yR t.outs).take n).map jK++[jK x.value]) (by
        have e3:(yR t.outs)[n]? =some x.value:=by simp[yR,m]
        rw[List.take_add_one,e3]
        simp)
       obtain⟨v5,w5,p,r,s,-,-⟩:=yw (P:=prog) _ _ 162 162 33 1 8 _ zaX Vc rfl (by decide) (H.o.alloc (.cells (zx x).toArray 68)) [jK x.value] rfl (by simp[jK,Value.oneCell']) (by omega) (by unfold maxLen;omega) B.size
       have A:=J (B.trans s (λi hi e=>by have:=(H.o.lt i e).1;omega))
       have C:=J r
       rw[←TF.o] at C
       obtain⟨a5,c5,rfl⟩:=r.slice.arg.form
       rw[show(wr.alloc (.cells (zx x).toArray 68)).heap.size=wr.heap.size+1 by simp] at p
       have W:=J p
       clear p r s S m B b
       have⟨g,j,K2⟩:=tZ3
       go_wp2_with ((first|((with_reducible refine zt ?_);first|(clear g;refine ziW rfl rfl rfl R1.o N.o ?_)|(clear K2;at_builtin;refine zk rfl rfl rfl rfl W.o ?_))|((with_reducible refine zr ?_);clear j;refine zi5 (w:=wr) (cs:=zx x) rfl rfl rfl rfl N.o zV ?_));go_frame)
       go_roundw
       case rel=>exact⟨n+1,by simp,by omega,C.o,A.o⟩
       case measure=>show t.outs.length-(n+1)<t.outs.length-n;omega
      ·have q:n=t.outs.length:=by omega
       have i1:¬(n:Int)<(t.outs.length:Int):=by omega
       have aB:=@J (xG wr (.slice la n lc) (yR t.outs).length ((yR t.outs).map jK)) (by
        have z:=H.o.slice.arg
        rw[List.take_of_length_le (by simp[yR];omega)] at z
        rwa [show(yR t.outs).length=n by simp[yR];omega])
       have ah:=J (aA.o.keep G.o)
       have V:=J (ax.o.trans0 G.o)
       have S1:=J (zbl wr ah.o (λy F=>by
        obtain⟨o,d,rfl⟩:=mem_map.1 F
        exact(HP.o.1 o d).1) (by simp[yR];omega))
       have S2:=J (λw' (f:Fr No wr w')=>zbl w' (aB.o.keep f) (λy F=>by
        obtain⟨o,d,rfl⟩:=mem_map.1 F
        exact(Y.o.1 o d).1) (by simp[yR];have:=L8.o;omega))
       rw[Z.o.2.1,Z.o.2.2] at S2
       have SN:=SP.o
       have ON:=Z.o.1
       have OM:=ak.o
       clear k hn q H
       by_cases hov:(yR prev).sum<18446744073709551616
       rotate_left
       ·have c:=J (jW (t:=t) (prev:=prev) (w:=w) (E:=11) (by rw[L.o,if_neg hov]) (by decide))
        rw[show Zm (yR prev)=0 by unfold Zm;rw[if_neg hov],show Zl (yR prev)=3 by unfold Zl;rw[if_neg hov]] at S1
        clear hov SN ON OM
        have⟨g,j⟩:=tZ2
        go_wp2_with ((first|(clear g;go_at_call 89;refine S1.o.mono ?_;rintro e w5 ⟨rfl,s⟩;have A:=J s;clear s)|(clear j;go_at_call 89;refine(S2.o w5 A.o).mono ?_;rintro e w6 ⟨rfl,Q⟩;have F6:=J Q;clear Q));go_frame)
        go_ret2
        exact c.o _ ((V.o.trans0 A.o).trans0 F6.o)
       rw[show Zm (yR prev)=(yR prev).sum by unfold Zm;rw[if_pos hov],show Zl (yR prev)=0 by unfold Zl;rw[if_pos hov]] at S1
       rw[if_pos hov] at L
       have HR:=@J (jo t prev=0→zcG t prev=(yR prev).sum-xW t.outs) (λh=>by unfold zcG;rw[if_pos h])
       generalize (yR prev).sum=S0 at*
       generalize xW t.outs=S9 at*
       by_cases hlx:S0<S9
       ·have c:=J (jW (t:=t) (prev:=prev) (w:=w) (E:=11) (by rw[L.o,if_neg (by omega)]) (by decide))
        have jx:decide (S0<S9)=true:=by simpa using hlx
        clear hov SN ON OM hlx
        have⟨g,j⟩:=tZ2
        go_wp2_with ((first|(clear g;go_at_call 89;refine S1.o.mono ?_;rintro e w5 ⟨rfl,s⟩;have A:=J s;clear s)|(clear j;go_at_call 89;refine(S2.o w5 A.o).mono ?_;rintro e w6 ⟨rfl,Q⟩;have F6:=J Q;clear Q));go_frame)
        go_ret2
        exact c.o _ ((V.o.trans0 A.o).trans0 F6.o)
       ·have jx:decide (S0<S9)=false:=by simpa using hlx
        have es:(S0-S9) % 18446744073709551616=S0-S9:=by omega
        rw[if_pos (by omega)] at L
        have ae:=@J (∀w',Fr No w w'→Qu w t prev (.returned (.tuple #[.int .u64 (S0-S9),.int .i64 0])) w') (λw' f=>⟨by rw[HR.o L.o,L.o],f⟩)
        clear hov SN ON OM hlx
        have⟨g,j⟩:=tZ2
        go_wp2_with ((first|(clear g;go_at_call 89;refine S1.o.mono ?_;rintro e w5 ⟨rfl,s⟩;have A:=J s;clear s)|(clear j;go_at_call 89;refine(S2.o w5 A.o).mono ?_;rintro e w6 ⟨rfl,Q⟩;have F6:=J Q;clear Q));go_frame)
        go_ret2
        exact ae.o _ ((V.o.trans0 A.o).trans0 F6.o)
theorem zfI (w:World) {t:TxD} {cs:List Value} (ht:TxQ w t cs):
  Calls prog 40 #[.agg cs.toArray] w (VU w t):=by
 have HT:=J ht
 obtain⟨s,u,y,z,rfl,T,hi,ho⟩:=ht
 have zI:=vX
 have zO:=yA
 have Q:=J ((frN w).alloc (.cells #[.int .u32 t.ver,.slice s t.ins.length u,.slice y t.outs.length z] 62))
 have p:=@J ((w.alloc (.cells #[.int .u32 t.ver,.slice s t.ins.length u,.slice y t.outs.length z] 62)).heap.size=w.heap.size+1) (by simp)
 obtain⟨c0,c1,c2,r0⟩:=qF w t.ver (.slice s t.ins.length u) (.slice y t.outs.length z)
 have C0:=J c0
 have C1:=J c1
 have C2:=J c2
 have R0:=J r0
 have HI:=J (hi.keep0 Q.o)
 have Y:=J (ho.keep Q.o)
 have HV:=J T
 have HF:=J (zad (w.alloc (.cells #[.int .u32 t.ver,.slice s t.ins.length u,.slice y t.outs.length z] 62)) (HT.o.keep Q.o))
 have aw:[Value.int .u32 t.ver,.slice s t.ins.length u,.slice y t.outs.length z].toArray= #[Value.int .u32 t.ver,.slice s t.ins.length u,.slice y t.outs.length z]:=rfl
 clear hi ho T
 show Calls prog 40 #[.agg #[.int .u32 t.ver,.slice s t.ins.length u,.slice y t.outs.length z]] w _
 by_cases hfm:yV t=true
 rotate_left
 ·have m:yV t=false:=by simpa using hfm
  rw[m] at HF
  have HP:=@J (∀w',Fr No w w'→VU w t (.returned (.tuple #[.slice none 0 0,.int .i64 5])) w') (λw' f=>⟨.slice none 0 0,by rw[m];rfl,f,by rw[m];rfl⟩)
  clear hfm m c0 c1 c2 r0
  go_enter Tryz.func40,Tryz.ntmps40
  go_wp2_with (first|(refine ziU rfl rfl rfl R0.o rfl ?_;generalize w.alloc (.cells #[.int .u32 t.ver,.slice s t.ins.length u,.slice y t.outs.length z] 62)=w1 at*)|(go_at_call 57;refine HF.o.mono ?_;rintro e w2 ⟨rfl,q⟩;have F2:=J q;clear q))
  go_ret2
  exact HP.o _ (Q.o.trans0 F2.o)
 ·obtain⟨hk,ax,ay⟩:=qi.1 hfm
  rw[hfm] at HF
  have HK:=J hk
  have HP:=@J (∀v w',Fr No w w'→yC w' (w.heap.size+1) v (txB t)→VU w t (.returned (.tuple #[v,.int .i64 0])) w') (λv w' f h=>⟨v,by rw[hfm];rfl,f,by rw[if_pos hfm];exact qs h (Nat.le_succ _)⟩)
  clear hk hfm c0 c1 c2 r0
  go_enter Tryz.func40,Tryz.ntmps40
  have v1:=HV.o.1
  have v2:=HV.o.2
  have e1:(t.ins.length:Int) % 18446744073709551616=(t.ins.length:Int):=by omega
  have e2:(t.outs.length:Int) % 18446744073709551616=(t.outs.length:Int):=by omega
  have⟨M0,M1,M2,M3,M4⟩:=tZ5
  go_wp2_with ((first|((with_reducible refine zt ?_);first|(clear M0;refine ziU rfl rfl rfl R0.o rfl ?_;generalize w.alloc (.cells #[.int .u32 t.ver,.slice s t.ins.length u,.slice y t.outs.length z] 62)=w1 at*)|(clear M4;at_builtin;refine zk rfl rfl rfl rfl W.o ?_;have cC:=F4.o.cell C1.o id))|(clear M1;go_at_call 57;refine HF.o.mono ?_;rintro e w2 ⟨rfl,q⟩;have F2:=J (Q.o.trans0 q);have E:=J q;clear q;have cA:=E.o.cell C0.o id)|(clear M2;go_at_call 58;refine(J9 w2 (x:=t.ver) (by omega) (zfT (by omega) (by omega))).mono ?_;rintro e U ⟨v3,rfl,b3,f3⟩;have A:=J (E.o.trans0 f3);have BL:=J (xh 4 t.ver);have D:=@J (yC U (w.heap.size+1) v3 (leB 4 t.ver)) (qs b3 (by have:=p.o;have:=E.o.size;omega));clear f3 b3;have cB:=A.o.cell C1.o id)|(clear M3;go_at_call 30;refine(Xp U (x:=t.ins.length) (by omega)).mono ?_;rintro e w4 ⟨v4,rfl,B,j⟩;obtain⟨v5,V,d,g,c,o⟩:=yq w4 (D.o.keep0 j) B.slice.arg (by rw[BL.o];simp only[length_singleton];decide) (by have:=p.o;have:=A.o.size;have:=j.size;omega) 84;have W:=J d;have B4:=J g;have F4:=J ((A.o.trans0 j).trans c (λi hi e=>(show False by have:=(D.o.lt i e).1;have:=p.o;omega)));clear d g c o B j));go_frame)
  have ag:=@J ((leB 4 t.ver++[(t.ins.length:Int)]).length=5) (by rw[length_append,xh];rfl)
  have LE:=@J (txB t=leB 4 t.ver++[(t.ins.length:Int)]++t.ins.flatMap inB++([(t.outs.length:Int)]++t.outs.flatMap vC)) (by simp[txB])
  have ah:=@J (∀x∈t.ins,x.from_.ok) (λx k=>by
   obtain⟨i,hi⟩:=List.mem_iff_getElem?.1 k
   obtain⟨_,_,_,_,_,_,_,_,_,h,_⟩:=HI.o.at_ hi
   exact h)
  generalize leB 4 t.ver++[(t.ins.length:Int)]=L0 at*
  go_loopw [4,26] (λbv L wr=>∃n:Nat,L=.int .i64 n∧n≤t.ins.length∧yC wr (w.heap.size+1) bv (L0++(t.ins.take n).flatMap inB)∧Fr No w1 wr) (λ_ L _=>t.ins.length-(intOf L).toNat)
  case atStart=>exact⟨0,rfl,zero_le _,by simpa using B4.o,F4.o⟩
  case round=>
   obtain⟨n,rfl,hn,H,fr⟩:=hrel
   have FR:=J fr
   have O:=J H
   have SZ:=@J (w.heap.size+1≤wr.heap.size) (by have:=fr.size;have:=p.o;omega)
   have S:=@J ((L0++(t.ins.take n).flatMap inB).length≤5+101*n) (by
    rw[length_append,ag.o]
    have:=Y7 (l:=t.ins.take n) (λx k=>ah.o x (mem_of_mem_take k)) (λx k=>HK.o x (mem_of_mem_take k))
    rw[length_take] at this
    omega)
   obtain⟨ba,bc,r⟩:=H.form
   clear fr H
   by_cases I:n<t.ins.length
   ·have i1:(n:Int)<(t.ins.length:Int):=by omega
    obtain⟨x,k⟩:∃x,t.ins[n]? =some x:=⟨_,getElem?_eq_getElem I⟩
    have TF:=J (vG inB k)
    have KL:=J (HK.o x (mem_of_getElem? k))
    obtain⟨b,off,ak,cs,T,hr,M,N,rfl,a,C⟩:=HI.o.at_ k
    cases T
    have R1:=J (zb hr FR.o id)
    have OK:=J a
    have ai:=J C
    have Z:=J (vl a (.slice M x.key.length N))
    have R:=J ((frN wr).alloc (.cells (inC x.from_ (.slice M x.key.length N)).toArray 106))
    have F:=@J ((wr.alloc (.cells (inC x.from_ (.slice M x.key.length N)).toArray 106)).heap.size=wr.heap.size+1) (by simp)
    obtain⟨n1,n2⟩:=jO wr (kv:=.slice M x.key.length N) a
    obtain⟨n3,n4⟩:=zhe n1 a
    have N2:=J n2
    have N4:=@J ((wr.alloc (.cells (inC x.from_ (.slice M x.key.length N)).toArray 106)).cell? ⟨wr.heap.size,32,none⟩=some (.int .u32 x.from_.n)) (by simpa using n4)
    obtain⟨v3,U,d,g,c,o⟩:=yq _ (O.o.keep0 R.o) (Jf n3 a.1.1 (by have:=F.o;omega)) (by have:=S.o;rw[a.1.1];omega) (by have:=SZ.o;have:=F.o;omega) 84
    have W:=J d
    have D:=J g
    have A:=J (yC.step (FR.o.trans0 R.o) (O.o.keep0 R.o) (by have:=p.o;omega) c)
    have P:=O.o.ne (le_refl _)
    have D3:=J (o.ne P (by have:=F.o;omega))
    have ar:=c.cell N4.o P
    have ae:=J (c.cell N2.o P)
    have QL:=@J (wr.heap.size<U.heap.size) (by have:=c.size;have:=F.o;omega)
    have an:=a.2.1
    have ao:=a.2.2
    have az:(x.key.length:Int) % 18446744073709551616=(x.key.length:Int):=by have:=KL.o;omega
    have LX:=@J (x.from_.tx.length=32) (a.1.1)
    clear n1 n2 n3 n4 d g c o hr C a k P
    subst r
    generalize ad:L0++(t.ins.take n).flatMap inB=Ln at*
    have⟨K0,K1,K2,K3,K4,K5,K6,K7⟩:=tZ8
    go_wp2_with ((first|((with_reducible refine zt ?_);first|(clear K0;refine ziV rfl rfl rfl R1.o Z.o ?_)|(clear K2;at_builtin;refine zk rfl rfl rfl rfl W.o ?_)|(clear K4;at_builtin;refine zk rfl rfl rfl rfl A5.o ?_)|(clear K6;at_builtin;refine zk rfl rfl rfl rfl A7.o ?_)|(clear K7;at_builtin;refine zk rfl rfl rfl rfl A8.o ?_))|((with_reducible refine zr ?_);clear K1;refine zi4 (w:=wr) (cs:=inC x.from_ (.slice M x.key.length N)) rfl rfl rfl rfl Z.o qD ?_;generalize wr.alloc (.cells (inC x.from_ (.slice M x.key.length N)).toArray 106)=wA at*)|(clear K3;go_at_call 58;refine(J9 U (x:=x.from_.n) (by omega) (zfT (by omega) (by omega))).mono ?_;rintro e w4 ⟨v4,rfl,B,j⟩;obtain⟨v5,V,d,g,c,o⟩:=yq w4 (D.o.keep0 j) B.slice.arg (by rw[length_append,LX.o,xh];have:=S.o;omega) (by have:=SZ.o;have:=QL.o;have:=j.size;omega) 84;have A5:=J d;have X:=J g;have F5:=J (yC.step (A.o.trans0 j) (D.o.keep0 j) (by have:=p.o;omega) c);have D5:=J (o.ne D3.o (by have:=QL.o;have:=j.size;omega));have C5:=J (c.cell (j.cell ae.o id) D3.o);have au:=C5.o;have Q5:=@J (wr.heap.size<V.heap.size) (by have:=c.size;have:=j.size;have:=QL.o;omega);have L5:=@J ((Ln++x.from_.tx++leB 4 x.from_.n).length≤41+101*n) (by simp only[length_append,LX.o,xh];have:=S.o;omega);clear d g c o B j)|(clear K5;go_at_call 30;refine(Xp V (x:=x.key.length) (by have:=KL.o;omega)).mono ?_;rintro e w6 ⟨v6,rfl,b6,G⟩;obtain⟨v7,w7,d,g,c,o⟩:=yq w6 (X.o.keep0 G) b6.slice.arg (by have:=L5.o;simp only[length_singleton];omega) (by have:=SZ.o;have:=Q5.o;have:=G.size;omega) 84;have A7:=J d;have B6:=J g;have F6:=J (yC.step (F5.o.trans0 G) (X.o.keep0 G) (by have:=p.o;omega) c);have c5:=c.cell (G.cell C5.o id) D5.o;have Q6:=@J (wr.heap.size<w7.heap.size) (by have:=c.size;have:=G.size;have:=Q5.o;omega);clear d g c o b6 G;obtain⟨v8,w8,d,g,c,-⟩:=yq w7 B6.o (ai.o.2.keep F6.o) (by have:=L5.o;have:=KL.o;rw[length_append];simp only[length_singleton];omega) (by have:=SZ.o;have:=Q6.o;omega) 84;have A8:=J d;have B7:=J g;have F7:=J (yC.step F6.o B6.o (by have:=p.o;omega) c);clear d g c));go_frame)
    go_roundw
    case rel=>exact⟨n+1,by go_num,by omega,by rw[TF.o,←append_assoc,ad];simpa[inB] using B7.o,F7.o⟩
    case measure=>simp[intOf];omega
   ·have K:n=t.ins.length:=by omega
    subst K
    have i1:¬(t.ins.length:Int)<(t.ins.length:Int):=by omega
    rw[take_length] at O S
    have c2:=FR.o.cell C2.o id
    rw[←append_assoc] at LE
    have aa:=J Y.o.1
    subst r
    generalize ad:L0++t.ins.flatMap inB=Ln at*
    have⟨M0,M1⟩:=tZ2
    go_wp2_with ((first|(clear M0;go_at_call 30;refine(Xp wr (x:=t.outs.length) (by omega)).mono ?_;rintro e aq ⟨v2,rfl,b2,q⟩;obtain⟨v3,U,d,g,c,o⟩:=yq aq (O.o.keep0 q) b2.slice.arg (by have:=S.o;simp only[length_singleton];omega) (by have:=SZ.o;have:=q.size;omega) 84;have W:=J d;have D:=J g;have A:=J (yC.step (FR.o.trans0 q) (O.o.keep0 q) (by have:=p.o;omega) c);have cD:=A.o.cell C2.o id;have aj:=@J ((Ln++[(t.outs.length:Int)]).length≤1000) (by rw[length_append];have:=S.o;simp only[length_singleton];omega);clear d g c o b2 q)|((with_reducible refine zt ?_);clear M1;at_builtin;refine zk rfl rfl rfl rfl W.o ?_));go_frame)
    generalize av:Ln++[(t.outs.length:Int)]=Lm at*
    go_loopw [4,64] (λbv L wr=>∃n:Nat,L=.int .i64 n∧n≤t.outs.length∧yC wr (w.heap.size+1) bv (Lm++(t.outs.take n).flatMap vC)∧Fr No w1 wr) (λ_ L _=>t.outs.length-(intOf L).toNat)
    case atStart=>exact⟨0,rfl,zero_le _,by simpa using D.o,A.o⟩
    case round=>
     obtain⟨n,rfl,hn,H,fr⟩:=hrel
     have FS:=J fr
     have BS:=J H
     have SY:=@J (w.heap.size+1≤wr.heap.size) (by have:=fr.size;have:=p.o;omega)
     have ab:=@J ((Lm++(t.outs.take n).flatMap vC).length≤1000+40*n) (by
      rw[length_append,Jl (λx k=>aa.o x (mem_of_mem_take k)),length_take]
      have:=aj.o
      omega)
     obtain⟨ba,bc,r⟩:=H.form
     clear fr H
     by_cases I:n<t.outs.length
     ·have i1:(n:Int)<(t.outs.length:Int):=by omega
      obtain⟨x,k⟩:∃x,t.outs[n]? =some x:=⟨_,getElem?_eq_getElem I⟩
      have TF:=J (vG vC k)
      obtain⟨b,off,ak,T,hr,-⟩:=Y.o.at_ k
      cases T
      have a:=aa.o x (mem_of_getElem? k)
      have R1:=J (zb hr FS.o id)
      have OK:=J a
      have Z:=J (z6 a)
      have R:=J ((frN wr).alloc (.cells (zx x).toArray 68))
      have F:=@J ((wr.alloc (.cells (zx x).toArray 68)).heap.size=wr.heap.size+1) (by simp)
      obtain⟨n1,n2⟩:=vt wr a
      have N2:=J n2
      have an:=a.1.1
      have ao:=a.1.2
      have LX:=J a.2.1
      have P:=J (BS.o.ne (le_refl _))
      have FW:=J (FS.o.trans0 R.o)
      have BW:=J (BS.o.keep0 R.o)
      clear n2 hr a k
      subst r
      generalize al:Lm++(t.outs.take n).flatMap vC=Lo at*
      have⟨K0,K1,K2,K3,K4⟩:=tZ5
      go_wp2_with ((first|((with_reducible refine zt ?_);first|(clear K0;refine ziW rfl rfl rfl R1.o Z.o ?_)|(clear K3;at_builtin;refine zk rfl rfl rfl rfl A5.o ?_)|(clear K4;at_builtin;refine zk rfl rfl rfl rfl A6.o ?_))|((with_reducible refine zr ?_);clear K1;refine zi5 (w:=wr) (cs:=zx x) rfl rfl rfl rfl Z.o zV ?_;generalize wr.alloc (.cells (zx x).toArray 68)=wA at*)|(clear K2;go_at_call 58;refine(XJ wA (x:=x.value) (by omega) (zc7 (by omega) (by omega))).mono ?_;rintro e w4 ⟨v4,rfl,B,j⟩;obtain⟨v5,V,d,g,c,o⟩:=yq w4 (BW.o.keep0 j) B.slice.arg (by rw[xh];have:=ab.o;omega) (by have:=SY.o;have:=F.o;have:=j.size;omega) 84;have A5:=J d;have X:=J g;have F5:=J (yC.step (FW.o.trans0 j) (BW.o.keep0 j) (by have:=p.o;omega) c);have N5:=J (zb (zb N2.o j id) c P.o);have Q5:=@J (wr.heap.size<V.heap.size) (by have:=c.size;have:=j.size;have:=F.o;omega);clear d g c o B j;obtain⟨v6,w6,d,g,c,-⟩:=yq V X.o (Jf N5.o LX.o Q5.o) (by simp only[length_append,LX.o,xh];have:=ab.o;omega) (by have:=SY.o;have:=Q5.o;omega) 84;have A6:=J d;have B7:=J g;have F7:=J (yC.step F5.o X.o (by have:=p.o;omega) c);clear d g c));go_frame)
      go_roundw
      case rel=>exact⟨n+1,by go_num,by omega,by rw[TF.o,←append_assoc,al];simpa[vC] using B7.o,F7.o⟩
      case measure=>simp[intOf];omega
     ·have K:n=t.outs.length:=by omega
      subst K
      have i1:¬(t.outs.length:Int)<(t.outs.length:Int):=by omega
      rw[take_length] at BS
      have af:=J (HP.o _ wr (Q.o.trans0 FS.o) (by rw[LE.o];exact BS.o))
      subst r
      generalize (Lm++(t.outs.take t.outs.length).flatMap vC).length=zz at*
      go_wp2
      go_ret2
      exact af.o
end Go.Proofs.YtmpamcnlineceaaGreatDoor
