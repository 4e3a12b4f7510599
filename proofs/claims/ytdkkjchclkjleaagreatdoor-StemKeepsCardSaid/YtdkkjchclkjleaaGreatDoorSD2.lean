/- sha: Hasher.Sum. -/
import Derived.Lib.Bytealg
import Derived.Test.YtdkkjchclkjleaaGreatDoorProg
import Derived.Lib.Hide
import Derived.Maps.RangeRun
import Derived.Outline
import Derived.Sort.Grow
import Derived.Laws.Externs
import Derived.Shelf.SlSortCmp.WholeK
import Derived.Shelf.SlSortCmp.NoneTotal
import Derived.Deep.LoopGhost
import Derived.Laws.OwnMore
import Derived.Test.YtdkkjchclkjleaaGreatDoorSD1
set_option linter.unusedVariables false
set_option linter.unusedSimpArgs false
set_option linter.unnecessarySimpa false
set_option linter.all false
set_option maxRecDepth 20000
set_option maxHeartbeats 16000000
namespace Go.Proofs.YtdkkjchclkjleaaGreatDoor
open Go Go.RowKit Go.Maps Go.MapKept
open Go.Proofs.Tryz(prog)
open List(mem_map getElem?_eq_getElem mem_append mem_of_getElem? mem_cons length_append length_map take_add_one mem_singleton take_length map_append length_take nodup_cons map_cons length_cons take_of_length_le append_assoc nil_append size_toArray not_mem_nil length_nil)
open Nat(le_refl zero_le le_trans zero_add le_of_eq)
theorem zbL:(prog.info? 270).map (·.size)=some 73:=by kernel_rfl
theorem zfY:∃d,prog.underlying 270=some d∧d.isRow=true:=jf (by kernel_rfl)
theorem zeG {h:j4}:∀u∈yV h,u.oneCell'=true:=λu a=>by
 simp only[yV,mem_append,mem_map,mem_singleton] at a
 rcases a with(⟨x,-,rfl⟩|⟨x,-,rfl⟩)|rfl<;>rfl
theorem zbu (w:World) {p:Nat} (x:Int) (a:p≠w.heap.size):Jg (w.alloc (.cells #[.int .u8 x] 5)) p (.slice (some ⟨w.heap.size,0,none⟩) 1 1) [x]:=
 .inr ⟨w.heap.size,0,1,rfl,λe=>a e.symm,zy w [Value.int .u8 x] 5,le_refl _⟩
def xz:Array Value:=((List.replicate 32 (0:Int)).map zN).toArray
def zkD:Array Value:=(yV ⟨List.replicate 8 0,List.replicate 64 0,0⟩).toArray
theorem zfE:zkD.size=73:=by kernel_rfl
def zfF:Array Value:=((List.replicate 8 (0:Int)).map zN).toArray
def szL (n i:Nat):List Int:=(zce n).take i++List.replicate (8-i) 0
def zeT (w:World) (p N:Nat):Nat:=match w.cell? ⟨p,72,none⟩ with
 |some (.int _ n)=>N-n.toNat
 |_=>0
theorem qy:(prog.info? 41).map (·.size)=some 32:=by kernel_rfl
theorem zby:∃d,prog.underlying 41=some d∧d.isRow=true:=jf (by kernel_rfl)
theorem zkn {w:World} (hg:Ze w) (aj:3<w.heap.size) {p:Nat} {h:j4} (ok:vW h) (hb:w.heap[p]? =some (.cells (yV h).toArray 270 (0,0))) (hp:p≠0∧p≠3) (hn:h.n≤1000000000000):
  Calls prog 124 #[.pointer (some ⟨p,0,none⟩)] w λe w'=>e=.returned (.tuple #[.agg ((zd2 h).map zN).toArray,.int .i64 0])∧Fr No w w':=by
 have HG:=J hg
 have I:=J aj
 have OK:=J ok
 have HB:=J hb
 obtain⟨dH,yH,rH⟩:=zfY
 have zH:∀w,(zeroValue 270).run prog w=.ok (.agg zkD) w:=λw=>by kernel_rfl
 have aB:∀w,(zeroValue 41).run prog w=.ok (.agg xz) w:=λw=>by kernel_rfl
 have RH:=@J (∀W,Fr No w W→W.rangeAt p 0 (yV h)) (λW f=>vx (f.obj hb id))
 have HL:=J (zeF ok)
 clear hg aj hp ok hb
 go_enter Tryz.func124,Tryz.ntmps124
 have F1:=@J (Fr No w (w.alloc (.cells xz 41))) ((frN w).alloc _)
 have B1:=J (yj w (.cells xz 41))
 have o:=@J (w.heap.size<(w.alloc (.cells xz 41)).heap.size) (by simp)
 go_wp2_with (first|((with_reducible refine yv 16 ?_);refine zg rfl (z7 (ty:=270) rfl rfl (RH.o _ F1.o) yH rH (by rw[HL.o];exact zbL)) ?_;generalize w.alloc (.cells xz 41)=Q at*;generalize ay:w.heap.size=q2 at*)|((with_reducible refine zv ?_);refine zi rfl (zj (w:=Q) (ty:=270) (cs:=yV h) rfl rfl rfl (by rw[HL.o];exact zfE) (by rw[HL.o];exact zbL) zeG) ?_;have B2:=J (yj Q (.cells (yV h).toArray 270));have F2:=@J (Fr No Q (Q.alloc (.cells (yV h).toArray 270))) ((frN Q).alloc _);have Q2:=@J (Q.heap.size<(Q.alloc (.cells (yV h).toArray 270)).heap.size) (by simp);generalize Q.alloc (.cells (yV h).toArray 270)=w2 at*;generalize ax:Q.heap.size=g at*)|(go_at_call 156;refine(za4 (p:=g) (((HG.o.keep F1.o id id).keep F2.o id id).keep ((frN w2).alloc (.cells #[.int .u8 128] 5)) id id) (by have:=o.o;have:=Q2.o;have:=I.o;simp;omega) OK.o (((frN w2).alloc (.cells #[.int .u8 128] 5)).obj B2.o id) ⟨by have:=o.o;have:=I.o;omega,by have:=o.o;have:=I.o;omega⟩ (zbu w2 128 (by have:=Q2.o;omega)) (by simp;omega)).mono ?_;rintro e R ⟨rfl,af,f3⟩;have B3:=J af;have Z:=@J (Fr (λj=>j=g) w2 R) ((((frN w2).alloc (.cells #[.int .u8 128] 5)).of0 (W:=λj=>j=g)).trans f3 (λ_ _ h=>h));clear af f3))
 have aa:=@J (Ze R) (((HG.o.keep F1.o id id).keep F2.o id id).keep Z.o (by have:=o.o;have:=I.o;omega) (by have:=o.o;have:=I.o;omega))
 have C:=@J (g≠0∧g≠3∧3<R.heap.size∧g<R.heap.size) (⟨by have:=o.o;have:=I.o;omega,by have:=o.o;have:=I.o;omega,by have:=o.o;have:=I.o;have:=Q2.o;have:=Z.o.size;omega,by have:=Q2.o;have:=Z.o.size;omega⟩)
 have ad:=J (OK.o.adds (l:=[128]))
 have N1:=@J ((([128]:List Int).foldl xY h).n=h.n+1) (rfl)
 have H1:=@J (([128]:List Int).foldl xY h=xY h 128) (rfl)
 generalize ([128]:List Int).foldl xY h=a at*
 have pl:Vx a.n<64:=by unfold Vx;omega
 have n1:a.n≤1000000000001:=by rw[N1.o];omega
 go_loopw [19] (λ_ wr=>∃z:Nat,z≤Vx a.n∧wr.heap[g]? =some (.cells (yV ((List.replicate z 0).foldl xY a)).toArray 270 (0,0))∧Fr (λj=>j=g) R wr) (λ_ wr=>zeT wr g (a.n+Vx a.n))
 case atStart=>exact⟨0,zero_le _,B3.o,Fr.refl _ _⟩
 case round=>
  obtain⟨z,hz,X,fz⟩:=hrel
  have T:=J fz
  have BZ:=J X
  have L:=J (ad.o.adds (l:=List.replicate z 0))
  have NZ:=@J (((List.replicate z 0).foldl xY a).n=a.n+z) (by rw[XE,List.length_replicate])
  have SZ:=@J ((List.replicate (z+1) 0).foldl xY a=([0]:List Int).foldl xY ((List.replicate z 0).foldl xY a)) (by rw[List.replicate_succ',List.foldl_append])
  have HX:=@J ((List.replicate z 0).foldl xY a=(List.replicate z 0).foldl xY a) (rfl)
  generalize ai:(List.replicate z 0).foldl xY a=hh at*
  clear HX
  have HX:=J ai
  clear ai
  obtain⟨-,-,aq⟩:=vG L.o X
  have LM:=@J (zeT wr g (a.n+Vx a.n)=a.n+Vx a.n-(a.n+z)) (by unfold zeT;rw[aq,NZ.o];simp only[];omega)
  clear fz X
  obtain⟨m,hm⟩:∃m,m=hh.n % 64:=⟨_,rfl⟩
  have e1:bits .and .u64 (hh.n:Int) 63=(m:Int):=by have:=NZ.o;rw[zaE (by omega) (by omega),hm];omega
  by_cases hzp:z=Vx a.n
  ·have au:m=56:=by rw[hm,NZ.o,hzp];exact zj2 _
   subst au
   have j1:(((56:Nat):Int)==56)=true:=rfl
   have z8:∀w,(zeroValue 272).run prog w=.ok (.agg zfF) w:=λw=>by kernel_rfl
   have F4:=@J (Fr No wr (wr.alloc (.cells zfF 272))) ((frN wr).alloc _)
   have B4:=J (yj wr (.cells zfF 272))
   have M:=@J (g<wr.heap.size) (by have:=C.o.2.2.2;have:=T.o.size;omega)
   have PP:=@J (p<w.heap.size∧p≠g) (⟨yF HB.o,by have:=yF HB.o;have:=o.o;omega⟩)
   have ak:=@J ((wr.alloc (.cells zfF 272)).cell? ⟨p,72,none⟩=some (.int .u64 h.n)) (F4.o.cell (T.o.cell (Z.o.cell (F2.o.cell (F1.o.cell (vG OK.o HB.o).2.2 id) id) PP.o.2) PP.o.2) id)
   clear hm
   go_wp2
   generalize wr.alloc (.cells zfF 272)=w4 at*
   generalize az:wr.heap.size=r at*
   go_loopw [25] (λE wi=>∃i:Nat,E=.int .i64 i∧i≤8∧wi.heap[r]? =some (.cells ((szL h.n i).map zN).toArray 272 (0,0))∧Fr (λj=>j=r) w4 wi) (λE _=>8-(intOf E).toNat)
   case atStart=>exact⟨0,rfl,by omega,B4.o,Fr.refl _ _⟩
   case round=>
    obtain⟨i,rfl,hi,N,fi⟩:=hrel
    have H:=J fi
    have K:=J N
    have PQ:=@J (p≠r) (by have:=PP.o.1;have:=o.o;have:=M.o;have:=Q2.o;omega)
    have c7:=fi.cell ak.o PQ.o
    have ar:=λi=>yn (i:=i) N
    have q:=vx N
    clear fi N
    by_cases h8:i<8
    ·rcases(show i=0∨i=1∨i=2∨i=3∨i=4∨i=5∨i=6∨i=7 by omega) with rfl|rfl|rfl|rfl|rfl|rfl|rfl|rfl
     ·have d:=q 0 (.int .u8 0) rfl
      simp only[zero_add] at d
      clear q
      have c:=@J (∀v:Int,v=((h.n:Int)*8 % 18446744073709551616) / 72057594037927936 % 256→some (Obj.cells (((szL h.n 0).map zN).toArray.setIfInBounds 0 (.int .u8 v)) 272 (0,0))=some (Obj.cells ((szL h.n 1).map zN).toArray 272 (0,0))) (λv e=>by subst e;rfl)
      go_wp2
      go_roundw
      case rel=>exact⟨1,rfl,by omega,(heap_setCell_same wr r 0 _ _ _ K.o).trans (c.o _ (by omega)),H.o.setCell _ (.inr rfl) _⟩
      case measure=>simp[intOf]
     ·have d:=q 1 (.int .u8 0) rfl
      simp only[zero_add] at d
      clear q
      have c:=@J (∀v:Int,v=((h.n:Int)*8 % 18446744073709551616) / 281474976710656 % 256→some (Obj.cells (((szL h.n 1).map zN).toArray.setIfInBounds 1 (.int .u8 v)) 272 (0,0))=some (Obj.cells ((szL h.n 2).map zN).toArray 272 (0,0))) (λv e=>by subst e;rfl)
      go_wp2
      go_roundw
      case rel=>exact⟨2,rfl,by omega,(heap_setCell_same wr r 1 _ _ _ K.o).trans (c.o _ (by omega)),H.o.setCell _ (.inr rfl) _⟩
      case measure=>simp[intOf]
     ·have d:=q 2 (.int .u8 0) rfl
      simp only[zero_add] at d
      clear q
      have c:=@J (∀v:Int,v=((h.n:Int)*8 % 18446744073709551616) / 1099511627776 % 256→some (Obj.cells (((szL h.n 2).map zN).toArray.setIfInBounds 2 (.int .u8 v)) 272 (0,0))=some (Obj.cells ((szL h.n 3).map zN).toArray 272 (0,0))) (λv e=>by subst e;rfl)
      go_wp2
      go_roundw
      case rel=>exact⟨3,rfl,by omega,(heap_setCell_same wr r 2 _ _ _ K.o).trans (c.o _ (by omega)),H.o.setCell _ (.inr rfl) _⟩
      case measure=>simp[intOf]
     ·have d:=q 3 (.int .u8 0) rfl
      simp only[zero_add] at d
      clear q
      have c:=@J (∀v:Int,v=((h.n:Int)*8 % 18446744073709551616) / 4294967296 % 256→some (Obj.cells (((szL h.n 3).map zN).toArray.setIfInBounds 3 (.int .u8 v)) 272 (0,0))=some (Obj.cells ((szL h.n 4).map zN).toArray 272 (0,0))) (λv e=>by subst e;rfl)
      go_wp2
      go_roundw
      case rel=>exact⟨4,rfl,by omega,(heap_setCell_same wr r 3 _ _ _ K.o).trans (c.o _ (by omega)),H.o.setCell _ (.inr rfl) _⟩
      case measure=>simp[intOf]
     ·have d:=q 4 (.int .u8 0) rfl
      simp only[zero_add] at d
      clear q
      have c:=@J (∀v:Int,v=((h.n:Int)*8 % 18446744073709551616) / 16777216 % 256→some (Obj.cells (((szL h.n 4).map zN).toArray.setIfInBounds 4 (.int .u8 v)) 272 (0,0))=some (Obj.cells ((szL h.n 5).map zN).toArray 272 (0,0))) (λv e=>by subst e;rfl)
      go_wp2
      go_roundw
      case rel=>exact⟨5,rfl,by omega,(heap_setCell_same wr r 4 _ _ _ K.o).trans (c.o _ (by omega)),H.o.setCell _ (.inr rfl) _⟩
      case measure=>simp[intOf]
     ·have d:=q 5 (.int .u8 0) rfl
      simp only[zero_add] at d
      clear q
      have c:=@J (∀v:Int,v=((h.n:Int)*8 % 18446744073709551616) / 65536 % 256→some (Obj.cells (((szL h.n 5).map zN).toArray.setIfInBounds 5 (.int .u8 v)) 272 (0,0))=some (Obj.cells ((szL h.n 6).map zN).toArray 272 (0,0))) (λv e=>by subst e;rfl)
      go_wp2
      go_roundw
      case rel=>exact⟨6,rfl,by omega,(heap_setCell_same wr r 5 _ _ _ K.o).trans (c.o _ (by omega)),H.o.setCell _ (.inr rfl) _⟩
      case measure=>simp[intOf]
     ·have d:=q 6 (.int .u8 0) rfl
      simp only[zero_add] at d
      clear q
      have c:=@J (∀v:Int,v=((h.n:Int)*8 % 18446744073709551616) / 256 % 256→some (Obj.cells (((szL h.n 6).map zN).toArray.setIfInBounds 6 (.int .u8 v)) 272 (0,0))=some (Obj.cells ((szL h.n 7).map zN).toArray 272 (0,0))) (λv e=>by subst e;rfl)
      go_wp2
      go_roundw
      case rel=>exact⟨7,rfl,by omega,(heap_setCell_same wr r 6 _ _ _ K.o).trans (c.o _ (by omega)),H.o.setCell _ (.inr rfl) _⟩
      case measure=>simp[intOf]
     ·have d:=q 7 (.int .u8 0) rfl
      simp only[zero_add] at d
      clear q
      have c:=@J (∀v:Int,v=(h.n:Int)*8 % 18446744073709551616 % 256→some (Obj.cells (((szL h.n 7).map zN).toArray.setIfInBounds 7 (.int .u8 v)) 272 (0,0))=some (Obj.cells ((szL h.n 8).map zN).toArray 272 (0,0))) (λv e=>by subst e;rfl)
      go_wp2
      go_roundw
      case rel=>exact⟨8,rfl,by omega,(heap_setCell_same wr r 7 _ _ _ K.o).trans (c.o _ (by omega)),H.o.setCell _ (.inr rfl) _⟩
      case measure=>simp[intOf]
    ·obtain rfl:i=8:=by omega
     have i1:¬((8:Nat):Int)<8:=by omega
     have sl:∀w,(Instr.sliceAt 272 (.pointer (some ⟨r,0,none⟩)) none none none).run prog w=.ok (.slice (some ⟨r,0,none⟩) 8 8) w:=λw=>by kernel_rfl
     have BY:=@J (Jg wr g (.slice (some ⟨r,0,none⟩) 8 8) (zce h.n)) (.inr ⟨r,0,8,rfl,by have:=M.o;omega,q,le_refl _⟩)
     have ae:=@J ((zce h.n).foldl xY hh=Yh h) (by rw[←HX.o,hzp,N1.o,H1.o];rfl)
     have ao:=J (L.o.adds (l:=zce h.n))
     have NP:=@J (hh.n+(zce h.n).length≤4611686018427387904) (by have:=NZ.o;have:(zce h.n).length=8:=rfl;omega)
     have FA:=@J (Fr (λj=>j=g∨j=r) R wr) (((T.o.mono (λ_ h=>.inl h)).trans (F4.o.of0 (W:=λj=>j=g∨j=r)) (λ_ _ h=>h)).trans H.o (λ_ _ h=>.inr h))
     have al:=@J (Ze wr) (aa.o.keep FA.o (by have:=o.o;have:=I.o;have:=M.o;have:=C.o;omega) (by have:=o.o;have:=I.o;have:=M.o;have:=C.o;omega))
     have S4:=@J (3<wr.heap.size) (by have:=C.o.2.2.1;have:=FA.o.size;omega)
     have BP:=@J (wr.heap[g]? =some (.cells (yV hh).toArray 270 (0,0))) (H.o.obj (F4.o.obj BZ.o id) (by have:=M.o;omega))
     clear c7 ar q K
     have U:=@J (vW (Yh h)) (by rw[←ae.o];exact ao.o)
     have L8:=@J (((Yh h).st.map YV).length=8) (by rw[length_map];exact U.o.1)
     obtain⟨d8,y8,r8⟩:=zjm
     go_wp2_with (first|((with_reducible refine yv 45 ?_);refine zg rfl (z7 (ty:=267) rfl rfl (vG U.o (F6.o.obj B5.o id)).1 y8 r8 (by rw[L8.o];exact zjE)) ?_;generalize F.alloc (.cells xz 41)=w6 at*;generalize aA:F.heap.size=O at*)|(go_at_call 156;refine(za4 (p:=g) al.o S4.o L.o BP.o ⟨C.o.1,C.o.2.1⟩ BY.o NP.o).mono ?_;rintro e F ⟨rfl,u,f5⟩;rw[ae.o] at u;have B5:=J u;have F5:=@J (Fr (λj=>j=g∨j=r) R F) (FA.o.trans (f5.mono (λ_ h=>.inl h)) (λ_ _ h=>h));have F6:=@J (Fr No F (F.alloc (.cells xz 41))) ((frN F).alloc _);have B6:=J (yj F (.cells xz 41));clear u f5))
     have V:=J U.o.1
     have G:=@J (((Yh h).st.flatMap Qw).length=32) (by rw[zbC,V.o])
     have FG:=J (flat_get (Yh h).st)
     have O6:=@J (w6.heap[O]? =some (.cells ((Yt ((Yh h).st.flatMap Qw) (4*0)).map zN).toArray 41 (0,0))) (B6.o)
     have SD:=@J (zd2 h=(Yh h).st.flatMap Qw) (rfl)
     clear sl BY
     generalize aw:(Yh h).st=S at*
     generalize av:S.flatMap Qw=s at*
     go_loopw [46] (λE wi=>∃i:Nat,E=.int .i64 i∧i≤8∧wi.heap[O]? =some (.cells ((Yt s (4*i)).map zN).toArray 41 (0,0))∧Fr (λj=>j=O) w6 wi) (λE _=>8-(intOf E).toNat)
     case atStart=>exact⟨0,rfl,by omega,O6.o,Fr.refl _ _⟩
     case round=>
      obtain⟨i,rfl,hi,ah,fo⟩:=hrel
      have FO:=J fo
      have BO:=J ah
      clear fo ah
      by_cases h8:i<8
      ·have hx:=zk6 V.o h8
       have i1:((i:Nat):Int)<8:=by omega
       have WG:=J (λk hk=>FG.o i k hk (by rw[V.o];exact h8))
       generalize S.getD i 0=x at*
       go_wp2
       go_loopw [50] (λE wk=>∃k:Nat,E=.int .i64 k∧k≤4∧wk.heap[O]? =some (.cells ((Yt s (4*i+k)).map zN).toArray 41 (0,0))∧Fr (λj=>j=O) w6 wk) (λE _=>4-(intOf E).toNat)
       case atStart=>exact⟨0,rfl,by omega,BO.o,FO.o⟩
       case round=>
        obtain⟨k,rfl,hk,ag,fk⟩:=hrel
        have FK:=J fk
        have B:=J ag
        clear fk ag
        by_cases k4:k<4
        ·rcases(show k=0∨k=1∨k=2∨k=3 by omega) with rfl|rfl|rfl|rfl
         ·obtain⟨j,A⟩:∃j,j=4*i+0:=⟨_,rfl⟩
          have Y:((j:Nat):Int)<32:=by omega
          have j0:(0:Int)≤(j:Int):=by omega
          have jn:(j:Int).toNat=j:=by omega
          have je:4*(i:Int)+0=(j:Int):=by omega
          obtain⟨y,D⟩:=zbf G.o (m:=4*i+0) (by omega)
          have d:=vx B.o _ _ D
          simp only[zero_add,←A] at d
          clear D
          have fz:=yn (i:=j) B.o
          have c:=@J (∀v:Int,v=x / 16777216 % 256→some (Obj.cells (((Yt s (4*i+0)).map zN).toArray.setIfInBounds j (.int .u8 v)) 41 (0,0))=some (Obj.cells ((Yt s (4*i+1)).map zN).toArray 41 (0,0))) (λv e=>by
           rw[A,List.setIfInBounds_toArray,←show zN v=.int .u8 v from rfl,←List.map_set,show v=s.getD (4*i+0) 0 from(e.trans (WG.o 0 (by omega)).symm),Vw G.o (by omega)])
          have t:=J (λv=>heap_setCell_same wr O j _ _ (.int .u8 v) B.o)
          clear A
          go_wp2
          go_roundw
          case rel=>exact⟨1,rfl,by omega,(t.o _).trans (c.o _ (by omega)),FK.o.setCell _ (.inr rfl) _⟩
          case measure=>simp[intOf]
         ·obtain⟨j,A⟩:∃j,j=4*i+1:=⟨_,rfl⟩
          have Y:((j:Nat):Int)<32:=by omega
          have j0:(0:Int)≤(j:Int):=by omega
          have jn:(j:Int).toNat=j:=by omega
          have je:4*(i:Int)+1=(j:Int):=by omega
          obtain⟨y,D⟩:=zbf G.o (m:=4*i+1) (by omega)
          have d:=vx B.o _ _ D
          simp only[zero_add,←A] at d
          clear D
          have fz:=yn (i:=j) B.o
          have c:=@J (∀v:Int,v=x / 65536 % 256→some (Obj.cells (((Yt s (4*i+1)).map zN).toArray.setIfInBounds j (.int .u8 v)) 41 (0,0))=some (Obj.cells ((Yt s (4*i+2)).map zN).toArray 41 (0,0))) (λv e=>by
           rw[A,List.setIfInBounds_toArray,←show zN v=.int .u8 v from rfl,←List.map_set,show v=s.getD (4*i+1) 0 from(e.trans (WG.o 1 (by omega)).symm),Vw G.o (by omega)])
          have t:=J (λv=>heap_setCell_same wr O j _ _ (.int .u8 v) B.o)
          clear A
          go_wp2
          go_roundw
          case rel=>exact⟨2,rfl,by omega,(t.o _).trans (c.o _ (by omega)),FK.o.setCell _ (.inr rfl) _⟩
          case measure=>simp[intOf]
         ·obtain⟨j,A⟩:∃j,j=4*i+2:=⟨_,rfl⟩
          have Y:((j:Nat):Int)<32:=by omega
          have j0:(0:Int)≤(j:Int):=by omega
          have jn:(j:Int).toNat=j:=by omega
          have je:4*(i:Int)+2=(j:Int):=by omega
          obtain⟨y,D⟩:=zbf G.o (m:=4*i+2) (by omega)
          have d:=vx B.o _ _ D
          simp only[zero_add,←A] at d
          clear D
          have fz:=yn (i:=j) B.o
          have c:=@J (∀v:Int,v=x / 256 % 256→some (Obj.cells (((Yt s (4*i+2)).map zN).toArray.setIfInBounds j (.int .u8 v)) 41 (0,0))=some (Obj.cells ((Yt s (4*i+3)).map zN).toArray 41 (0,0))) (λv e=>by
           rw[A,List.setIfInBounds_toArray,←show zN v=.int .u8 v from rfl,←List.map_set,show v=s.getD (4*i+2) 0 from(e.trans (WG.o 2 (by omega)).symm),Vw G.o (by omega)])
          have t:=J (λv=>heap_setCell_same wr O j _ _ (.int .u8 v) B.o)
          clear A
          go_wp2
          go_roundw
          case rel=>exact⟨3,rfl,by omega,(t.o _).trans (c.o _ (by omega)),FK.o.setCell _ (.inr rfl) _⟩
          case measure=>simp[intOf]
         ·obtain⟨j,A⟩:∃j,j=4*i+3:=⟨_,rfl⟩
          have Y:((j:Nat):Int)<32:=by omega
          have j0:(0:Int)≤(j:Int):=by omega
          have jn:(j:Int).toNat=j:=by omega
          have je:4*(i:Int)+3=(j:Int):=by omega
          obtain⟨y,D⟩:=zbf G.o (m:=4*i+3) (by omega)
          have d:=vx B.o _ _ D
          simp only[zero_add,←A] at d
          clear D
          have fz:=yn (i:=j) B.o
          have c:=@J (∀v:Int,v=x % 256→some (Obj.cells (((Yt s (4*i+3)).map zN).toArray.setIfInBounds j (.int .u8 v)) 41 (0,0))=some (Obj.cells ((Yt s (4*i+4)).map zN).toArray 41 (0,0))) (λv e=>by
           rw[A,List.setIfInBounds_toArray,←show zN v=.int .u8 v from rfl,←List.map_set,show v=s.getD (4*i+3) 0 from(e.trans (WG.o 3 (by omega)).symm),Vw G.o (by omega)])
          have t:=J (λv=>heap_setCell_same wr O j _ _ (.int .u8 v) B.o)
          clear A
          go_wp2
          go_roundw
          case rel=>exact⟨4,rfl,by omega,(t.o _).trans (c.o _ (by omega)),FK.o.setCell _ (.inr rfl) _⟩
          case measure=>simp[intOf]
        ·obtain rfl:k=4:=by omega
         have k1:¬((4:Nat):Int)<4:=by omega
         have ee:4*i+4=4*(i+1):=by omega
         rw[ee] at B
         go_wp2
         go_roundw
         case rel=>exact⟨i+1,by simp,by omega,B.o,FK.o⟩
         case measure=>show 8-(i+1)<8-i;omega
      ·obtain rfl:i=8:=by omega
       have i1:¬((8:Nat):Int)<8:=by omega
       have an:=@J (F.heap[q2]? =some (.cells xz 41 (0,0))) (F5.o.obj (Z.o.obj (F2.o.obj B1.o id) (by have:=o.o;omega)) (by have:=o.o;have:=M.o;omega))
       have ab:=@J (wr.heap[q2]? =some (.cells xz 41 (0,0))) (FO.o.obj (F6.o.obj an.o id) (by have:=o.o;have:=M.o;have:=F5.o.size;have:=C.o.2.2.2;omega))
       rw[show 4*8=32 from rfl,zj0 G.o] at BO
       have FL:=@J ((s.map zN).length=32) (by rw[length_map];exact G.o)
       obtain⟨dh,yh,rh⟩:=zby
       go_wp2_with (first|((with_reducible refine yv 67 ?_);refine zg rfl (z7 (ty:=41) rfl rfl (vx BO.o) yh rh (by rw[FL.o];exact qy)) ?_)|(refine zi rfl (zK (ty:=41) (b:=q2) (off:=0) (cs:=s.map zN) rfl rfl rfl (by rw[FL.o];exact zX ab.o (le_refl 32)) (by rw[FL.o];exact qy) (λv hv=>by obtain⟨x,-,rfl⟩:=mem_map.1 hv;rfl)) ?_))
       have FN:=@J (Fr No w wr) ((((((F1.o.trans0 F2.o).trans Z.o (λi h e=>(show False by have:=o.o;omega))).trans F5.o (λi h e=>(show False by have:=o.o;have:=M.o;omega))).trans0 F6.o).trans FO.o (λi h e=>(show False by have:=o.o;have:=M.o;have:=F5.o.size;have:=C.o.2.2.2;omega))))
       refine bodyPost_ret (ym (P:=prog) (fn:=Tryz.f124) rfl _ rfl (yx ab.o (by rw[FL.o];rfl)) yh rh (by rw[FL.o];exact qy) rfl) rfl ⟨by rw[SD.o];rfl,FN.o.trans (zu q2 _ 0 wr) (λi h e=>(show False by omega))⟩
  ·have j1:((m:Int)==56)=false:=by
    rw[beq_eq_false_iff_ne]
    have:=zli (n:=a.n) (z:=z) (by omega)
    rw[←NZ.o,←hm] at this
    omega
   clear hm
   have G0:=J (aa.o.keep T.o (λe=>C.o.1 e.symm) (λe=>C.o.2.1 e.symm))
   go_wp2_with (go_at_call 156;refine(za4 (p:=g) (G0.o.keep ((frN wr).alloc (.cells #[.int .u8 0] 5)) id id) (by have:=C.o.2.2.1;have:=T.o.size;simp;omega) L.o (((frN wr).alloc (.cells #[.int .u8 0] 5)).obj BZ.o id) ⟨C.o.1,C.o.2.1⟩ (zbu wr 0 (by have:=C.o.2.2.2;have:=T.o.size;omega)) (by have:=NZ.o;simp;omega)).mono ?_;rintro e F ⟨rfl,u,f5⟩;rw[←SZ.o] at u;have B5:=J u;have F5:=@J (Fr (λj=>j=g) R F) (T.o.trans ((((frN wr).alloc (.cells #[.int .u8 0] 5)).of0 (W:=λj=>j=g)).trans f5 (λ_ _ h=>h)) (λ_ _ h=>h));clear u f5)
   go_roundw
   case rel=>exact⟨z+1,by omega,B5.o,F5.o⟩
   case measure=>
    rw[LM.o]
    have c5:=(vG (ad.o.adds (l:=List.replicate (z+1) 0)) B5.o).2.2
    have:zeT F g (a.n+Vx a.n)=a.n+Vx a.n-(a.n+(z+1)):=by
     unfold zeT
     rw[c5,XE,List.length_replicate]
     simp only[]
     omega
    rw[this]
    omega
end Go.Proofs.YtdkkjchclkjleaaGreatDoor
namespace Go
structure zE where
 tx:List Int
 n:Int
structure yI where
 value:Int
 lock:List Int
structure zr where
 at_:zE
 out:yI
instance:DecidableEq zE:=λa b=>if h:a.tx=b.tx∧a.n=b.n then isTrue (by cases a;cases b;simp_all) else isFalse (λe=>h (by rw[e];exact⟨rfl,rfl⟩))
def zY (l:List Int):Prop:=l.length=32∧∀x∈l,0≤x∧x≤255
def zE.ok (p:zE):Prop:=zY p.tx∧0≤p.n∧p.n≤4294967295
def yI.ok (x:yI):Prop:=(0≤x.value∧x.value≤18446744073709551615)∧zY x.lock
def zr.ok (c:zr):Prop:=c.at_.ok∧c.out.ok
def J9:List Int→List Int→Int
 |[],[]=>0
 |[],_::_=> -1
 |_::_,[]=>1
 |a::as0,b::bs=>if a<b then -1 else if b<a then 1 else J9 as0 bs
theorem zcC:∀a,J9 a a=0
 |[]=>rfl
 |x::a=>by simp[J9,zcC a]
theorem XM:∀ {a b},J9 a b=0→a=b
 |[],[],_=>rfl
 |[],_::_,h=>by simp[J9] at h
 |_::_,[],h=>by simp[J9] at h
 |x::a,y::b,h=>by
  unfold J9 at h
  split at h
  ·omega
  ·split at h
   ·omega
   ·have:x=y:=by omega
    rw[this,XM h]
theorem zem:∀a b,J9 b a= - J9 a b
 |[],[]=>rfl
 |[],_::_=>rfl
 |_::_,[]=>rfl
 |x::a,y::b=>by
  unfold J9
  by_cases h1:x<y
  ·have:¬y<x:=by omega
   simp[h1,this]
  ·by_cases h2:y<x
   ·simp[h1,h2]
   ·simp only[h1,h2,if_false]
    exact zem a b
theorem zbv:∀ {a b c},J9 a b= -1→J9 b c= -1→J9 a c= -1
 |[],[],_,h,_=>by simp[J9] at h
 |[],_::_,[],_,h=>by simp[J9] at h
 |[],_::_,_::_,_,_=>rfl
 |_::_,[],_,h,_=>by simp[J9] at h
 |_::_,_::_,[],_,h=>by simp[J9] at h
 |x::a,y::b,z::c,h1,h2=>by
  unfold J9 at*
  split at h1
  ·split at h2
   ·rw[if_pos (by omega)]
   ·split at h2
    ·omega
    ·rw[if_pos (by omega)]
  ·split at h1
   ·omega
   ·split at h2
    ·rw[if_pos (by omega)]
    ·split at h2
     ·omega
     ·rw[if_neg (by omega),if_neg (by omega)]
      exact zbv h1 h2
theorem zcD:∀a b,J9 a b= -1∨J9 a b=0∨J9 a b=1
 |[],[]=>.inr (.inl rfl)
 |[],_::_=>.inl rfl
 |_::_,[]=>.inr (.inr rfl)
 |x::a,y::b=>by
  unfold J9
  split
  ·exact .inl rfl
  ·split
   ·exact .inr (.inr rfl)
   ·exact zcD a b
def zhB (a b:Int):Int:=if a<b then -1 else if b<a then 1 else 0
def Zf (p q:zE):Int:=if J9 p.tx q.tx=0 then zhB p.n q.n else J9 p.tx q.tx
def JL (p q:zE):Bool:=decide (Zf p q= -1)
theorem zcE (p q:zE):Zf q p= - Zf p q:=by
 unfold Zf
 rw[zem p.tx q.tx]
 by_cases h:J9 p.tx q.tx=0
 ·rw[h];simp[zhB];split<;>split<;>omega
 ·rw[if_neg (by omega),if_neg h]
theorem zfU (p:zE):Zf p p=0:=by simp[Zf,zcC,zhB]
theorem zfW {p q:zE} (h:Zf p q=0):p=q:=by
 unfold Zf at h
 split at h
 ·rename_i h1
  have a:=XM h1
  unfold zhB at h
  split at h
  ·omega
  ·split at h
   ·omega
   ·cases p;cases q;simp only[zE.mk.injEq] at*;exact⟨a,by omega⟩
 ·contradiction
theorem zfV (p q:zE):Zf p q= -1∨Zf p q=0∨Zf p q=1:=by
 unfold Zf
 split
 ·unfold zhB;split
  ·exact .inl rfl
  ·split
   ·exact .inr (.inr rfl)
   ·exact .inr (.inl rfl)
 ·exact zcD _ _
theorem zen {p q r:zE} (b:Zf p q= -1) (a:Zf q r= -1):Zf p r= -1:=by
 unfold Zf at*
 split at b
 ·rename_i e1
  have:=XM e1
  rw[this]
  split at a
  ·rename_i e2
   rw[if_pos e2]
   unfold zhB at*
   split at b
   ·split at a
    ·rw[if_pos (by omega)]
    ·split at a<;>omega
   ·split at b<;>omega
  ·rename_i e2
   rw[if_neg e2]
   exact a
 ·split at a
  ·rename_i e1 e2
   have:=XM e2
   rw[←this,if_neg (by omega)]
   exact b
  ·have:=zbv b a
   rw[if_neg (by omega)]
   exact this
theorem zaS (p:zE):JL p p=false:=by simp[JL,zfU]
theorem zb9 {p q r:zE} (a:JL p q=true) (b:JL q r=true):JL p r=true:=by
 unfold JL at*
 simp only[decide_eq_true_eq] at*
 exact zen a b
theorem zgn {p q:zE} (h:JL p q=true):JL q p=false:=by
 unfold JL at*
 simp only[decide_eq_true_eq,decide_eq_false_iff_not] at*
 rw[zcE p q];omega
theorem zgo {p q:zE} (b:JL p q=false) (a:JL q p=false):p=q:=by
 unfold JL at*
 simp only[decide_eq_false_iff_not] at*
 rw[zcE p q] at a
 exact zfW (by rcases zfV p q with h|h|h<;>omega)
theorem zdR {p q:zE} (h:JL p q=true):p≠q:=λe=>by subst e;rw[zaS] at h;cases h
def xJ (S:List zr) (p:zE):Bool:=S.any λc=>decide (c.at_=p)
def Y2 (S:List zr) (p:zE):Option yI:=(S.find? λc=>decide (c.at_=p)).map (·.out)
def zct (S:List zr) (c:zr):List zr:=S.takeWhile (λx=> !JL c.at_ x.at_)++c::S.dropWhile (λx=> !JL c.at_ x.at_)
def jV (S l:List zr):List zr:=l.foldl zct S
def qg (S:List zr) (ps:List zE):List zr:=S.filter λc=> !decide (c.at_∈ps)
def qU (S:List zr):Prop:=S.Pairwise λa b=>JL a.at_ b.at_=true
theorem JY {S:List zr} {p:zE}:xJ S p=true↔∃c∈S,c.at_=p:=by simp[xJ]
theorem Zz {S:List zr} {p:zE}:xJ S p=false↔∀c∈S,c.at_≠p:=by simp[xJ]
theorem qU.nodup {S:List zr} (h:qU S):(S.map (·.at_)).Nodup:=by
 rw[List.Nodup,List.pairwise_map]
 exact h.imp λh=>zdR h
theorem qU.uniq {S:List zr} (h:qU S) {a b:zr} (c:a∈S) (d:b∈S) (e:a.at_=b.at_):a=b:=by
 induction h with
 |nil=>cases c
 |cons hx _ ih=>
  rcases List.mem_cons.1 c with rfl|ha'<;>rcases List.mem_cons.1 d with rfl|hb'
  ·rfl
  ·exact absurd e (zdR (hx _ hb'))
  ·exact absurd e.symm (zdR (hx _ ha'))
  ·exact ih ha' hb'
theorem YK {S:List zr} (h:qU S) {c:zr} (b:c∈S):Y2 S c.at_=some c.out:=by
 unfold Y2
 cases e:S.find? λx=>decide (x.at_=c.at_) with
 |none=>
  have:=List.find?_eq_none.1 e c b
  simp at this
 |some x=>
  have d:=List.mem_of_find?_eq_some e
  have a:=List.find?_some e
  simp only[decide_eq_true_eq] at a
  rw[h.uniq d b a];rfl
theorem zf6 {S:List zr} {p:zE} (h:xJ S p=false):Y2 S p=none:=by
 unfold Y2
 rw[List.find?_eq_none.2 (λx a=>by have:=Zz.1 h x a;simpa using this)]
 rfl
theorem zdC {S:List zr} {p:zE}:(Y2 S p).isSome=xJ S p:=by
 rw[Bool.eq_iff_iff,JY]
 unfold Y2
 simp
theorem zc2 {α:Type} {f:α→Bool} {x:α}:∀ {L:List α},x∈L.takeWhile f→f x=true
 |[],h=>by cases h
 |y::L,h=>by
  rw[List.takeWhile_cons] at h
  split at h
  ·rename_i hy
   rcases List.mem_cons.1 h with rfl|h
   ·exact hy
   ·exact zc2 h
  ·cases h
theorem zeY {S:List zr} {c x:zr}:x∈zct S c↔x=c∨x∈S:=by
 have e:=List.takeWhile_append_dropWhile (p:=λx:zr=> !JL c.at_ x.at_) (l:=S)
 unfold zct
 constructor
 ·intro h
  rcases List.mem_append.1 h with h|h
  ·right;rw[←e];exact List.mem_append.2 (.inl h)
  ·rcases List.mem_cons.1 h with h|h
   ·exact .inl h
   ·right;rw[←e];exact List.mem_append.2 (.inr h)
 ·rintro(rfl|h)
  ·simp
  ·rw[←e] at h
   rcases List.mem_append.1 h with h|h
   ·exact List.mem_append.2 (.inl h)
   ·exact List.mem_append.2 (.inr (List.mem_cons_of_mem _ h))
theorem zhU (S:List zr) (c:zr):(zct S c).Perm (c::S):=by
 unfold zct
 refine List.perm_middle.trans ?_
 rw[List.takeWhile_append_dropWhile]
theorem zjH {S:List zr} (h:qU S) {c:zr} (o:xJ S c.at_=false):qU (zct S c):=by
 have g:=Zz.1 o
 have e:=List.takeWhile_append_dropWhile (p:=λx:zr=> !JL c.at_ x.at_) (l:=S)
 have k:∀x∈S.takeWhile (λx=> !JL c.at_ x.at_),JL x.at_ c.at_=true:=by
  intro x d
  have n:JL c.at_ x.at_=false:=by have:=zc2 d;simpa using this
  cases h2:JL x.at_ c.at_ with
  |true=>rfl
  |false=>exact absurd (zgo h2 n) (g x ((List.takeWhile_prefix _).subset d))
 have j:∀x∈S.dropWhile (λx=> !JL c.at_ x.at_),JL c.at_ x.at_=true:=by
  cases hD:S.dropWhile (λx=> !JL c.at_ x.at_) with
  |nil=>intro x d;cases d
  |cons y D=>
   have m:JL c.at_ y.at_=true:=by
    have:=List.head?_dropWhile_not (λx:zr=> !JL c.at_ x.at_) S
    rw[hD] at this
    simpa using this
   have q:qU (y::D):=by rw[←hD];exact List.Pairwise.sublist (List.dropWhile_suffix _).sublist h
   intro x d
   rcases List.mem_cons.1 d with rfl|d
   ·exact m
   ·exact zb9 m ((List.pairwise_cons.1 q).1 x d)
 unfold zct qU
 rw[List.pairwise_append]
 refine⟨List.Pairwise.sublist (List.takeWhile_prefix _).sublist h,List.pairwise_cons.2 ⟨j,List.Pairwise.sublist (List.dropWhile_suffix _).sublist h⟩,?_⟩
 intro a i b f
 rcases List.mem_cons.1 f with rfl|f
 ·exact k a i
 ·exact zb9 (k a i) (j b f)
theorem qL:∀ {l S:List zr} {x:zr},x∈jV S l↔x∈S∨x∈l
 |[],S,x=>by simp[jV]
 |c::l,S,x=>by
  show x∈jV (zct S c) l↔_
  rw[qL,zeY]
  simp only[List.mem_cons]
  constructor
  ·rintro((h|h)|h)
   ·exact .inr (.inl h)
   ·exact .inl h
   ·exact .inr (.inr h)
  ·rintro(h|h|h)
   ·exact .inl (.inr h)
   ·exact .inl (.inl h)
   ·exact .inr h
theorem Zs:∀(l S:List zr),(jV S l).Perm (S++l)
 |[],S=>by simp[jV]
 |c::l,S=>by
  show(jV (zct S c) l).Perm _
  refine(Zs l _).trans ?_
  refine((zhU S c).append_right l).trans ?_
  exact List.perm_middle.symm
theorem J4:∀ {l S:List zr},qU S→(l.map (·.at_)).Nodup→(∀c∈l,xJ S c.at_=false)→qU (jV S l)
 |[],S,h,_,_=>h
 |c::l,S,h,hn,hd=>by
  show qU (jV (zct S c) l)
  rw[List.map_cons,List.nodup_cons] at hn
  refine J4 (zjH h (hd c (by simp))) hn.2 ?_
  intro x b
  rw[Zz]
  intro y a
  rcases zeY.1 a with rfl|a
  ·exact λe=>hn.1 (by rw[e];exact List.mem_map.2 ⟨x,b,rfl⟩)
  ·exact Zz.1 (hd x (by simp[b])) y a
theorem Yy {S:List zr} {ps:List zE} (h:qU S):qU (qg S ps):=List.Pairwise.filter _ h
theorem Jr {S:List zr} {ps:List zE} {x:zr}:x∈qg S ps↔x∈S∧x.at_∉ps:=by simp[qg]
theorem qU.same {S R:List zr} (h:qU S) (c:qU R) (g:∀x,x∈S↔x∈R):S=R:=by
 have nd:∀ {T:List zr},qU T→T.Nodup:=fun {T} h=>by unfold List.Nodup;exact List.Pairwise.imp (fun {a b} h e=>by subst e;rw[zaS] at h;cases h) h
 refine List.Perm.eq_of_pairwise (le:=λa b:zr=>JL a.at_ b.at_=true) ?_ h c ((List.perm_ext_iff_of_nodup (nd h) (nd c)).2 g)
 intro a b _ _ f d
 rw[zgn f] at d;cases d
end Go
namespace Go
open Go.RowKit Go.Maps Go.MapKept
section
variable {P:Program} {S:World→Prop} {a:Act} {dst:Option Tmp} {ty ty2:TypeId} {pos:String} {after:Array Edge} {gd:Option (Nat×Bool)} {x y:Operand}
structure EqN (P:Program) (k:TypeId):Prop where
 keyed:Keyed P k
 deep:∃m,m≤10000∧P.keyTypeAt m k=true
 wide:(match P.underlying k with|some (.array _ _)|some (.struct _)=>true|_=>false)=true
 guard:P.eqGuardType P.depth k=false
theorem EqN.run {k:TypeId} (h:EqN P k) (w:World) {u v:Array Value} (j:∃l,keyOf P k (.agg u)=some l) (m:∃l,keyOf P k (.agg v)=some l) (b:Bool) (g:b=true↔u=v):
  (Op.equal k (.agg u) (.agg v)).run P w=.ok b w:=by
 obtain⟨n,f⟩:=j
 obtain⟨o,d⟩:=m
 obtain⟨r,i,c⟩:=run_equal_deep w h.deep.choose_spec.1 h.deep.choose_spec.2 h.wide f d
 have:r=b:=by
  rw[Bool.eq_iff_iff,c,g]
  constructor
  ·intro e
   subst e
   have:=h.keyed.inj f d
   injection this
  ·intro e
   subst e
   rw[f] at d
   exact Option.some.inj d
 rw[i,this]
theorem EqN.eql {k:TypeId} (h:EqN P k) (w:World) {u v:Array Value} (e:∃l,keyOf P k (.agg u)=some l) (f:∃l,keyOf P k (.agg v)=some l) (b:Bool) (d:b=true↔u=v):
  (binOp .eql k (.agg u) (.agg v)).run P w=.ok (.bool b) w:=by
 have c:=h.run w e f b d
 rw[run_eql_struct]
 unfold Op.equal at c
 rw[show Op.maxDepth=10000 from rfl] at c
 rw[c]
 rfl
theorem EqN.neq {k:TypeId} (h:EqN P k) (w:World) {u v:Array Value} (e:∃l,keyOf P k (.agg u)=some l) (f:∃l,keyOf P k (.agg v)=some l) (b:Bool) (d:b=true↔u=v):
  (binOp .neq k (.agg u) (.agg v)).run P w=.ok (.bool (!b)) w:=by
 have c:=h.run w e f b d
 rw[run_neq_struct]
 unfold Op.equal at c
 rw[show Op.maxDepth=10000 from rfl] at c
 rw[c]
 rfl
theorem EqN.exec_eql {k:TypeId} (h:EqN P k) {c:Operand→Value} {o:Oper} (e:o.op=.binOp .eql k x y ty2) {u v:Array Value} (i:c x=.agg u) (j:c y=.agg v) (f:∃l,keyOf P k (.agg u)=some l) (g:∃l,keyOf P k (.agg v)=some l) (b:Bool) (d:b=true↔u=v) (w:World):
  (execOp c o).run P w=.ok (.value (.bool b)) w:=by
 simp only[execOp,e,i,j,Sem.run_bind,run_eqGuard_agg w .eql k x y u v h.guard,Result.andThen_ok,h.eql w f g b d,Sem.run_pure]
theorem EqN.exec_neq {k:TypeId} (h:EqN P k) {c:Operand→Value} {o:Oper} (e:o.op=.binOp .neq k x y ty2) {u v:Array Value} (i:c x=.agg u) (j:c y=.agg v) (f:∃l,keyOf P k (.agg u)=some l) (g:∃l,keyOf P k (.agg v)=some l) (b:Bool) (d:b=true↔u=v) (w:World):
  (execOp c o).run P w=.ok (.value (.bool (!b))) w:=by
 simp only[execOp,e,i,j,Sem.run_bind,run_eqGuard_agg w .neq k x y u v h.guard,Result.andThen_ok,h.neq w f g b d,Sem.run_pure]
theorem zcu {k:TypeId} {c:List (TypeId×Nat×Bool)} (hsh:qG P k=c) (e:c≠[]) (h:c.all (·.2.2)=true) {cs:List Value} (i:P.cellsOf k=cs.length) (d:Nat)
  (j:∀x∈c,∃l,P.keyLits d x.1 ((cs.drop x.2.1).take (P.cellsOf x.1))=some l):∃l,P.keyLits (d+1) k cs=some l:=by
 unfold qG at hsh
 split at hsh
 ·rename_i fs hu
  subst hsh
  obtain⟨g,hys⟩:∃g,fs.toList.mapM (λf=>P.keyLits d f.type ((cs.drop f.offset).take (P.cellsOf f.type)))=some g:=
   mapM_some λf m=>j (f.type,f.offset,f.name != "_") (List.mem_map.2 ⟨f,m,rfl⟩)
  have b:fs.all (·.name != "_")=true:=by
   rw[←Array.all_toList]
   rw[List.all_map] at h
   exact h
  refine⟨g.flatten,?_⟩
  unfold Program.keyLits
  simp only[hu,i,b,and_self,if_true,hys]
  rfl
 ·exact absurd hsh.symm e
end
end Go
namespace Go.Proofs.YtdkkjchclkjleaaGreatDoor
open Go Go.RowKit Go.Maps Go.MapKept
open Go.Proofs.Tryz(prog)
open List(mem_map getElem?_eq_getElem mem_append mem_of_getElem? mem_cons length_append length_map take_add_one mem_singleton take_length map_append length_take nodup_cons map_cons length_cons take_of_length_le append_assoc nil_append size_toArray not_mem_nil length_nil)
open Nat(le_refl zero_le le_trans zero_add le_of_eq)
theorem zid {h:j4} (ok:vW h):vW (Yh h):=(((ok.add 128).adds).adds)
theorem zfs {h:j4} (ok:vW h):(zd2 h).length=32:=by unfold zd2;rw[zbC,(zid ok).st]
theorem zhi {w:World} (H:Ze w) (q:3<w.heap.size) {v:Value} {L:List (List Int)} (I:∀p,w.heap.size≤p→Zu w p v L) (G:L.length≤1000000) (V:L.flatten.length≤1000000000000):
  Calls prog 71 #[v] w λe w'=>e=.returned (.agg ((x9 L.flatten).map zN).toArray)∧Fr No w w':=by
 have u:=J H
 have d:=J q
 have R:=J I
 have T:=J G
 have S:=@J ((L.flatten.foldl xY Yg).n=L.flatten.length) (by rw[XE];exact zero_add _)
 have aa:∀w,(zeroValue 41).run prog w=.ok (.agg xz) w:=λw=>by kernel_rfl
 clear H q I G
 obtain⟨dh,Z,Y⟩:=zby
 go_enter Tryz.func71,Tryz.ntmps71
 have m:=@J (Fr No w (w.alloc (.cells xz 41))) ((frN w).alloc _)
 have B:=J (yj w (.cells xz 41))
 have a:=@J ((w.alloc (.cells xz 41)).heap.size=w.heap.size+1) (by simp)
 go_wp2_with (first|(go_at_call 122;refine(zjS (u.o.keep m.o id id)).mono ?_;rintro e z ⟨rfl,r⟩;generalize w.alloc (.cells xz 41)=l at*;have k:=@J (Fr No l z) (r▸(frN l).alloc _);have K:=@J (z.heap[l.heap.size]? =some (.cells (yV Yg).toArray 270 (0,0))) (r▸yj l _);have D:=@J (l.heap.size<z.heap.size) (by subst r;simp);clear r;generalize hp:l.heap.size=p at*)|(go_at_call 123;refine(ziL ((u.o.keep m.o id id).keep k.o id id) (by have:=a.o;have:=D.o;have:=d.o;omega) XU K.o ⟨by have:=a.o;have:=d.o;omega,by have:=a.o;have:=d.o;omega⟩ ((R.o p (by have:=a.o;omega)).keep (((m.o.trans0 k.o).of0 (W:=λj=>j=p)))) T.o (by show 0+_≤_;omega)).mono ?_;rintro e w3 ⟨rfl,o,E⟩;have M:=J o;have n:=J E;clear o E)|(go_at_call 124;refine(zkn (p:=p) (((u.o.keep m.o id id).keep k.o id id).keep n.o (by have:=a.o;have:=d.o;omega) (by have:=a.o;have:=d.o;omega)) (by have:=a.o;have:=D.o;have:=d.o;have:=n.o.size;omega) (XU.adds) M.o ⟨by have:=a.o;have:=d.o;omega,by have:=a.o;have:=d.o;omega⟩ (by rw[S.o];exact V)).mono ?_;rintro e g ⟨rfl,F⟩;have s:=J F;clear F;have f:=@J (((zd2 (L.flatten.foldl xY Yg)).map zN).length=32) (by rw[length_map];exact zfs XU.adds);have U:=@J (x9 L.flatten=zd2 (L.flatten.foldl xY Yg)) (rfl);generalize zd2 (L.flatten.foldl xY Yg)=c at*)|((with_reducible refine zv ?_);refine zi rfl (zj (w:=g) (ty:=41) (cs:=c.map zN) rfl rfl rfl (by rw[f.o];rfl) (by rw[f.o];exact qy) (λv y=>by obtain⟨x,-,rfl⟩:=mem_map.1 y;rfl)) ?_;have N:=J (yj g (.cells (c.map zN).toArray 41));have t:=@J (Fr No g (g.alloc (.cells (c.map zN).toArray 41))) ((frN g).alloc _);generalize g.alloc (.cells (c.map zN).toArray 41)=A at*;generalize X:g.heap.size=q5 at*)|((with_reducible refine yv 15 ?_);refine zg rfl (z7 (ty:=41) rfl rfl (vx N.o) Z Y (by rw[f.o];exact qy)) ?_)|(refine zi rfl (zK (ty:=41) (b:=w.heap.size) (off:=0) (cs:=c.map zN) rfl rfl rfl (by rw[f.o];exact zX (t.o.obj (s.o.obj (n.o.obj (k.o.obj B.o id) (by have:=a.o;omega)) id) id) (le_refl 32)) (by rw[f.o];exact qy) (λv y=>by obtain⟨x,-,rfl⟩:=mem_map.1 y;rfl)) ?_))
 have O:=@J (Fr No w A) ((((((m.o.trans0 k.o).trans n.o (λi h e=>(show False by have:=a.o;omega))).trans0 s.o).trans0 t.o)))
 have Q:=@J (A.heap[w.heap.size]? =some (.cells xz 41 (0,0))) (t.o.obj (s.o.obj (n.o.obj (k.o.obj B.o id) (by have:=a.o;omega)) id) id)
 have C:=xw w.heap.size 41 (c.map zN) 0 A xz Q.o
 have e:=jq (c.map zN) [] xz.toList [] (by rw[f.o];rfl)
 simp only[nil_append,List.append_nil,length_nil] at e
 rw[e] at C
 exact bodyPost_ret (v:=.agg (c.map zN).toArray) (results_cell_row (P:=prog) (fn:=Tryz.f71) rfl _ _ w.heap.size 41 (c.map zN).toArray (0,0) _ rfl C Tryz.underlying41 rfl (by rw[size_toArray,f.o];exact qy)) rfl ⟨by rw[U.o],O.o.trans (zu _ _ _ _) (λi hi e=>(show False by omega))⟩
end Go.Proofs.YtdkkjchclkjleaaGreatDoor
namespace Go
open Go.RowKit
theorem zn9 {ops:Array Oper} {Q:Exit→Act→World→Prop} {a:Act} {w:World} {rest:List Oper} {o:Oper} {cs:List Value} {m:Operand} {b i:Nat} (hg:o.guard=none) (ho:o.op=.load 108 m) (hm:a.eval m=.pointer (some ⟨b,i,none⟩)) (hc:w.rangeAt b i cs) (hl:cs.length=34) (h:wpList Go.Proofs.Tryz.prog ops Q rest (a.put o.dst (.agg cs.toArray)) w):wpList Go.Proofs.Tryz.prog ops Q (o::rest) a w:=
  have⟨_,u,r⟩:=jf (P:=Go.Proofs.Tryz.prog) (t:=108) (by kernel_rfl)
  zg hg (z7 ho hm hc u r (by rw[hl];kernel_rfl)) h
theorem zoa {ops:Array Oper} {Q:Exit→Act→World→Prop} {a:Act} {w:World} {rest:List Oper} {o:Oper} {cs:List Value} {m:Operand} {b i:Nat} (hg:o.guard=none) (ho:o.op=.load 34 m) (hm:a.eval m=.pointer (some ⟨b,i,none⟩)) (hc:w.rangeAt b i cs) (hl:cs.length=3) (h:wpList Go.Proofs.Tryz.prog ops Q rest (a.put o.dst (.agg cs.toArray)) w):wpList Go.Proofs.Tryz.prog ops Q (o::rest) a w:=
  have⟨_,u,r⟩:=jf (P:=Go.Proofs.Tryz.prog) (t:=34) (by kernel_rfl)
  zg hg (z7 ho hm hc u r (by rw[hl];kernel_rfl)) h
theorem zob {ops:Array Oper} {Q:Exit→Act→World→Prop} {a:Act} {w:World} {rest:List Oper} {o:Oper} {cs:List Value} {m:Operand} {b i:Nat} (hg:o.guard=none) (ho:o.op=.load 103 m) (hm:a.eval m=.pointer (some ⟨b,i,none⟩)) (hc:w.rangeAt b i cs) (hl:cs.length=33) (h:wpList Go.Proofs.Tryz.prog ops Q rest (a.put o.dst (.agg cs.toArray)) w):wpList Go.Proofs.Tryz.prog ops Q (o::rest) a w:=
  have⟨_,u,r⟩:=jf (P:=Go.Proofs.Tryz.prog) (t:=103) (by kernel_rfl)
  zg hg (z7 ho hm hc u r (by rw[hl];kernel_rfl)) h
theorem zoc {ops:Array Oper} {Q:Exit→Act→World→Prop} {a:Act} {w:World} {rest:List Oper} {o:Oper} {cs:List Value} {m:Operand} {b i:Nat} (hg:o.guard=none) (ho:o.op=.load 41 m) (hm:a.eval m=.pointer (some ⟨b,i,none⟩)) (hc:w.rangeAt b i cs) (hl:cs.length=32) (h:wpList Go.Proofs.Tryz.prog ops Q rest (a.put o.dst (.agg cs.toArray)) w):wpList Go.Proofs.Tryz.prog ops Q (o::rest) a w:=
  have⟨_,u,r⟩:=jf (P:=Go.Proofs.Tryz.prog) (t:=41) (by kernel_rfl)
  zg hg (z7 ho hm hc u r (by rw[hl];kernel_rfl)) h
theorem zod {ops:Array Oper} {Q:Exit→Act→World→Prop} {a:Act} {w:World} {rest:List Oper} {o:Oper} {cs:List Value} {m:Operand} {b i:Nat} (hg:o.guard=none) (ho:o.op=.load 95 m) (hm:a.eval m=.pointer (some ⟨b,i,none⟩)) (hc:w.rangeAt b i cs) (hl:cs.length=33) (h:wpList Go.Proofs.Tryz.prog ops Q rest (a.put o.dst (.agg cs.toArray)) w):wpList Go.Proofs.Tryz.prog ops Q (o::rest) a w:=
  have⟨_,u,r⟩:=jf (P:=Go.Proofs.Tryz.prog) (t:=95) (by kernel_rfl)
  zg hg (z7 ho hm hc u r (by rw[hl];kernel_rfl)) h
theorem zoe {ops:Array Oper} {Q:Exit→Act→World→Prop} {a:Act} {w:World} {rest:List Oper} {o:Oper} {cs:List Value} {m:Operand} {b i:Nat} (hg:o.guard=none) (ho:o.op=.load 55 m) (hm:a.eval m=.pointer (some ⟨b,i,none⟩)) (hc:w.rangeAt b i cs) (hl:cs.length=3) (h:wpList Go.Proofs.Tryz.prog ops Q rest (a.put o.dst (.agg cs.toArray)) w):wpList Go.Proofs.Tryz.prog ops Q (o::rest) a w:=
  have⟨_,u,r⟩:=jf (P:=Go.Proofs.Tryz.prog) (t:=55) (by kernel_rfl)
  zg hg (z7 ho hm hc u r (by rw[hl];kernel_rfl)) h
theorem zof {S:World→Prop} {a:Act} {dst:Option Tmp} {t0:TypeId} {pos:String} {after:Array Edge} {gd:Option (Nat×Bool)} {x:Operand} {cs:List Value} {b i:Nat} (hx:a.eval x=.pointer (some ⟨b,i,none⟩)) (hS:∀w,S w→w.rangeAt b i cs) (hl:cs.length=33):∀w,S w→(execOp a.eval {dst:=dst,op:=.load 95 x,type:=t0,pos:=pos,after:=after,guard:=gd}).run Go.Proofs.Tryz.prog w=.ok (.value (.agg cs.toArray)) w:=
  have⟨_,u,r⟩:=jf (P:=Go.Proofs.Tryz.prog) (t:=95) (by kernel_rfl)
  xB hx hS u r (by rw[hl];kernel_rfl)
theorem zog {S:World→Prop} {a:Act} {dst:Option Tmp} {t0:TypeId} {pos:String} {after:Array Edge} {gd:Option (Nat×Bool)} {x:Operand} {cs:List Value} {b i:Nat} (hx:a.eval x=.pointer (some ⟨b,i,none⟩)) (hS:∀w,S w→w.rangeAt b i cs) (hl:cs.length=32):∀w,S w→(execOp a.eval {dst:=dst,op:=.load 41 x,type:=t0,pos:=pos,after:=after,guard:=gd}).run Go.Proofs.Tryz.prog w=.ok (.value (.agg cs.toArray)) w:=
  have⟨_,u,r⟩:=jf (P:=Go.Proofs.Tryz.prog) (t:=41) (by kernel_rfl)
  xB hx hS u r (by rw[hl];kernel_rfl)
theorem zoh {S:World→Prop} {a:Act} {dst:Option Tmp} {t0:TypeId} {pos:String} {after:Array Edge} {gd:Option (Nat×Bool)} {x:Operand} {cs:List Value} {b i:Nat} (hx:a.eval x=.pointer (some ⟨b,i,none⟩)) (hS:∀w,S w→w.rangeAt b i cs) (hl:cs.length=3):∀w,S w→(execOp a.eval {dst:=dst,op:=.load 34 x,type:=t0,pos:=pos,after:=after,guard:=gd}).run Go.Proofs.Tryz.prog w=.ok (.value (.agg cs.toArray)) w:=
  have⟨_,u,r⟩:=jf (P:=Go.Proofs.Tryz.prog) (t:=34) (by kernel_rfl)
  xB hx hS u r (by rw[hl];kernel_rfl)
theorem zoi {S:World→Prop} {a:Act} {dst:Option Tmp} {t0:TypeId} {pos:String} {after:Array Edge} {gd:Option (Nat×Bool)} {x:Operand} {cs:List Value} {b i:Nat} (hx:a.eval x=.pointer (some ⟨b,i,none⟩)) (hS:∀w,S w→w.rangeAt b i cs) (hl:cs.length=33):∀w,S w→(execOp a.eval {dst:=dst,op:=.load 110 x,type:=t0,pos:=pos,after:=after,guard:=gd}).run Go.Proofs.Tryz.prog w=.ok (.value (.agg cs.toArray)) w:=
  have⟨_,u,r⟩:=jf (P:=Go.Proofs.Tryz.prog) (t:=110) (by kernel_rfl)
  xB hx hS u r (by rw[hl];kernel_rfl)
theorem zoj {ops:Array Oper} {Q:Exit→Act→World→Prop} {a:Act} {w:World} {rest:List Oper} {o:Oper} {cs:List Value} {m:Operand} {k:Operand} {Z:Array Value} {U:TypeId} (hg:o.guard=none) (ho:o.op=.store 108 m k) (hm:a.eval m=.pointer (some ⟨w.heap.size,0,none⟩)) (hk:a.eval k=.agg cs.toArray) (hz:cs.length=34) (h1:∀v∈cs,v.oneCell'=true) (h:wpList Go.Proofs.Tryz.prog ops Q rest (a.put o.dst undef) (w.alloc (.cells cs.toArray U))) (hZ:Z.size=34:=by rfl):wpList Go.Proofs.Tryz.prog ops Q (o::rest) a (w.alloc (.cells Z U)):=
  zi hg (zj ho hm hk (hZ.trans hz.symm) (by rw[hz];kernel_rfl) h1) h
theorem zok {ops:Array Oper} {Q:Exit→Act→World→Prop} {a:Act} {w:World} {rest:List Oper} {o:Oper} {cs:List Value} {m:Operand} {k:Operand} {Z:Array Value} {U:TypeId} (hg:o.guard=none) (ho:o.op=.store 103 m k) (hm:a.eval m=.pointer (some ⟨w.heap.size,0,none⟩)) (hk:a.eval k=.agg cs.toArray) (hz:cs.length=33) (h1:∀v∈cs,v.oneCell'=true) (h:wpList Go.Proofs.Tryz.prog ops Q rest (a.put o.dst undef) (w.alloc (.cells cs.toArray U))) (hZ:Z.size=33:=by rfl):wpList Go.Proofs.Tryz.prog ops Q (o::rest) a (w.alloc (.cells Z U)):=
  zi hg (zj ho hm hk (hZ.trans hz.symm) (by rw[hz];kernel_rfl) h1) h
theorem zol {ops:Array Oper} {Q:Exit→Act→World→Prop} {a:Act} {w:World} {rest:List Oper} {o:Oper} {cs:List Value} {m:Operand} {k:Operand} {Z:Array Value} {U:TypeId} (hg:o.guard=none) (ho:o.op=.store 41 m k) (hm:a.eval m=.pointer (some ⟨w.heap.size,0,none⟩)) (hk:a.eval k=.agg cs.toArray) (hz:cs.length=32) (h1:∀v∈cs,v.oneCell'=true) (h:wpList Go.Proofs.Tryz.prog ops Q rest (a.put o.dst undef) (w.alloc (.cells cs.toArray U))) (hZ:Z.size=32:=by rfl):wpList Go.Proofs.Tryz.prog ops Q (o::rest) a (w.alloc (.cells Z U)):=
  zi hg (zj ho hm hk (hZ.trans hz.symm) (by rw[hz];kernel_rfl) h1) h
theorem zom {ops:Array Oper} {Q:Exit→Act→World→Prop} {a:Act} {w:World} {rest:List Oper} {o:Oper} {cs:List Value} {m:Operand} {k:Operand} {Z:Array Value} {U:TypeId} (hg:o.guard=none) (ho:o.op=.store 95 m k) (hm:a.eval m=.pointer (some ⟨w.heap.size,0,none⟩)) (hk:a.eval k=.agg cs.toArray) (hz:cs.length=33) (h1:∀v∈cs,v.oneCell'=true) (h:wpList Go.Proofs.Tryz.prog ops Q rest (a.put o.dst undef) (w.alloc (.cells cs.toArray U))) (hZ:Z.size=33:=by rfl):wpList Go.Proofs.Tryz.prog ops Q (o::rest) a (w.alloc (.cells Z U)):=
  zi hg (zj ho hm hk (hZ.trans hz.symm) (by rw[hz];kernel_rfl) h1) h
end Go
namespace Go.Proofs.YtdkkjchclkjleaaGreatDoor
open Go Go.RowKit Go.Maps Go.MapKept
open Go.Proofs.Tryz(prog)
open List(mem_map getElem?_eq_getElem mem_append mem_of_getElem? mem_cons length_append length_map take_add_one mem_singleton take_length map_append length_take nodup_cons map_cons length_cons take_of_length_le append_assoc nil_append size_toArray not_mem_nil length_nil)
open Nat(le_refl zero_le le_trans zero_add le_of_eq)
variable {v:Value} {w:World}
theorem Xs:laidOutB prog=true:=by kernel_rfl
theorem zmg {x:Int} (h:0≤x∧x≤255):(Lit.int .u8 x).wf=true:=by
 simp[Lit.wf,IntKind.min,IntKind.max,IntKind.signed,IntKind.bits]
 omega
theorem znc {x:Int} (h:0≤x∧x≤4294967295):(Lit.int .u32 x).wf=true:=by
 simp[Lit.wf,IntKind.min,IntKind.max,IntKind.signed,IntKind.bits]
 omega
theorem zah:∀ {a b:List Int},a.map zN=b.map zN→a=b
 |[],[],_=>rfl
 |[],_::_,h=>by simp at h
 |_::_,[],h=>by simp at h
 |x::a,y::b,h=>by
  simp only[map_cons,List.cons.injEq,zN,Value.int.injEq,true_and] at h
  rw[h.1,zah h.2]
theorem zbQ {l:List Int} (h:zY l) (d:Nat):∃b,prog.keyLits (d+2) 41 (l.map zN)=some b:=
 Vt (show prog.underlying 41=some (.array 32 5) by kernel_rfl) (by kernel_rfl) (by kernel_rfl) (by kernel_rfl) d l h.1 (λx a=>zmg (h.2 x a))
def zn (p:zE):List Value:=p.tx.map zN++[.int .u32 p.n]
def Jb (p:zE):Value:=.agg (zn p).toArray
theorem z6 {p:zE} (h:p.ok):(zn p).length=33:=by simp[zn,h.1.1]
theorem zc9 {p:zE} (h:p.ok):(zn p)[32]? =some (.int .u32 p.n):=by
 unfold zn
 rw[List.getElem?_append_right (by simp[h.1.1]),length_map,h.1.1];rfl
theorem yK {p:zE}:∀v∈zn p,v.oneCell'=true:=by
 intro v a
 unfold zn at a
 simp only[mem_append,mem_map,mem_singleton] at a
 rcases a with⟨y,_,rfl⟩|rfl<;>rfl
theorem zb6 {a b:zE} (h:zn a=zn b):a=b:=by
 obtain⟨x,l⟩:=a
 obtain⟨y,m⟩:=b
 simp only[zn] at h
 obtain⟨d,c⟩:=List.append_inj' h rfl
 simp only[List.cons.injEq,Value.int.injEq,true_and,and_true] at c
 rw[zah d,c]
theorem vw {a b:zE} (h:Jb a=Jb b):a=b:=by
 unfold Jb at h
 injection h with h
 exact zb6 (by simpa using congrArg Array.toList h)
theorem ZL:qG prog 95=[(41,0,true),(31,32,true)]:=by kernel_rfl
theorem zb7 {p:zE} (h:p.ok) (d:Nat):∀x∈qG prog 95,∃l,prog.keyLits (d+2) x.1 (((zn p).drop x.2.1).take (prog.cellsOf x.1))=some l:=by
 rw[ZL]
 intro x a
 simp only[mem_cons,not_mem_nil,or_false] at a
 rcases a with rfl|rfl
 ·have e:((zn p).drop 0).take (prog.cellsOf 41)=p.tx.map zN:=by
   rw[show prog.cellsOf 41=32 by kernel_rfl]
   unfold zn
   rw[List.drop_zero,List.take_append_of_le_length (by simp[h.1.1]),take_of_length_le (by simp[h.1.1])]
  simp only[e]
  exact zbQ h.1 d
 ·have e:((zn p).drop 32).take (prog.cellsOf 31)=[.int .u32 p.n]:=by
   rw[show prog.cellsOf 31=1 by kernel_rfl]
   unfold zn
   rw[List.drop_append_of_le_length (by simp[h.1.1]),List.drop_of_length_le (by simp[h.1.1])];rfl
  simp only[e]
  exact⟨_,ZH (by kernel_rfl) _ (znc h.2)⟩
theorem qz {p:zE} (h:p.ok):∃l,keyOf prog 95 (Jb p)=some l:=by
 have a:prog.types.size=prog.types.size-2+2:=by kernel_rfl
 refine Zl ZL (by simp) (by decide) (by kernel_rfl) (cs:=zn p) (by rw[z6 h];kernel_rfl) ?_
 rw[a,←ZL]
 exact zb7 h _
theorem JA:EqN prog 95:=⟨Keyed.of_law (deep_law_laid Xs (m:=3) (by decide) (of_decide_eq_true (by kernel_rfl)) (by kernel_rfl) (by kernel_rfl)),⟨3,by decide,by kernel_rfl⟩,by kernel_rfl,by kernel_rfl⟩
theorem zhF:∃d,prog.underlying 95=some d∧d.isRow=true:=jf (by kernel_rfl)
theorem xK:(prog.info? 95).map (·.size)=some 33:=by kernel_rfl
def xN:zE:=⟨List.replicate 32 0,0⟩
theorem YA:prog.underlying 91=some (.slice 95):=by kernel_rfl
theorem QP:(prog.info? 95).map (λi=>(i.zero,i.size,i.bytes))=some (some (.agg (zn xN).toArray),33,36):=by kernel_rfl
theorem zaO:(prog.info? 95).map (λi=>(i.zero,i.size))=some (some (.agg (zn xN).toArray),33):=by kernel_rfl
def zJ (x:yI):List Value:=.int .u64 x.value::x.lock.map zN
def zdK (x:yI):Value:=.agg (zJ x).toArray
theorem yz {x:yI} (h:x.ok):(zJ x).length=33:=by simp[zJ,h.2.1]
theorem yf {x:yI}:∀v∈zJ x,v.oneCell'=true:=by
 intro v a
 unfold zJ at a
 simp only[mem_cons,mem_map] at a
 rcases a with rfl|⟨y,_,rfl⟩<;>rfl
theorem YJ:∃d,prog.underlying 103=some d∧d.isRow=true:=jf (by kernel_rfl)
theorem yG:(prog.info? 103).map (·.size)=some 33:=by kernel_rfl
def y6:yI:=⟨0,List.replicate 32 0⟩
theorem Zn:y6.ok:=⟨by decide,rfl,λx a=>by have:x=0:=List.eq_of_mem_replicate a;omega⟩
theorem zlW (w:World):(zeroValue 103).run prog w=.ok (zdK y6) w:=by kernel_rfl
theorem qN:prog.underlying 22=some (.slice 103):=by kernel_rfl
theorem JD:(prog.info? 103).map (λi=>(i.zero,i.size,i.bytes))=some (some (.agg (zJ y6).toArray),33,40):=by kernel_rfl
theorem Jp:(prog.info? 103).map (λi=>(i.zero,i.size))=some (some (.agg (zJ y6).toArray),33):=by kernel_rfl
def yW (c:zr):List Value:=zn c.at_++zJ c.out
theorem jT {c:zr} (h:c.ok):(yW c).length=66:=by simp[yW,z6 h.1,yz h.2]
theorem Zo {c:zr}:∀v∈yW c,v.oneCell'=true:=by
 intro v a
 rcases mem_append.1 a with h|h
 ·exact yK v h
 ·exact yf v h
theorem zdu {b o:Nat} {c:zr} (h:w.rangeAt b o (yW c)):w.rangeAt b o (zn c.at_):=λj v a=>h j v (by
 unfold yW
 rw[List.getElem?_append_left (List.getElem?_eq_some_iff.1 a).1]
 exact a)
theorem zjf {b o:Nat} {c:zr} (a:c.ok) (h:w.rangeAt b o (yW c)):w.rangeAt b (o+33) (zJ c.out):=λj v d=>by
 have:=h (33+j) v (by
  unfold yW
  rw[List.getElem?_append_right (by rw[z6 a.1];omega),z6 a.1]
  rw[show 33+j-33=j by omega]
  exact d)
 rw[Nat.add_assoc]
 exact this
theorem zbx:∃d,prog.underlying 214=some d∧d.isRow=true:=jf (by kernel_rfl)
theorem JZ:(prog.info? 214).map (·.size)=some 66:=by kernel_rfl
def zcF:zr:=⟨xN,y6⟩
theorem zcp (w:World):(zeroValue 214).run prog w=.ok (.agg (yW zcF).toArray) w:=by kernel_rfl
theorem vR (w:World):(zeroValue 95).run prog w=.ok (.agg (zn xN).toArray) w:=by kernel_rfl
theorem y9 (w:World):(zeroValue 103).run prog w=.ok (.agg (zJ y6).toArray) w:=by kernel_rfl
theorem VY:prog.underlying 145=some (.slice 214):=by kernel_rfl
theorem zaq:(prog.info? 214).map (λi=>(i.zero,i.size,i.bytes))=some (some (.agg (yW zcF).toArray),66,80):=by kernel_rfl
theorem zgc:(prog.info? 214).map (λi=>(i.zero,i.size))=some (some (.agg (yW zcF).toArray),66):=by kernel_rfl
def qY (w:World) (v:Value) (l:List zr):Prop:=(∀c∈l,c.ok)∧xG w v l.length (l.flatMap yW)
theorem qY.keep {w w':World} {l:List zr} (h:qY w v l) (f:Fr No w w'):qY w' v l:=⟨h.1,h.2.keep f⟩
theorem qY.at_ {l:List zr} (h:qY w v l) {i:Nat} {c:zr} (d:l[i]? =some c):∃b off a,v=.slice (some ⟨b,off,none⟩) l.length a∧w.rangeAt b (off+i*66) (yW c)∧b<w.heap.size:=
 h.2.elem (by decide) (λx d=>jT (h.1 x d)) d
def xL (w:World) (v:Value) (l:List zE):Prop:=(∀p∈l,p.ok)∧xG w v l.length (l.flatMap zn)
theorem xL.keep {w w':World} {l:List zE} (h:xL w v l) (f:Fr No w w'):xL w' v l:=⟨h.1,h.2.keep f⟩
theorem xL.at_ {l:List zE} (h:xL w v l) {i:Nat} {p:zE} (c:l[i]? =some p):∃b off a,v=.slice (some ⟨b,off,none⟩) l.length a∧w.rangeAt b (off+i*33) (zn p)∧b<w.heap.size:=
 h.2.elem (by decide) (λx c=>z6 (h.1 x c)) c
theorem ZP:prog.underlying 233=some (.map 95 103):=by kernel_rfl
theorem YW:prog.underlying 159=some (.map 95 3):=by kernel_rfl
theorem YB (w:World):(zeroValue 3).run prog w=.ok (.int .i64 0) w:=by kernel_rfl
end Go.Proofs.YtdkkjchclkjleaaGreatDoor
namespace Go
open Go.MapKept Go.RowKit Go.Maps
def j7 (P:Program) (kt:TypeId) (w:World) (r b:Nat) (L R:List (Value×Value)):Prop:=
 ∃es clk seen,w.heap[b]? =some (.map es clk)∧Stamped es clk∧es.size≤maxLen∧kv es=L∧(∀e∈es.toList,∃l,keyOf P kt e.key=some l)∧r≠b∧
  w.heap[r]? =some (.mapIter (some b) clk seen clk)∧(es.toList.filter λe=> !seen.contains e.born).map (λe=>(e.key,e.val))=R
section
variable {P:Program} {kt et t:TypeId} {w:World} {r b:Nat} {L R:List (Value×Value)}
theorem j7.map (h:j7 P kt w r b L R):xh P kt w b L:=by
 obtain⟨es,c,seen,d,e,f,g,i,_⟩:=h
 exact⟨es,c,d,e,f,g,i⟩
theorem j7.keep {w':World} {W:Nat→Prop} (h:j7 P kt w r b L R) (f:Fr W w w') (n:¬W b) (p:¬W r):j7 P kt w' r b L R:=by
 obtain⟨es,c,seen,d,e,g,i,j,k,l,m⟩:=h
 exact⟨es,c,seen,f.obj d n,e,g,i,j,k,f.obj l p,m⟩
theorem xh.range (j:P.underlying t=some (.map kt et)) (h:xh P kt w b L):
  ∃c,(Instr.range t (.map (some b))).run P w=.ok (.pointer (some ⟨w.heap.size,0,none⟩)) (w.alloc (.mapIter (some b) c #[] c))∧j7 P kt (w.alloc (.mapIter (some b) c #[] c)) w.heap.size b L L:=by
 have f:=h.lt
 obtain⟨es,c,d,i,g,rfl,e⟩:=h
 refine⟨c,?_,es,c,#[],JE d _,i,g,rfl,e,by omega,yj w _,?_⟩
 ·simp[Instr.range,run_underlying j,MapKept.run_getObj_map d,Result.andThen,newObj,Sem.run]
 ·rw[List.filter_eq_self.2 (by simp)];rfl
theorem j7.nextNone (h:j7 P kt w r b L []) (ty:TypeId):(Instr.next (.pointer (some ⟨r,0,none⟩)) false ty).run P w=.ok (.tuple #[.bool false]) w:=by
 obtain⟨es,c,seen,g,l,p,m,n,j,k,f⟩:=h
 rcases run_next_at (P:=P) w ty r b c c seen es c k g l.1 (Nat.le_refl _) with⟨_,h⟩|⟨e,i,_⟩
 ·exact h
 ·have d:e∈es.toList.filter λe=> !seen.contains e.born:=by simpa[leftOf] using i
  have:(e.key,e.val)∈(es.toList.filter λe=> !seen.contains e.born).map (λe=>(e.key,e.val)):=List.mem_map.2 ⟨e,d,rfl⟩
  rw[f] at this
  cases this
theorem j7.nextSome (h:j7 P kt w r b L R) (F:R≠[]) (ty:TypeId):
  ∃G p H w',R=G++p::H∧(Instr.next (.pointer (some ⟨r,0,none⟩)) false ty).run P w=.ok (.tuple #[.bool true,p.1,p.2]) w'∧j7 P kt w' r b L (G++H)∧Fr (· =r) w w'∧
   ∀d,d.heap[r]? =w'.heap[r]? →d.heap[b]? =w'.heap[b]? →(Instr.entry (.pointer (some ⟨r,0,none⟩))).run P d=.ok (.tuple #[p.1,p.2]) d:=by
 obtain⟨es,c,seen,M,v,V,T,E,m,N,D⟩:=h
 rcases run_next_at (P:=P) w ty r b c c seen es c N M v.1 (Nat.le_refl _) with⟨S,_⟩|⟨e,U,y,s,q⟩
 ·have z:(leftOf es seen).toList=[]:=by simpa using S
  have C:es.toList.filter (λe=> !seen.contains e.born)=[]:=by simpa[leftOf] using z
  rw[C] at D
  exact absurd D.symm F
 ·have i:e∈es.toList.filter λe=> !seen.contains e.born:=by simpa[leftOf] using U
  have j:e∈es.toList:=(List.mem_filter.1 i).1
  obtain⟨A,B,f⟩:=List.append_of_mem i
  have l:((A++e::B).map (·.born)).Nodup:=by rw[←f];exact v.2.1.sublist (List.filter_sublist.map _)
  simp only[List.map_append,List.map_cons] at l
  obtain⟨Z,W,X⟩:=List.nodup_append.1 l
  obtain⟨Y,n5⟩:=List.nodup_cons.1 W
  have g:y.heap=w.heap:=by rcases s with rfl|rfl<;>rfl
  have Q:Fr (· =r) w y:=by
   rcases s with rfl|rfl
   ·exact Fr.refl _ _
   ·exact(Fr.refl _ _).drew
  have n:=yF N
  have I:(ChangeMaps.setBlock y r (.mapIter (some b) c (seen.push e.born) c)).heap[r]? =some (.mapIter (some b) c (seen.push e.born) c):=by
   simp[ChangeMaps.setBlock,g,n]
  have K:(ChangeMaps.setBlock y r (.mapIter (some b) c (seen.push e.born) c)).heap[b]? =some (.map es c):=by
   simp only[ChangeMaps.setBlock,g]
   rw[Array.getElem?_setIfInBounds_ne m]
   exact M
  refine⟨A.map (λe=>(e.key,e.val)),(e.key,e.val),B.map (λe=>(e.key,e.val)),_,by rw[←D,f];simp,q,⟨es,c,seen.push e.born,K,v,V,T,E,m,I,?_⟩,?_,?_⟩
  ·have O:(es.toList.filter λx=> !(seen.push e.born).contains x.born)=(es.toList.filter λx=> !seen.contains x.born).filter λx=>decide (x.born≠e.born):=by
    rw[List.filter_filter]
    apply List.filter_congr
    intro x _
    by_cases u:x.born=e.born<;>simp[u]
   rw[O,f,List.filter_append,List.filter_cons,if_neg (by simp),List.filter_eq_self.2,List.filter_eq_self.2,List.map_append]
   ·intro x u;simp only[decide_eq_true_eq];exact λh=>Y (h▸List.mem_map.2 ⟨x,u,rfl⟩)
   ·intro x u;simp only[decide_eq_true_eq];exact λh=>X x.born (List.mem_map.2 ⟨x,u,rfl⟩) e.born (by simp) h
  ·refine Q.trans ⟨rfl,rfl,rfl,by simp[ChangeMaps.setBlock],λk _ E=>?_⟩ (λ_ _ h=>h)
   simp only[ChangeMaps.setBlock]
   rw[Array.getElem?_setIfInBounds_ne (Ne.symm E)]
  ·intro d z C
   exact run_entry_at d r b c seen es c e (z.trans I) (C.trans K) j v.2.1
end
section
variable {P:Program} {o:Oper} {a:Act} {w w':World} {ops:Array Oper} {rest:List Oper}
theorem jY {Q:Exit→Act→World→Prop} {x:Operand} {t:TypeId} {e v:Value} (g:o.guard=none) (d:o.op=.range t x) (i:a.eval x=e)
  (c:(Instr.range t e).run P w=.ok v w') (h:wpList P ops Q rest (a.put o.dst v) w'):wpList P ops Q (o::rest) a w:=by
 refine wpList_plain g λK' hK'=>?_
 unfold Oper.wp
 have f:(execOp a.eval o).run P w=.ok (.value v) w':=by simp[execOp,d,i,c,Result.andThen]
 rw[f]
 exact hK' _ _ h
theorem xF {Q:Exit→Act→World→Prop} {x:Operand} {s:Bool} {e v:Value} (g:o.guard=none) (d:o.op=.next x s) (i:a.eval x=e)
  (c:(Instr.next e s o.type).run P w=.ok v w') (h:wpList P ops Q rest (a.put o.dst v) w'):wpList P ops Q (o::rest) a w:=by
 refine wpList_plain g λK' hK'=>?_
 unfold Oper.wp
 have f:(execOp a.eval o).run P w=.ok (.value v) w':=by simp[execOp,d,i,c,Result.andThen]
 rw[f]
 exact hK' _ _ h
theorem vP {Q:Exit→Act→World→Prop} {x:Operand} {e v:Value} (g:o.guard=none) (d:o.op=.entry x) (i:a.eval x=e)
  (c:(Instr.entry e).run P w=.ok v w') (h:wpList P ops Q rest (a.put o.dst v) w'):wpList P ops Q (o::rest) a w:=by
 refine wpList_plain g λK' hK'=>?_
 unfold Oper.wp
 have f:(execOp a.eval o).run P w=.ok (.value v) w':=by simp[execOp,d,i,c,Result.andThen]
 rw[f]
 exact hK' _ _ h
end
end Go
namespace Go.Proofs.YtdkkjchclkjleaaGreatDoor
open Go Go.RowKit Go.Maps Go.MapKept
open Go.Proofs.Tryz(prog)
open List(mem_map getElem?_eq_getElem mem_append mem_of_getElem? mem_cons length_append length_map take_add_one mem_singleton take_length map_append length_take nodup_cons map_cons length_cons take_of_length_le append_assoc nil_append size_toArray not_mem_nil length_nil)
open Nat(le_refl zero_le le_trans zero_add le_of_eq)
variable {v:Value}
theorem VT {α:Type}:∀ {A B:List α},A.Nodup→(∀x∈A,x∈B)→A.length≤B.length∧(A.length=B.length→A.Perm B)
 |[],B,_,_=>⟨zero_le _,λh=>by rw[List.eq_nil_of_length_eq_zero h.symm]⟩
 |a::A,B,hn,hs=>by
  obtain⟨c,d,rfl⟩:=List.append_of_mem (hs a (by simp))
  obtain⟨e,f⟩:=nodup_cons.1 hn
  obtain⟨i,g⟩:=VT (A:=A) (B:=c++d) f (λx b=>by
   have:=hs x (by simp[b])
   simp only[mem_append,mem_cons] at this⊢
   rcases this with h|rfl|h
   ·exact .inl h
   ·exact absurd b e
   ·exact .inr h)
  simp only[length_append,length_cons] at*
  refine⟨by omega,λh=>?_⟩
  exact(List.Perm.cons a (g (by omega))).trans List.perm_middle.symm
theorem zas {α:Type} {A B:List α} (b:A.Nodup) (h:∀x,x∈A↔x∈B):A.length=B.length↔B.Nodup:=by
 constructor
 ·intro e
  exact((VT b (λx a=>(h x).1 a)).2 e).nodup_iff.1 b
 ·intro c
  exact Nat.le_antisymm (VT b (λx a=>(h x).1 a)).1 (VT c (λx a=>(h x).2 a)).1
abbrev Jc (w:World) (m:Nat) (M:List (zE×yI)):Prop:=yD prog 95 Jb zdK w m M
structure CS (w0 w:World) (p:Nat) (V:Nat→Prop) (S:List zr):Prop where
 ex:∃m M,w.heap[p]? =some (.cells #[.map (some m)] 235 (0,0))∧Jc w m M∧(∀k v,(k,v)∈M↔(⟨k,v⟩:zr)∈S)∧p≠m∧V=λj=>j=p∨j=m
 srt:qU S
 ok:∀c∈S,c.ok
 lo:∀j,V j→w0.heap.size≤j
 fr:Fr No w0 w
section
variable {w0 w:World} {p:Nat} {V:Nat→Prop} {S:List zr}
theorem CS.hi (h:CS w0 w p V S):∀j,V j→j<w.heap.size:=by
 obtain⟨m,M,a,b,-,-,rfl⟩:=h.ex
 rintro j (rfl|rfl)
 ·exact yF a
 ·exact b.lt
theorem CS.frV {w':World} (h:CS w0 w p V S) {U:Nat→Prop} (f:Fr U w w') (b:∀j,V j→¬U j) (c:∀j,U j→w0.heap.size≤j):CS w0 w' p V S:=by
 obtain⟨m,M,d,g,k,a,rfl⟩:=h.ex
 exact {h with
  ex:=⟨m,M,f.obj d (b p (.inl rfl)),g.keep f (b m (.inr rfl)),k,a,rfl⟩
  fr:=h.fr.trans f (λi hi e=>by have:=c i e;omega)}
theorem CS.fr0 {w':World} (h:CS w0 w p V S) (f:Fr No w w'):CS w0 w' p V S:=h.frV f (λ_ _=>id) (λ_ h=>h.elim)
omit w0 w p V S in
theorem zc5 {w:World} {m:Nat} {M:List (zE×yI)} {S:List zr} (f:Jc w m M) (g:∀k v,(k,v)∈M↔(⟨k,v⟩:zr)∈S) (a:qU S):M.length=S.length:=by
 have b:(M.map λx=>(⟨x.1,x.2⟩:zr)).Nodup:=by
  have:=f.nodup
  unfold List.Nodup at*
  rw[List.pairwise_map] at*
  exact this.imp (λh e=>h (by injection e))
 have c:S.Nodup:=by
  have:=a.nodup
  unfold List.Nodup at*
  rw[List.pairwise_map] at this
  exact this.imp (λh e=>h (by rw[e]))
 have d:=(List.perm_ext_iff_of_nodup b c).2 (λx=>by
  rw[←show(⟨x.at_,x.out⟩:zr)=x from rfl,←g]
  constructor
  ·intro h
   obtain⟨y,i,e⟩:=mem_map.1 h
   injection e with e1 e2
   rw[←e1,←e2]
   exact i
  ·intro h
   exact mem_map.2 ⟨_,h,rfl⟩)
 rw[←d.length_eq,length_map]
omit w0 w p V S in
theorem zgq (w:World):(Instr.makeMap 233 none).run prog w=.ok (.map (some w.heap.size)) (w.alloc (.map #[] 0)):=by kernel_rfl
omit w0 w p V S in
theorem zlc (w:World):∃a,a=(w.alloc (.map #[] 0)).alloc (.cells #[.map (some w.heap.size)] 235)∧Fr No w a∧Jc a w.heap.size []∧a.heap[w.heap.size+1]? =some (.cells #[.map (some w.heap.size)] 235 (0,0)):=by
 refine⟨_,rfl,((frN w).alloc _).alloc _,(yD.made w).keep (W:=No) ((Fr.refl _ _).alloc _) id,?_⟩
 exact yJ (w.alloc (.map #[] 0)) (.cells #[.map (some w.heap.size)] 235) (n:=w.heap.size+1) (by simp)
omit w0 w p V S in
def zmn (w:World) (l:List zr) (e:Ending) (w':World):Prop:=∃M,e=.returned (if(l.map (·.at_)).Nodup then .tuple #[.pointer (some ⟨w.heap.size+1,0,none⟩),.int .i64 0] else .tuple #[.pointer none,.int .i64 12])∧Jc w' w.heap.size M∧w'.heap[w.heap.size+1]? =some (.cells #[.map (some w.heap.size)] 235 (0,0))∧Fr No w w'∧((l.map (·.at_)).Nodup→∀k v,(k,v)∈M↔(⟨k,v⟩:zr)∈l)
omit w0 w p V S in
theorem zg8 (w:World) {l:List zr} (hl:qY w v l) (hN:l.length≤100000):
  Calls prog 69 #[v] w (zmn w l):=by
 obtain⟨dC,uC,rC⟩:=zbx
 obtain⟨dO,uO,rO⟩:=YJ
 obtain⟨va,vc,rfl⟩:=hl.2.form
 have HL:=J hl
 obtain⟨w1,R,f1,I,F⟩:=zlc w
 have F1:=J f1
 have A:=J I
 have u:=J F
 have m1:=zgq
 clear hl f1 I F
 go_enter Tryz.func69,Tryz.ntmps69
 go_wp2_with fail
 rw[←R]
 clear R m1
 generalize N:w.heap.size=q at*
 go_loopw [12] (λiv wr=>∃(n:Nat) (M:List (zE×yI)),iv=.int .i64 n∧n≤l.length∧Jc wr q M∧wr.heap[q+1]? =some (.cells #[.map (some q)] 235 (0,0))∧(∀k v,(k,v)∈M→(⟨k,v⟩:zr)∈l.take n)∧(∀c∈l.take n,∃v,(c.at_,v)∈M)∧M.length≤n∧Fr No w wr) (λiv _=>l.length-(intOf iv).toNat)
 case atStart=>exact⟨0,[],rfl,zero_le _,A.o,u.o,by simp,by simp,le_refl _,F1.o⟩
 case round=>
  obtain⟨n,M,rfl,hn,hm,m,h1,h2,ad,fr⟩:=hrel
  have r:=J hm
  have HB:=J m
  have T:=J fr
  have H1:=J h1
  have H2:=J h2
  clear h1 h2 fr hm
  by_cases h:n<l.length
  ·have i1:(n:Int)<(l.length:Int):=by omega
   obtain⟨c,hx⟩:∃c,l[n]? =some c:=⟨_,getElem?_eq_getElem h⟩
   obtain⟨b,off,ab,P,hr,-⟩:=(HL.o.keep T.o).at_ hx
   cases P
   have f:=J (HL.o.1 c (mem_of_getElem? hx))
   have W:=J (jT f.o)
   have PL:=J (z6 f.o.1)
   have OL:=J (yz f.o.2)
   have R1:=J hr
   have nb:=zy wr (yW c) 214
   have RP:=J (zdu nb)
   have RO:=@J ((wr.alloc (.cells (yW c).toArray 214)).rangeAt wr.heap.size 33 (zJ c.out)) (by have:=zjf f.o nb;rwa [zero_add] at this)
   have zc:=zcp
   have E:l.take (n+1)=l.take n++[c]:=by rw[take_add_one,hx];rfl
   have U:=(frN wr).alloc (.cells (yW c).toArray 214)
   have FA:=J (T.o.trans0 U)
   have o:=U.obj m id
   have cA:(wr.alloc (.cells (yW c).toArray 214)).cell? ⟨q+1,0,none⟩=some (.map (some q)):=(zaV o).1
   have CA:=J cA
   have ae:q<wr.heap.size:=r.o.lt
   obtain⟨w3,M',O,D,hU,s,H⟩:=((r.o.keep U id).keep (frN _).drew id).upd JA.keyed ZP (λ_ _=>vw) (qz f.o.1) (by unfold maxLen;omega) c.out
   have C:=s.fr
   have HR:=J O
   have Y:=J D
   have z:=J (C.obj (show(wr.alloc (.cells (yW c).toArray 214)).drew.heap[q+1]? =_ from o) (λe=>by omega))
   have S3:=@J (w3.cell? ⟨q+1,0,none⟩=some (.map (some q))∧w3.rangeAt wr.heap.size 0 (zn c.at_)∧w3.rangeAt wr.heap.size 33 (zJ c.out)) (⟨(zaV z.o).1,za (za RP.o (frN _).drew id) C (λe=>by omega),za (za RO.o (frN _).drew id) C (λe=>by omega)⟩)
   have F3:=J (FA.o.drew.trans C (λi hi e=>by omega))
   have Z:=J hU
   have X:=J H
   clear hr nb cA O D hU s H C U m o
   go_wp2_with (first|(refine zg rfl (z7 (ty:=214) rfl rfl R1.o uC rC (by rw[W.o];exact JZ)) ?_)|(refine zi rfl (zj (w:=wr) (ty:=214) rfl rfl rfl (by rw[W.o];rfl) (by rw[W.o];exact JZ) Zo) ?_))
   refine wrLx [ff,ff,ff,ff,ff,ff,ff,ff,tt] (λw'=>w'.cell? ⟨q+1,0,none⟩=some (.map (some q))∧w'.rangeAt wr.heap.size 0 (zn c.at_)∧w'.rangeAt wr.heap.size 33 (zJ c.out)) ?_ (λK hK=>?_)
   ·exact⟨CA.o,za RP.o (frN _).drew id,za RO.o (frN _).drew id⟩
   repeat((first|(refine zl rfl ?_;constructor;constructor;(focus(first|exact zof rfl (λw h=>h.2.1) PL.o|exact xB (ty:=103) rfl (λw h=>h.2.2) uO rO (by rw[OL.o];exact yG)|(rintro w' ⟨s1,s2,s3⟩;exact goS))))|(refine zm rfl ?_));try simp only[Act.put,pA,pB,pC])
   (refine zF rfl (λK' hK'=>?_))
   refine yN (y4 rfl rfl rfl rfl HR.o) ?_
   refine nXt hK' ?_ λhS=>?_
   ·exact S3.o
   refine zL (hK.out _ _ ?_)
   go_wp2
   go_roundw
   case rel=>
    refine⟨n+1,M',by simp,by omega,Y.o,z.o,?_,?_,by have:=X.o;omega,F3.o⟩
    ·intro k v aa
     rw[E]
     rcases(Z.o k v).1 aa with⟨rfl,rfl⟩|⟨_,h⟩
     ·simp
     ·exact mem_append.2 (.inl (H1.o k v h))
    ·intro c' G
     rw[E] at G
     by_cases e:c'.at_=c.at_
     ·exact⟨c.out,by rw[e];exact(Z.o _ _).2 (.inl ⟨rfl,rfl⟩)⟩
     ·rcases mem_append.1 G with h|h
      ·obtain⟨v,P⟩:=H2.o c' h
       exact⟨v,(Z.o _ _).2 (.inr ⟨e,P⟩)⟩
      ·rw[mem_singleton.1 h] at e;exact absurd rfl e
   case measure=>show l.length-(n+1)<l.length-n;omega
  ·have i1:¬(n:Int)<(l.length:Int):=by omega
   have s:l.take n=l:=by rw[show n=l.length by omega,take_length]
   have j:=@J (∀k v,(k,v)∈M→(⟨k,v⟩:zr)∈l) (by have:=H1.o;rwa [s] at this)
   have t:=@J (∀c∈l,∃v,(c.at_,v)∈M) (by have:=H2.o;rwa [s] at this)
   have g:∀x,x∈M.map (·.1)↔x∈l.map (·.at_):=by
    intro x
    constructor
    ·intro h
     obtain⟨y,hy,rfl⟩:=mem_map.1 h
     exact mem_map.2 ⟨_,j.o y.1 y.2 hy,rfl⟩
    ·intro h
     obtain⟨c,hc,rfl⟩:=mem_map.1 h
     obtain⟨v,P⟩:=t.o c hc
     exact mem_map.2 ⟨_,P,rfl⟩
   have d:=zas r.o.nodup g
   rw[length_map,length_map] at d
   have c0:wr.cell? ⟨q+1,0,none⟩=some (.map (some q)):=(zaV m).1
   have LR:=J (λty=>r.o.lenRun ZP ty)
   clear s g A u F1 m
   by_cases hnd:(l.map (·.at_)).Nodup
   ·have j1:(M.length:Int)=(l.length:Int):=by have:=d.2 hnd;omega
    have B:=J hnd
    clear d hnd
    go_wp2_with (refine zg rfl (jj rfl rfl (LR.o _)) ?_)
    go_ret2
    refine⟨M,by rw[if_pos B.o,N];rfl,by rw[N];exact r.o,by rw[N];exact HB.o,T.o,λ_ k v=>⟨j.o k v,λh=>?_⟩⟩
    obtain⟨v',Q⟩:=t.o _ h
    have h':=j.o _ _ Q
    have:∀ {L:List zr},(L.map (·.at_)).Nodup→∀a∈L,∀b∈L,a.at_=b.at_→a=b:=by
     intro L
     induction L with
     |nil=>intro _ a ha;cases ha
     |cons x L ih=>
      intro hn a ha b m e
      obtain⟨n1,n2⟩:=nodup_cons.1 hn
      rcases mem_cons.1 ha with rfl|ha'<;>rcases mem_cons.1 m with rfl|hb'
      ·rfl
      ·exact absurd (mem_map.2 ⟨b,hb',e.symm⟩) n1
      ·exact absurd (mem_map.2 ⟨a,ha',e⟩) n1
      ·exact ih n2 a ha' b hb' e
    have:=this B.o _ h' _ h rfl
    injection this with _ e
    rw[←e]
    exact Q
   ·have j1:¬(M.length:Int)=(l.length:Int):=λe=>hnd (d.1 (by omega))
    have B:=J hnd
    clear d hnd
    go_wp2_with (refine zg rfl (jj rfl rfl (LR.o _)) ?_)
    go_ret2
    exact⟨M,by rw[if_neg B.o];rfl,by rw[N];exact r.o,by rw[N];exact HB.o,T.o,λh=>absurd h B.o⟩
end
theorem yA:(zJ y6).toArray.size=33:=by rw[size_toArray,yz Zn]
theorem zl7 (w0 w:World) (f:Fr No w0 w) {l:List zr} (b:qY w v l) (d:l.length≤100000) (a:(l.map (·.at_)).Nodup):
  Calls prog 69 #[v] w λe w'=>∃p,e=.returned (.tuple #[.pointer (some ⟨p,0,none⟩),.int .i64 0])∧∃V,CS w0 w' p V (jV [] l)∧Fr No w w'∧(∀k,V k→w.heap.size≤k):=by
 refine(zg8 w b d).mono ?_
 rintro e w' ⟨M,rfl,m,g,fr,n⟩
 refine⟨w.heap.size+1,by rw[if_pos a],λj=>j=w.heap.size+1∨j=w.heap.size,⟨⟨_,M,g,m,λk v=>?_,by omega,rfl⟩,J4 List.Pairwise.nil a (λ_ _=>rfl),λc i=>?_,?_,f.trans0 fr⟩,fr,?_⟩
 ·rw[n a,qL];simp
 ·rcases qL.1 i with h|h
  ·cases h
  ·exact b.1 c h
 ·have:=f.size;rintro j (rfl|rfl)<;>omega
 ·rintro j (rfl|rfl)<;>omega
theorem zh6 (w:World) {l:List zr} (c:qY w v l) (b:l.length≤100000) (a:¬(l.map (·.at_)).Nodup):
  Calls prog 69 #[v] w λe w'=>e=.returned (.tuple #[.pointer none,.int .i64 12])∧Fr No w w':=by
 refine(zg8 w c b).mono ?_
 rintro e w' ⟨M,rfl,-,-,fr,-⟩
 exact⟨by rw[if_neg a],fr⟩
theorem zjz {S:List zr} (h:qU S) {q:zE} {v:yI}:Y2 S q=some v↔(⟨q,v⟩:zr)∈S:=by
 constructor
 ·intro e
  cases hh:xJ S q with
  |false=>rw[zf6 hh] at e;cases e
  |true=>
   obtain⟨c,a,rfl⟩:=JY.1 hh
   rw[YK h a] at e
   injection e with e
   rw[←e]
   exact a
 ·intro b
  exact YK (c:=⟨q,v⟩) h b
def yl (S:List zr) (q:zE):yI:=(Y2 S q).getD y6
theorem vI {S:List zr} (ok:∀c∈S,c.ok) (q:zE):(yl S q).ok:=by
 unfold yl Y2
 cases e:S.find? λc=>decide (c.at_=q) with
 |none=>exact Zn
 |some c=>exact(ok c (List.mem_of_find?_eq_some e)).2
section
variable {w0 w:World} {p:Nat} {V:Nat→Prop} {S:List zr}
theorem zdH {m:Nat} {M:List (zE×yI)} (d:∀k v,(k,v)∈M↔(⟨k,v⟩:zr)∈S) (a:qU S) {q:zE} (c:q.ok) (b:Jc w m M):
  (Instr.lookup 233 (.map (some m)) (Jb q) true).run prog w=.ok (.tuple #[.agg (zJ (yl S q)).toArray,.bool (xJ S q)]) w:=by
 have h:=b.look JA.keyed ZP (λ_ _=>vw) zlW (qz c) true (r:=Y2 S q) (λv=>by rw[d,zjz a])
 rw[h,zdC]
 have:((Y2 S q).map zdK).getD (zdK y6)=zdK (yl S q):=by
  unfold yl
  cases Y2 S q<;>rfl
 simp only[if_true,this]
 rfl
theorem zf8 (h:CS w0 w p V S) {q:zE} (v:q.ok):Calls prog 157 #[.pointer (some ⟨p,0,none⟩),.agg (zn q).toArray] w λe w'=>e=.returned (.tuple #[.agg (zJ (yl S q)).toArray,.bool (xJ S q)])∧Fr No w w':=by
 obtain⟨G,F,E⟩:=YJ
 obtain⟨m,M,s,u,x,r,rfl⟩:=h.ex
 have c:=J (λw' (h':Jc w' m M)=>zdH (w:=w') x h.srt v h')
 have o:=J (vI h.ok q)
 have d:=J (yz o.o)
 have A:=J (z6 v)
 have N:=y9
 have l:Fr No w ((w.alloc (.cells (zn q).toArray 95)).alloc (.cells (zJ y6).toArray 103)):=((frN w).alloc _).alloc _
 have k:=(zaV (l.obj s id)).1
 have j:=J (za (zy w (zn q) 95) ((frN _).alloc (.cells (zJ y6).toArray 103)) id)
 have g:=J (u.keep l id)
 have f:=J (yJ (w.alloc (.cells (zn q).toArray 95)) (.cells (zJ y6).toArray 103) (n:=w.heap.size+1) (by simp))
 have y:=J l
 generalize xJ S q=C at*
 generalize yl S q=X at*
 clear h s u x r l
 go_enter Tryz.func157,Tryz.ntmps157
 go_wp2_with fail
 generalize D:w.heap.size=n at*
 generalize (w.alloc (.cells (zn q).toArray 95)).alloc (.cells (zJ y6).toArray 103)=a at*
 refine wrLx [ff,ff,ff,ff,ff,ff,ff,ff,ff,tt,tt,ff] (λw'=>w'.cell? ⟨p,0,none⟩=some (.map (some m))∧w'.rangeAt n 0 (zn q)∧Jc w' m M) ?_ (λK hK=>?_)
 ·exact⟨k,za j.o (frN _).drew id,g.o.keep (frN _).drew id⟩
 repeat((first|(refine zl rfl ?_;constructor;constructor;(focus(first|exact zof rfl (λw h=>h.2.1) A.o|exact λw' h=>zM (t:=233) rfl rfl rfl (c.o w' h.2.2)|(rintro w' ⟨H,I,L⟩;exact goS))))|(refine zm rfl ?_));try simp only[Act.put,pA,pB,pC])
 (refine zF rfl (λK' hK'=>?_))
 refine yg (yw rfl (y9 _)) ?_
 refine nXt hK' ?_ λhS=>?_
 ·exact⟨(((frN a).drew).alloc _).cell k id,za j.o (((frN a).drew).alloc _) id,g.o.keep (((frN a).drew).alloc _) id⟩
 try simp only[Act.put,pA,pB,pC]
 (refine zF rfl (λK' hK'=>?_))
 refine yN (zj (w:=a.drew) (ty:=103) (cs:=zJ X) rfl rfl rfl (by rw[d.o];rfl) (by rw[d.o];exact yG) yf) ?_
 refine nXt hK' ?_ λhS=>?_
 ·exact⟨(((frN a).drew).alloc _).cell k id,za j.o (((frN a).drew).alloc _) id,g.o.keep (((frN a).drew).alloc _) id⟩
 try simp only[Act.put]
 repeat((first|(refine zl rfl ?_;constructor;constructor;(focus(first|(rintro w' -;exact goS))))|(refine zm rfl ?_));try simp only[Act.put,pA,pB,pC])
 refine zL (hK.out _ _ ?_)
 have B:=@J ((a.alloc (.cells (zJ X).toArray 103)).drew.rangeAt a.heap.size 0 (zJ X)) (zy a (zJ X) 103)
 have b:=J (((frN a).alloc (.cells (zJ X).toArray 103)).drew.obj f.o id)
 have z:=J ((y.o.alloc (.cells (zJ X).toArray 103)).drew)
 clear k j g c f
 go_wp2_with (first|(refine zob rfl rfl rfl B.o d.o ?_)|(refine zi rfl (zK (ty:=103) rfl rfl rfl (by rw[d.o];exact zX b.o (le_of_eq yA.symm)) (by rw[d.o];exact yG) yf) ?_))
 refine bodyPost_ret (ym (P:=prog) (fn:=Tryz.f157) rfl _ rfl (yx b.o (by rw[d.o];exact yA)) F E (by rw[d.o];exact yG) rfl) rfl ⟨rfl,?_⟩
 exact z.o.trans (zu _ _ _ _) (λi hi e=>by omega)
end
end Go.Proofs.YtdkkjchclkjleaaGreatDoor
namespace Go
open Go.MapKept Go.RowKit Go.Maps
section
variable {P:Program} {kt et t:TypeId} {w:World} {r b:Nat} {κ ι:Type} {kV:κ→Value} {vV:ι→Value} {M R:List (κ×ι)}
def j8 (P:Program) (kt:TypeId) (kV:κ→Value) (vV:ι→Value) (w:World) (r b:Nat) (M R:List (κ×ι)):Prop:=
 j7 P kt w r b (M.map λx=>(kV x.1,vV x.2)) (R.map λx=>(kV x.1,vV x.2))
theorem j8.map (h:j8 P kt kV vV w r b M R):yD P kt kV vV w b M:=j7.map h
theorem j8.keep {w':World} {W:Nat→Prop} (h:j8 P kt kV vV w r b M R) (f:Fr W w w') (a:¬W b) (c:¬W r):j8 P kt kV vV w' r b M R:=j7.keep h f a c
theorem yD.rangeI (c:P.underlying t=some (.map kt et)) (h:yD P kt kV vV w b M):
  ∃a,(Instr.range t (.map (some b))).run P w=.ok (.pointer (some ⟨w.heap.size,0,none⟩)) (w.alloc (.mapIter (some b) a #[] a))∧j8 P kt kV vV (w.alloc (.mapIter (some b) a #[] a)) w.heap.size b M M:=xh.range c h
theorem j8.stop (h:j8 P kt kV vV w r b M []) (ty:TypeId):(Instr.next (.pointer (some ⟨r,0,none⟩)) false ty).run P w=.ok (.tuple #[.bool false]) w:=j7.nextNone h ty
theorem j8.step (h:j8 P kt kV vV w r b M R) (f:R≠[]) (ty:TypeId):
  ∃A x B w',R=A++x::B∧(Instr.next (.pointer (some ⟨r,0,none⟩)) false ty).run P w=.ok (.tuple #[.bool true,kV x.1,vV x.2]) w'∧j8 P kt kV vV w' r b M (A++B)∧Fr (· =r) w w'∧
   (Instr.entry (.pointer (some ⟨r,0,none⟩))).run P w'=.ok (.tuple #[kV x.1,vV x.2]) w':=by
 obtain⟨m,p,n,i,l,g,e,j,c⟩:=j7.nextSome h (by simpa using f) ty
 obtain⟨A,B,d,k,a⟩:=List.map_eq_append_iff.1 l
 cases B with
 |nil=>simp at a
 |cons x B=>
  simp only[List.map_cons,List.cons.injEq] at a
  obtain⟨rfl,a⟩:=a
  subst k
  subst a
  exact⟨A,x,B,i,d,g,by unfold j8;rw[List.map_append];exact e,j,c i rfl rfl⟩
end
end Go
namespace Go
open Go.RowKit Go.Maps Go.MapKept
theorem append_nil {P:Program} (w:World) (t ty e:TypeId) (c:P.underlying t=some (.slice e)) (i:TypeInfo) (hi:P.info? e=some i) (base:Option Addr) (n a:Nat) (b:n≤a):
  (Builtin.append_ #[t,t] ty #[.slice base n a,.slice none 0 0]).run P w=.ok (.slice base n a) w:=by
 cases base<;>simp[Builtin.append_,run_underlying c,sizeOf,typeInfo,hi,b,storeCells,loadCells,Builtin.lenOf,Builtin.firstCells]
theorem XF {P:Program} (w:World) (base:Nat) (t ty e:TypeId) (size bytes:Nat) (z:Value) (E:P.underlying t=some (.slice e)) (d:(P.info? e).map (λi=>(i.zero,i.size,i.bytes))=some (some z,size,bytes)) (D:z.cells.size=size) (C:0<size)
  (v:Value) (n:Nat) (xs:List Value) (f:w.ownsRow base e size v n xs) (x:Value) (m:Nat) (news:List Value) (F:jS w x m news) (M:news.length=m*size) (r:∀u∈news,u.oneCell'=true)
  (l:(n+m)*bytes≤140737488355328) (A:n+m≤maxLen) (p:base≤w.heap.size):
  ∃q w',(Builtin.append_ #[t,t] ty #[v,x]).run P w=.ok q w'∧w'.ownsRow base e size q (n+m) (xs++news)∧Fr (λj=>v.ownBlock=some j) w w'∧(∀k,q.ownBlock=some k→v.ownBlock=some k∨w.heap.size≤k):=by
 by_cases hnil:x=.slice none 0 0
 ·subst hnil
  have N:m=0∧news=[]:=by
   rcases F with⟨_,r,y⟩|⟨b,o,c,h,_⟩
   ·exact⟨r,y⟩
   ·cases h
  obtain⟨rfl,rfl⟩:=N
  obtain⟨i,hi,_⟩:=info_parts d
  have L:∃a c,v=.slice a n c∧n≤c:=by
   rcases f.2 with⟨rfl,rfl⟩|⟨g,G,H,rfl,_,_,h,_⟩
   ·exact⟨none,0,rfl,Nat.le_refl _⟩
   ·exact⟨_,_,rfl,h⟩
  obtain⟨a,c,rfl,B⟩:=L
  refine⟨_,w,append_nil w t ty e E i hi a n c B,by simpa using f,Fr.refl _ _,λk h=>.inl h⟩
 ·obtain⟨q,w',s,y,I,_,K⟩:=jH (P:=P) w base t ty e size bytes z E d D C v n xs f x m news F.arg M r l A p hnil
  exact⟨q,w',s,y,(Fr.refl _ w).grown I (λk e=>.inr e),K⟩
end Go
namespace Go.Proofs.YtdkkjchclkjleaaGreatDoor
open Go Go.RowKit Go.Maps Go.MapKept
open Go.Proofs.Tryz(prog)
open List(mem_map getElem?_eq_getElem mem_append mem_of_getElem? mem_cons length_append length_map take_add_one mem_singleton take_length map_append length_take nodup_cons map_cons length_cons take_of_length_le append_assoc nil_append size_toArray not_mem_nil length_nil)
open Nat(le_refl zero_le le_trans zero_add le_of_eq)
variable {B:Nat} {l:List Int} {v:Value} {w w':World}
abbrev zd:=List Int
def zf (h:zd):List Value:=h.map zN
def y7 (h:zd):Value:=.agg (zf h).toArray
theorem zx {h:zd} (k:zY h):(zf h).length=32:=by simp[zf,k.1]
theorem zU {h:zd}:∀v∈zf h,v.oneCell'=true:=by
 intro v a
 obtain⟨y,_,rfl⟩:=mem_map.1 a
 rfl
theorem zao {a b:zd} (h:zf a=zf b):a=b:=zah h
theorem y3 {a b:zd} (h:y7 a=y7 b):a=b:=by
 unfold y7 at h
 injection h with h
 exact zao (by simpa using congrArg Array.toList h)
theorem zlN:prog.underlying 41=some (.array 32 5):=by kernel_rfl
theorem yu {h:zd} (k:zY h):∃l,keyOf prog 41 (y7 h)=some l:=
 zeO zlN (by kernel_rfl) (by kernel_rfl) (by kernel_rfl) (by kernel_rfl) (of_decide_eq_true (by kernel_rfl)) h k.1 (λx a=>zmg (k.2 x a))
theorem xR:EqN prog 41:=⟨Keyed.of_law (deep_law_laid Xs (m:=2) (by decide) (of_decide_eq_true (by kernel_rfl)) (by kernel_rfl) (by kernel_rfl)),⟨2,by decide,by kernel_rfl⟩,by kernel_rfl,by kernel_rfl⟩
theorem Zw:∃d,prog.underlying 41=some d∧d.isRow=true:=jf (by kernel_rfl)
theorem yt:(prog.info? 41).map (·.size)=some 32:=by kernel_rfl
def yR:zd:=List.replicate 32 0
theorem xM:zY yR:=⟨rfl,λx a=>by have:x=0:=List.eq_of_mem_replicate a;omega⟩
theorem xP:prog.underlying 38=some (.slice 41):=by kernel_rfl
theorem qm:(prog.info? 41).map (λi=>(i.zero,i.size,i.bytes))=some (some (.agg (zf yR).toArray),32,32):=by kernel_rfl
theorem qK:(prog.info? 41).map (λi=>(i.zero,i.size))=some (some (.agg (zf yR).toArray),32):=by kernel_rfl
theorem yS (w:World):(zeroValue 41).run prog w=.ok (.agg (zf yR).toArray) w:=by kernel_rfl
def yP (w:World) (v:Value) (l:List zd):Prop:=(∀c∈l,zY c)∧xG w v l.length (l.flatMap zf)
theorem yP.keep {l:List zd} (h:yP w v l) (f:Fr No w w'):yP w' v l:=⟨h.1,h.2.keep f⟩
theorem yP.at_ {l:List zd} (h:yP w v l) {i:Nat} {c:zd} (d:l[i]? =some c):∃b off a,v=.slice (some ⟨b,off,none⟩) l.length a∧w.rangeAt b (off+i*32) (zf c)∧b<w.heap.size:=
 h.2.elem (by decide) (λx d=>zx (h.1 x d)) d
theorem JB {l:List zd} (ok:∀c∈l,zY c):(l.flatMap zf).length=l.length*32:=xI zf 32 l (λx a=>zx (ok x a))
theorem JC {l:List zd}:∀u∈l.flatMap zf,u.oneCell'=true:=λu a=>by
 obtain⟨x,_,b⟩:=List.mem_flatMap.1 a
 exact zU u b
theorem yP.own {l:List zd} (h:w.ownsRow B 41 32 v l.length (l.flatMap zf)) (ok:∀c∈l,zY c):yP w v l:=⟨ok,h.slice.arg⟩
theorem xG.cap {a:Option Addr} {n c:Nat} {cs:List Value} (h:xG w (.slice a n c) n cs):n≤c:=by
 rcases h with(⟨e,rfl,-⟩|⟨b,off,d,e,f,-⟩)|⟨a',d,e,rfl,-⟩
 ·exact zero_le _
 ·injection e with _ _ e3;subst e3;exact f
 ·exact zero_le _
theorem XA:prog.underlying 106=some (.slice 5):=by kernel_rfl
theorem XX:(prog.info? 5).map (λi=>(i.zero,i.size,i.bytes))=some (some (.int .u8 0),1,1):=by kernel_rfl
def qI (w:World) (B:Nat) (v:Value) (l:List Int):Prop:=w.ownsRow B 5 1 v l.length (l.map zN)
theorem zcA:∀u∈l.map zN,u.oneCell'=true:=λu a=>by
 obtain⟨x,_,rfl⟩:=mem_map.1 a
 rfl
theorem qI.nil (w:World) (B:Nat):qI w B (.slice none 0 0) []:=World.ownsRow_nil w B _ 1
theorem qI.form (h:qI w B v l):∃a c,v=.slice a l.length c:=h.slice.arg.form
theorem qI.keep0 (h:qI w B v l) (f:Fr No w w'):qI w' B v l:=zb h f (λ_ _=>id)
def Yd (w:World) (v v':Value):Prop:=∀k,v'.ownBlock=some k→v.ownBlock=some k∨w.heap.size≤k
theorem vj (w:World) {v x:Value} {l m:List Int} (p:qI w B v l) (q:xG w x m.length (m.map zN)) (o:l.length+m.length≤1000000) (n:B≤w.heap.size) (ty:TypeId):
  ∃b w',(Builtin.append_ #[106,106] ty #[v,x]).run prog w=.ok b w'∧qI w' B b (l++m)∧Fr (λj=>v.ownBlock=some j) w w'∧Yd w v b:=by
 have s:(l++m).length=l.length+m.length:=length_append
 by_cases hnil:x=.slice none 0 0
 ·obtain⟨a,c,h⟩:=q.form
  rw[hnil] at h
  injection h with h1 h2 h3
  have r:m=[]:=List.eq_nil_of_length_eq_zero h2.symm
  subst r
  obtain⟨b,w',d,f,g,i⟩:=XF (P:=prog) w B 106 ty 5 1 1 _ XA XX rfl (by decide) v l.length (l.map zN) p x 0 [] (.inl ⟨hnil,rfl,rfl⟩) rfl (by simp) (by simp at o⊢;omega) (by unfold maxLen;simp at o;omega) n
  exact⟨b,w',d,by unfold qI;simpa using f,g,i⟩
 ·obtain⟨b,w',d,f,g,-,i⟩:=jH (P:=prog) w B 106 ty 5 1 1 _ XA XX rfl (by decide) v l.length (l.map zN) p x m.length (m.map zN) q (by simp) zcA (by omega) (by unfold maxLen;omega) n hnil
  refine⟨b,w',d,?_,(Fr.refl _ w).grown g (λk e=>.inr e),i⟩
  unfold qI
  rw[length_append,map_append]
  exact f
theorem Jo (w:World) {x:Int} (q:qI w B v l) (p:l.length+1≤1000000) (r:B≤w.heap.size) (ty:TypeId):
  ∃a w',(Builtin.append_ #[106,106] ty #[v,.slice (some ⟨w.heap.size,0,none⟩) 1 1]).run prog (w.alloc (.cells #[zN x] 5))=.ok a w'∧qI w' B a (l++[x])∧Fr (λj=>v.ownBlock=some j) w w'∧Yd w v a:=by
 have g:=yj w (.cells #[zN x] 5)
 obtain⟨a,w',b,c,d,f⟩:=vj (w.alloc (.cells #[zN x] 5)) (q.keep0 ((frN w).alloc _)) (x:=.slice (some ⟨w.heap.size,0,none⟩) 1 1) (m:=[x]) (.inl (.inr ⟨w.heap.size,0,1,rfl,le_refl _,by unfold maxLen;omega,λj u n=>by
   have:=zq g j u n
   exact this,by simp⟩)) p (by simp;omega) ty
 exact⟨a,w',b,c,((Fr.refl _ w).alloc _).trans d (λi hi e=>e),λk o=>(f k o).imp id (λh=>by simp at h;omega)⟩
def xu (w:World) (v:Value) (l:List yI):Prop:=(∀c∈l,c.ok)∧xG w v l.length (l.flatMap zJ)
theorem xu.keep {l:List yI} (h:xu w v l) (f:Fr No w w'):xu w' v l:=⟨h.1,h.2.keep f⟩
theorem xu.at_ {l:List yI} (h:xu w v l) {i:Nat} {c:yI} (d:l[i]? =some c):∃b off a,v=.slice (some ⟨b,off,none⟩) l.length a∧w.rangeAt b (off+i*33) (zJ c)∧b<w.heap.size:=
 h.2.elem (by decide) (λx d=>yz (h.1 x d)) d
end Go.Proofs.YtdkkjchclkjleaaGreatDoor
namespace Go
open Go.RowKit Go.Sort
def Yc (w w':World):Prop:=∃q os,w'=grow (w.drewN q) os
theorem Yc.refl (w:World):Yc w w:=⟨0,#[],by simp[grow];rfl⟩
theorem Yc.drew {w w':World} (h:Yc w w'):Yc w w'.drew:=by
 obtain⟨q,os,rfl⟩:=h
 exact⟨q+1,os,rfl⟩
theorem Yc.alloc {w w':World} (h:Yc w w') (o:Obj):Yc w (w'.alloc o):=by
 obtain⟨q,os,rfl⟩:=h
 exact⟨q,os++ #[o],by rw[alloc_eq_grow,grow_grow]⟩
def u8 (x:Int):UInt8:=x.toNat.toUInt8
end Go
namespace Go.Proofs.YtdkkjchclkjleaaGreatDoor
open Go Go.RowKit Go.Maps Go.MapKept
open Go.Proofs.Tryz(prog)
open List(mem_map getElem?_eq_getElem mem_append mem_of_getElem? mem_cons length_append length_map take_add_one mem_singleton take_length map_append length_take nodup_cons map_cons length_cons take_of_length_le append_assoc nil_append size_toArray not_mem_nil length_nil)
open Nat(le_refl zero_le le_trans zero_add le_of_eq)
variable {B b k m n:Nat} {V:Nat→Prop} {cs xs:List Value} {kv v:Value} {l:List Int} {w w':World}
section
open Go.Sort
theorem zih:xN.ok:=⟨⟨rfl,λx a=>by have:x=0:=List.eq_of_mem_replicate a;omega⟩,by decide,by decide⟩
abbrev znl:Type:={c:zr // c.ok}
instance:Inhabited znl:=⟨⟨zcF,zih,Zn⟩⟩
end
def Kept (V:Nat→Prop) (w:World) (Q:World→Prop):Prop:=∀w',Fr V w w'→Q w'
theorem Kept.now {Q:World→Prop} (h:Kept V w Q):Q w:=h w (Fr.refl V w)
theorem Kept.step {V V':Nat→Prop} {Q:World→Prop} (h:Kept V w Q) (f:Fr V w w') (b:∀j,j<w.heap.size→V' j→V j):Kept V' w' Q:=
 λc a=>h c (f.trans a b)
theorem Kept.same {Q:World→Prop} (h:Kept V w Q) (f:Fr V w w'):Kept V w' Q:=h.step f (λ_ _ h=>h)
theorem Kept.imp {Q R:World→Prop} (h:Kept V w Q) (a:∀w',Fr V w w'→Q w'→R w'):Kept V w R:=λw' f=>a w' f (h w' f)
structure InD where
 from_:zE
 key:List Int
structure TxD where
 ver:Int
 ins:List InD
 outs:List yI
structure qs where
 tag:Int
 pay:List yI
 txs:List TxD
def qT {α:Type} (k:Nat) (q:World→α→List Value→Prop) (w:World) (v:Value) (L:List α):Prop:=
 ∃va vc,v=.slice va L.length vc∧L.length≤maxLen∧∀(i:Nat) (d:α),L[i]? =some d→∃b off cs,va=some ⟨b,off,none⟩∧w.rangeAt b (off+i*k) cs∧q w d cs
theorem qT.keep {α:Type} {q:World→α→List Value→Prop} {L:List α} (l:∀d cs,q w d cs→q w' d cs) (h:qT k q w v L) (f:Fr No w w'):qT k q w' v L:=by
 obtain⟨m,n,e,j,h⟩:=h
 refine⟨m,n,e,j,λi d hi=>?_⟩
 obtain⟨b,off,cs,a,c,g⟩:=h i d hi
 exact⟨b,off,cs,a,za c f id,l _ _ g⟩
theorem qT.form {α:Type} {q:World→α→List Value→Prop} {L:List α} (h:qT k q w v L):∃a c,v=.slice a L.length c:=by
 obtain⟨b,d,e,_⟩:=h
 exact⟨b,d,e⟩
theorem qT.at_ {α:Type} {q:World→α→List Value→Prop} {L:List α} (h:qT k q w v L) {i:Nat} {d:α} (g:L[i]? =some d):∃b off a cs,v=.slice (some ⟨b,off,none⟩) L.length a∧w.rangeAt b (off+i*k) cs∧q w d cs:=by
 obtain⟨l,j,rfl,-,h⟩:=h
 obtain⟨b,off,cs,e,c,f⟩:=h i d g
 subst e
 exact⟨b,off,j,cs,rfl,c,f⟩
theorem qT.len {α:Type} {q:World→α→List Value→Prop} {L:List α} (h:qT k q w v L):L.length≤maxLen:=by
 obtain⟨a,b,e,h,_⟩:=h
 exact h
theorem qT.own {α:Type} {q:World→α→List Value→Prop} {L:List α} {ty:TypeId} {css:List (List Value)} (b:0<k) (h:w.ownsRow B ty k v L.length (css.flatMap id)) (l:css.length=L.length) (j:∀cs∈css,cs.length=k) (m:L.length≤maxLen)
  (n:∀(i:Nat) (d:α) (cs:List Value),L[i]? =some d→css[i]? =some cs→q w d cs):qT k q w v L:=by
 obtain⟨o,p,rfl⟩:=h.slice.arg.form
 refine⟨o,p,rfl,m,λi d hi=>?_⟩
 have a:i<css.length:=by rw[l];exact(List.getElem?_eq_some_iff.1 hi).1
 obtain⟨g,c,e,r,-⟩:=JF (f:=id) b j h (getElem?_eq_getElem a)
 injection e with e1 e2 e3
 subst e1
 exact⟨g,0,css[i],rfl,by rwa [zero_add],n i d _ hi (getElem?_eq_getElem a)⟩
def zbo (w:World) (v:Value) (k:List Int):Prop:=(∀b∈k,0≤b∧b≤255)∧xG w v k.length (k.map zN)
theorem zbo.keep {k:List Int} (h:zbo w v k) (f:Fr No w w'):zbo w' v k:=⟨h.1,h.2.keep f⟩
def inC (p:zE) (kv:Value):List Value:=zn p++[kv]
theorem vC {p:zE} (h:p.ok) (kv:Value):(inC p kv).length=34:=by simp[inC,z6 h]
theorem Jj {p:zE} {a:Option Addr} {n c:Nat}:∀u∈inC p (.slice a n c),u.oneCell'=true:=by
 intro u b
 simp only[inC,mem_append,mem_singleton] at b
 rcases b with b|rfl
 ·exact yK u b
 ·rfl
def InQ (w:World) (x:InD) (cs:List Value):Prop:=∃ka kc,cs=inC x.from_ (.slice ka x.key.length kc)∧x.from_.ok∧zbo w (.slice ka x.key.length kc) x.key
theorem InQ.keep {x:InD} (h:InQ w x cs) (f:Fr No w w'):InQ w' x cs:=by
 obtain⟨c,d,e,a,b⟩:=h
 exact⟨c,d,e,a,b.keep f⟩
abbrev Vc (w:World) (v:Value) (L:List InD):Prop:=qT 34 InQ w v L
theorem Vc.keep0 {L:List InD} (h:Vc w v L) (f:Fr No w w'):Vc w' v L:=qT.keep (λ_ _ h=>h.keep f) h f
theorem zn1:∃d,prog.underlying 108=some d∧d.isRow=true:=jf (by kernel_rfl)
theorem zn7:(prog.info? 108).map (·.size)=some 34:=by kernel_rfl
theorem Yb (w:World):(zeroValue 108).run prog w=.ok (.agg (inC xN (.slice none 0 0)).toArray) w:=by kernel_rfl
theorem XB:prog.underlying 32=some (.slice 108):=by kernel_rfl
theorem zg3:(prog.info? 108).map (λi=>(i.zero,i.size,i.bytes))=some (some (.agg (inC xN (.slice none 0 0)).toArray),34,64):=by kernel_rfl
theorem zeI {b off:Nat} {p:zE} (r:w.rangeAt b off (inC p kv)) (ok:p.ok):w.rangeAt b off (zn p)∧w.cell? ⟨b,off+33,none⟩=some kv:=by
 refine⟨λj u a=>r j u ?_,?_⟩
 ·unfold inC
  rw[List.getElem?_append_left (List.getElem?_eq_some_iff.1 a).1]
  exact a
 ·refine r 33 kv ?_
  unfold inC
  rw[List.getElem?_append_right (by rw[z6 ok];exact le_refl _),z6 ok]
  rfl
theorem zaT {b off:Nat} {p:zE} (r:w.rangeAt b off (zn p)) (ok:p.ok):w.rangeAt b off (p.tx.map zN)∧w.cell? ⟨b,off+32,none⟩=some (.int .u32 p.n):=by
 refine⟨λj u a=>r j u ?_,r 32 _ (zc9 ok)⟩
 unfold zn
 rw[List.getElem?_append_left (List.getElem?_eq_some_iff.1 a).1]
 exact a
def txC (v:Int) (iv ov:Value):List Value:=[.int .u32 v,iv,ov]
def TxQ (w:World) (t:TxD) (cs:List Value):Prop:=∃ia ic oa oc,cs=txC t.ver (.slice ia t.ins.length ic) (.slice oa t.outs.length oc)∧(0≤t.ver∧t.ver≤4294967295)∧Vc w (.slice ia t.ins.length ic) t.ins∧xu w (.slice oa t.outs.length oc) t.outs
theorem TxQ.keep {x:TxD} (h:TxQ w x cs) (f:Fr No w w'):TxQ w' x cs:=by
 obtain⟨d,g,i,j,e,a,b,c⟩:=h
 exact⟨d,g,i,j,e,a,b.keep0 f,c.keep f⟩
abbrev Jz (w:World) (v:Value) (L:List TxD):Prop:=qT 3 TxQ w v L
theorem Jz.keep0 {L:List TxD} (h:Jz w v L) (f:Fr No w w'):Jz w' v L:=qT.keep (λ_ _ h=>h.keep f) h f
theorem zhj {t:Int} {a b:Option Addr} {n c m d:Nat}:∀u∈txC t (.slice a n c) (.slice b m d),u.oneCell'=true:=by
 intro u e
 simp only[txC,mem_cons,not_mem_nil,or_false] at e
 rcases e with rfl|rfl|rfl<;>rfl
theorem zfZ:∃d,prog.underlying 34=some d∧d.isRow=true:=jf (by kernel_rfl)
theorem y5:(prog.info? 34).map (·.size)=some 3:=by kernel_rfl
theorem zd4:prog.underlying 23=some (.slice 34):=by kernel_rfl
theorem zg4:(prog.info? 34).map (λi=>(i.zero,i.size,i.bytes))=some (some (.agg (txC 0 (.slice none 0 0) (.slice none 0 0)).toArray),3,56):=by kernel_rfl
def zhv (t:Int) (pv tv:Value):List Value:=[.int .u64 t,pv,tv]
def jE (w:World) (b:qs) (cs:List Value):Prop:=∃pa pc ta tc,cs=zhv b.tag (.slice pa b.pay.length pc) (.slice ta b.txs.length tc)∧(0≤b.tag∧b.tag≤18446744073709551615)∧xu w (.slice pa b.pay.length pc) b.pay∧Jz w (.slice ta b.txs.length tc) b.txs
theorem jE.keep {x:qs} (h:jE w x cs) (f:Fr No w w'):jE w' x cs:=by
 obtain⟨d,g,i,j,e,a,b,c⟩:=h
 exact⟨d,g,i,j,e,a,b.keep f,c.keep0 f⟩
theorem zgV:∃d,prog.underlying 55=some d∧d.isRow=true:=jf (by kernel_rfl)
theorem JS:(prog.info? 55).map (·.size)=some 3:=by kernel_rfl
structure q9 (w:World):Prop where
 at_:Ze w
 lt:3<w.heap.size
theorem q9.keep (h:q9 w) {W:Nat→Prop} (f:Fr W w w') (a:∀j,W j→3<j):q9 w':=⟨h.at_.keep f (λh=>by have:=a _ h;omega) (λh=>by have:=a _ h;omega),Nat.lt_of_lt_of_le h.lt f.size⟩
theorem q9.keep0 (h:q9 w) (f:Fr No w w'):q9 w':=h.keep f (λ_ h=>h.elim)
theorem Ju (l:List Int):zY (x9 l):=by
 refine⟨zfs XU.adds,λx a=>?_⟩
 unfold x9 zd2 at a
 obtain⟨y,_,b⟩:=List.mem_flatMap.1 a
 simp only[Qw,mem_cons,not_mem_nil,or_false] at b
 rcases b with rfl|rfl|rfl|rfl<;>omega
theorem Ya (l:List Int):zY (vN l):=Ju _
theorem zjb {k:List Int} (h:xG w kv k.length (k.map zN)) {p:Nat} (i:w.heap.size≤p):Jg w p kv k:=by
 rcases h with(⟨rfl,d,-⟩|⟨b,off,c,rfl,d,f,e,g⟩)|⟨a,c,rfl,d,-,-⟩
 ·exact .inl ⟨List.eq_nil_of_length_eq_zero d,none,0,rfl⟩
 ·exact .inr ⟨b,off,c,rfl,by omega,e,d⟩
 ·exact .inl ⟨List.eq_nil_of_length_eq_zero d,some a,c,rfl⟩
theorem zb2 {k:List Int} (h:xG w kv k.length (k.map zN)):∀p,(w.alloc (.cells #[kv] 106)).heap.size≤p→Zu (w.alloc (.cells #[kv] 106)) p (.slice (some ⟨w.heap.size,0,none⟩) 1 1) [k]:=λp a=>by
 have b:(w.alloc (.cells #[kv] 106)).heap.size=w.heap.size+1:=by simp
 refine⟨_,_,rfl,λi l hi=>?_⟩
 cases i with
 |succ i=>simp at hi
 |zero=>
  have e:k=l:=by simpa using hi
  subst e
  exact⟨w.heap.size,0,kv,rfl,by omega,zq (yj w (.cells #[kv] 106)) 0 _ rfl,zjb (h.keep ((frN w).alloc _)) a⟩
theorem zfr (a:q9 w) {k:List Int} (h:xG w kv k.length (k.map zN)) (b:k.length≤1000000000000):
  Calls prog 71 #[.slice (some ⟨w.heap.size,0,none⟩) 1 1] (w.alloc (.cells #[kv] 106)) λe w'=>e=.returned (.agg ((x9 k).map zN).toArray)∧Fr No (w.alloc (.cells #[kv] 106)) w':=by
 have f:=(frN w).alloc (.cells #[kv] 106)
 have g:=a.keep0 f
 have:=zhi g.at_ g.lt (v:=.slice (some ⟨w.heap.size,0,none⟩) 1 1) (L:=[k]) (zb2 h) (by simp) (by simpa using b)
 simpa using this
theorem zbR (o:q9 w) {k:List Int} (h:xG w kv k.length (k.map zN)) (s:k.length≤1000000000000):
  Calls prog 36 #[kv] w λe w'=>e=.returned (.agg (zf (x9 k)).toArray)∧Fr No w w':=by
 have A:∀w,(zeroValue 41).run prog w=.ok (.agg xz) w:=λw=>by kernel_rfl
 have d:=@J (Fr No w (w.alloc (.cells xz 41))) ((frN w).alloc _)
 have l:=J (yj w (.cells xz 41))
 have r:=J (zfr (o.keep0 d.o) (h.keep d.o) s)
 have c:=@J (((x9 k).map zN).length=32) (by rw[length_map];exact(Ju k).1)
 obtain⟨y,z,rfl⟩:=h.form
 clear o h
 unfold zf
 generalize x9 k=a at*
 go_enter Tryz.func36,Tryz.ntmps36
 generalize u:w.alloc (.cells xz 41)=j at*
 have f:=@J (Fr No j (j.alloc (.cells #[.slice y k.length z] 106))) ((frN j).alloc _)
 go_wp2_with (first|(go_at_call 71;refine r.o.mono ?_;rintro e p ⟨rfl,n⟩;have g:=J n;clear n)|((with_reducible refine zv ?_);refine zi rfl (zK (ty:=41) (b:=w.heap.size) (off:=0) (cs:=a.map zN) rfl rfl rfl (by rw[c.o];exact zX (g.o.obj (f.o.obj l.o id) id) (le_refl 32)) (by rw[c.o];exact qy) (λv t=>by obtain⟨x,-,rfl⟩:=mem_map.1 t;rfl)) ?_))
 have q:=@J (p.heap[w.heap.size]? =some (.cells xz 41 (0,0))) (g.o.obj (f.o.obj l.o id) id)
 have m:=xw w.heap.size 41 (a.map zN) 0 p xz q.o
 have e:=jq (a.map zN) [] xz.toList [] (by rw[c.o];rfl)
 simp only[nil_append,List.append_nil,length_nil] at e
 rw[e] at m
 exact bodyPost_ret (v:=.agg (a.map zN).toArray) (results_cell_row (P:=prog) (fn:=Tryz.f36) rfl _ _ w.heap.size 41 (a.map zN).toArray (0,0) _ rfl m Tryz.underlying41 rfl (by rw[size_toArray,c.o];exact qy)) rfl ⟨rfl,((d.o.trans0 f.o).trans0 g.o).trans (zu _ _ _ _) (λi hi e=>(show False by omega))⟩
theorem zdh (k:q9 w) {L:List (List Int)} (r:∀p,w.heap.size≤p→Zu w p v L) (R:L.length≤1000000) (S:L.flatten.length≤1000000000000):
  Calls prog 46 #[v] w λe w'=>e=.returned (.agg (zf (vN L.flatten)).toArray)∧Fr No w w':=by
 have W:∀w,(zeroValue 41).run prog w=.ok (.agg xz) w:=λw=>by kernel_rfl
 have g:=@J (Fr No w (w.alloc (.cells xz 41))) ((frN w).alloc _)
 have F:=J (yj w (.cells xz 41))
 have o:=J (k.keep0 g.o)
 have H:=J (zhi o.o.at_ o.o.lt (λp T=>(r p (le_trans g.o.size T)).keep g.o.of0) R S)
 have c:=@J (((x9 L.flatten).map zN).length=32) (by rw[length_map];exact(Ju _).1)
 have j:=@J (((vN L.flatten).map zN).length=32) (by rw[length_map];exact(Ju _).1)
 have B:=J (λ(w:World) (k:q9 w) (kv:Value) (h:xG w kv (x9 L.flatten).length ((x9 L.flatten).map zN))=>zfr k h (by rw[(Ju L.flatten).1];decide))
 have C:=@J (x9 (x9 L.flatten)=vN L.flatten) (rfl)
 rw[C.o] at B
 have q:=J ((Ju L.flatten).1)
 obtain⟨X,Y,rfl,-⟩:=r w.heap.size (le_refl _)
 clear k r C
 unfold zf
 generalize vN L.flatten=f at*
 generalize x9 L.flatten=d at*
 go_enter Tryz.func46,Tryz.ntmps46
 generalize U:w.alloc (.cells xz 41)=Z at*
 have⟨K,M,N,O⟩:=tZ4
 go_wp2_with ((first|(clear K;go_at_call 71;refine H.o.mono ?_;rintro e a ⟨rfl,D⟩;have m:=J D;clear D)|(clear N;go_at_call 71;refine I.o.mono ?_;rintro e V ⟨rfl,E⟩;have z:=J E;clear E;have u:=J (z.o.obj (y.o.obj (n.o.obj (m.o.obj F.o id) id) id) id))|((with_reducible refine zv ?_);first|(clear M;refine zi rfl (zj (w:=a) (ty:=41) (cs:=d.map zN) rfl rfl rfl (by rw[c.o];rfl) (by rw[c.o];exact qy) (λv s=>by obtain⟨x,-,rfl⟩:=mem_map.1 s;rfl)) ?_;have G:=J (yj a (.cells (d.map zN).toArray 41));have n:=@J (Fr No a (a.alloc (.cells (d.map zN).toArray 41))) ((frN a).alloc _);have Q:=@J (a.heap.size<(a.alloc (.cells (d.map zN).toArray 41)).heap.size) (by simp);generalize a.alloc (.cells (d.map zN).toArray 41)=l at*;generalize a.heap.size=t at*;have I:=J (B.o l ((o.o.keep0 m.o).keep0 n.o) (.slice (some ⟨t,0,none⟩) 32 32) (by rw[q.o];exact .inl (.inr ⟨t,0,32,rfl,le_refl _,by decide,zq G.o,Q.o⟩)));have y:=@J (Fr No l (l.alloc (.cells #[.slice (some ⟨t,0,none⟩) 32 32] 106))) ((frN l).alloc _))|(clear O;refine zi rfl (zK (ty:=41) (b:=w.heap.size) (off:=0) (cs:=f.map zN) rfl rfl rfl (by rw[j.o];exact zX u.o (le_refl 32)) (by rw[j.o];exact qy) (λv s=>by obtain⟨x,-,rfl⟩:=mem_map.1 s;rfl)) ?_)));go_frame)
 have A:=xw w.heap.size 41 (f.map zN) 0 V xz u.o
 have e:=jq (f.map zN) [] xz.toList [] (by rw[j.o];rfl)
 simp only[nil_append,List.append_nil,length_nil] at e
 rw[e] at A
 exact bodyPost_ret (v:=.agg (f.map zN).toArray) (results_cell_row (P:=prog) (fn:=Tryz.f46) rfl _ _ w.heap.size 41 (f.map zN).toArray (0,0) _ rfl A Tryz.underlying41 rfl (by rw[size_toArray,j.o];exact qy)) rfl ⟨rfl,((((g.o.trans0 m.o).trans0 n.o).trans0 y.o).trans0 z.o).trans (zu _ _ _ _) (λi hi e=>(show False by omega))⟩
def leB:Nat→Int→List Int
 |0,_=>[]
 |n+1,x=>x % 256::leB n (x / 256)
theorem vZ:∀(n:Nat) (x:Int),(leB n x).length=n
 |0,_=>rfl
 |n+1,x=>by simp[leB,vZ n]
def zdV:Nat→Int→Int
 |0,x=>x
 |n+1,x=>zdV n (x / 256)
theorem zaC:∀(n:Nat) (x:Int),zdV (n+1) x=zdV n x / 256
 |0,_=>rfl
 |n+1,x=>by rw[zdV,zaC n (x / 256)];rfl
theorem zeS:∀(n:Nat) (x:Int),leB (n+1) x=leB n x++[zdV n x % 256]
 |0,_=>rfl
 |n+1,x=>by rw[leB,zeS n (x / 256)];rfl
theorem zhe:∀(n:Nat) {x:Int},0≤x∧x≤18446744073709551615→0≤zdV n x∧zdV n x≤18446744073709551615
 |0,_,h=>h
 |n+1,x,h=>by
  rw[zaC]
  have:=zhe n h
  omega
theorem zam (b:qI w B v l) (C:B≤w.heap.size) {x:Int} (F:0≤x∧x≤18446744073709551615) (hn:n≤8) (E:l.length≤100000):
  Calls prog 85 #[v,.int .u64 x,.int .i64 n] w λe w'=>∃a,e=.returned a∧qI w' B a (l++leB n x)∧Fr (λj=>v.ownBlock=some j) w w'∧Yd w v a:=by
 have P:=J b
 have Q:=J F
 have N:=J C
 have p:=J E
 obtain⟨d,f,rfl⟩:=b.form
 clear b F C E
 go_enter Tryz.func85,Tryz.ntmps85
 go_wp2
 go_loopw [0,1,8] (λz Y r wr=>∃k:Nat,r=.int .i64 k∧k≤n∧Y=.int .u64 (zdV k x)∧qI wr B z (l++leB k x)∧Fr (λj=>Value.ownBlock (.slice d l.length f)=some j) w wr∧Yd w (.slice d l.length f) z) (λ_ _ r _=>n-(intOf r).toNat)
 case atStart=>exact⟨0,rfl,zero_le _,rfl,by simpa[leB] using P.o,Fr.refl _ _,λk D=>.inl D⟩
 case round=>
  obtain⟨k,rfl,D,rfl,b,fr,A⟩:=hrel
  have c:=J b
  have g:=J fr
  have o:=J A
  obtain⟨T,U,rfl⟩:=b.form
  clear b fr A
  by_cases hlt:k<n
  rotate_left
  ·have q:k=n:=by omega
   subst q
   have W:¬(k:Int)<(k:Int):=by omega
   have O:=@J (∃a,(Value.slice T (l++leB k x).length U)=a∧qI wr B a (l++leB k x)∧Fr (λj=>Value.ownBlock (.slice d l.length f)=some j) w wr∧Yd w (.slice d l.length f) a) (⟨_,rfl,c.o,g.o,o.o⟩)
   generalize Z:(l++leB k x).length=m at*
   go_wp2
   go_ret
   obtain⟨a,e,h⟩:=O.o
   exact⟨a,by rw[←e];rfl,h⟩
  ·have W:(k:Int)<(n:Int):=by omega
   have hs:=zhe k Q.o
   have R:=@J ((l++leB k x).length≤100008) (by rw[length_append,vZ];have:=p.o;omega)
   obtain⟨G,X,s,t,u,y⟩:=Jo wr (x:=zdV k x % 256) c.o (by have:=R.o;omega) (le_trans N.o g.o.size) 106
   have H:=J s
   have I:=@J (qI X B G (l++leB (k+1) x)) (by rw[zeS,←append_assoc];exact t)
   have K:=J (g.o.trans u (λi hi e=>(o.o i e).resolve_right (by omega)))
   have M:=@J (Yd w (.slice d l.length f) G) (λj V=>(y j V).elim (λe=>o.o j e) (λe=>.inr (le_trans g.o.size e)))
   have S:=J (zaC k x)
   clear s t u y
   generalize l++leB k x=L at*
   go_wp2_with (first|(at_builtin;refine zQ rfl rfl rfl rfl H.o ?_))
   go_roundw
   case rel=>exact⟨k+1,by go_num,by omega,by rw[S.o],I.o,K.o,M.o⟩
   case measure=>simp[intOf];omega
def qB (t:TxD):Bool:=t.ins.all (λx=>decide (x.key.length≤64)) && (decide (t.ins.length≤8) && decide (t.outs.length≤8))
theorem Xr (w:World) {p:zE} (ok:p.ok):(w.alloc (.cells (inC p kv).toArray 108)).rangeAt w.heap.size 0 (zn p)∧(w.alloc (.cells (inC p kv).toArray 108)).cell? ⟨w.heap.size,33,none⟩=some kv:=by
 have:=zeI (zy w (inC p kv) 108) ok
 simpa using this
theorem qW (w:World) (v:Int) (a b:Value):(w.alloc (.cells #[.int .u32 v,a,b] 34)).cell? ⟨w.heap.size,0,none⟩=some (.int .u32 v)∧(w.alloc (.cells #[.int .u32 v,a,b] 34)).cell? ⟨w.heap.size,1,none⟩=some a∧(w.alloc (.cells #[.int .u32 v,a,b] 34)).cell? ⟨w.heap.size,2,none⟩=some b∧(w.alloc (.cells #[.int .u32 v,a,b] 34)).rangeAt w.heap.size 0 [.int .u32 v,a,b]:=by
 have:=zy w [.int .u32 v,a,b] 34
 exact⟨by simpa using this 0 _ rfl,by simpa using this 1 _ rfl,by simpa using this 2 _ rfl,this⟩
theorem zbD (w:World) {t:TxD} (Q:TxQ w t cs):
  Calls prog 66 #[.agg cs.toArray] w λe w'=>e=.returned (.bool (qB t))∧Fr No w w':=by
 obtain⟨r,s,u,v,rfl,-,hi,-⟩:=Q
 have X:=Yb
 have y:=J ((frN w).alloc (.cells #[.int .u32 t.ver,.slice r t.ins.length s,.slice u t.outs.length v] 34))
 obtain⟨-,c1,c2,-⟩:=qW w t.ver (.slice r t.ins.length s) (.slice u t.outs.length v)
 have I:=J c1
 have K:=J c2
 have L:=J (hi.keep0 y.o)
 have P:t.ins.length≤9223372036854775807:=le_trans hi.len (by unfold maxLen;decide)
 clear hi
 show Calls prog 66 #[.agg #[.int .u32 t.ver,.slice r t.ins.length s,.slice u t.outs.length v]] w _
 go_enter Tryz.func66,Tryz.ntmps66
 go_wp2
 generalize w.alloc (.cells #[.int .u32 t.ver,.slice r t.ins.length s,.slice u t.outs.length v] 34)=U at*
 generalize w.heap.size=q at*
 clear c1 c2
 go_loopw [8] (λC wr=>∃n:Nat,C=.int .i64 n∧n≤t.ins.length∧(∀x∈t.ins.take n,x.key.length≤64)∧Fr No U wr) (λC _=>t.ins.length-(intOf C).toNat)
 case atStart=>exact⟨0,rfl,zero_le _,by simp,Fr.refl _ _⟩
 case round=>
  obtain⟨n,rfl,W,m,fr⟩:=hrel
  have i:=J fr
  have A:=J m
  clear fr m
  by_cases B:n<t.ins.length
  ·have S:(n:Int)<(t.ins.length:Int):=by omega
   obtain⟨x,o⟩:∃x,t.ins[n]? =some x:=⟨_,getElem?_eq_getElem B⟩
   obtain⟨b,off,O,cs,R,H,f,g,rfl,h,l⟩:=(L.o.keep0 i.o).at_ o
   cases R
   have G:=J H
   have p:=J (vC h (.slice f x.key.length g))
   have N:=(Xr wr (kv:=.slice f x.key.length g) h).2
   have E:=J (i.o.alloc (.cells (inC x.from_ (.slice f x.key.length g)).toArray 108))
   have F:=J o
   clear H l h o
   by_cases hk:64<x.key.length
   ·have D:decide ((64:Int)<(x.key.length:Int))=true:=by simp;omega
    have j:=@J (qB t=false) (by
     have:t.ins.all (λx=>decide (x.key.length≤64))=false:=by
      rw[List.all_eq_false]
      exact⟨x,mem_of_getElem? F.o,by simp;omega⟩
     simp[qB,this])
    clear hk
    go_wp2_with (first|(refine zn9 rfl rfl rfl G.o p.o ?_)|(refine zoj (w:=wr) (cs:=inC x.from_ (.slice f x.key.length g)) rfl rfl rfl rfl p.o Jj ?_;generalize wr.alloc (.cells (inC x.from_ (.slice f x.key.length g)).toArray 108)=V at*))
    go_ret
    exact⟨by rw[j.o];rfl,y.o.trans0 E.o⟩
   ·have D:decide ((64:Int)<(x.key.length:Int))=false:=by simp;omega
    have M:=@J (∀e∈t.ins.take (n+1),e.key.length≤64) (λe d=>by
     rw[take_add_one,F.o] at d
     rcases mem_append.1 d with d|d
     ·exact A.o e d
     ·simp at d;subst d;omega)
    clear hk
    go_wp2_with (first|(refine zn9 rfl rfl rfl G.o p.o ?_)|(refine zoj (w:=wr) (cs:=inC x.from_ (.slice f x.key.length g)) rfl rfl rfl rfl p.o Jj ?_;generalize wr.alloc (.cells (inC x.from_ (.slice f x.key.length g)).toArray 108)=V at*))
    go_roundw
    case rel=>exact⟨n+1,by go_num,by omega,M.o,E.o⟩
    case measure=>simp[intOf];omega
  ·have S:¬(n:Int)<(t.ins.length:Int):=by omega
   have c1:=i.o.cell I.o id
   have c2:=i.o.cell K.o id
   have a:t.ins.all (λx=>decide (x.key.length≤64))=true:=by
    rw[List.all_eq_true]
    intro x o
    rw[show n=t.ins.length by omega,take_length] at A
    simpa using A.o x o
   have j:=@J (qB t=(decide (t.ins.length≤8) && decide (t.outs.length≤8))) (by simp[qB,a])
   have z:=J (y.o.trans0 i.o)
   clear a
   by_cases h8:t.ins.length≤8
   ·have D:decide ((t.ins.length:Int)≤8)=true:=by simp;omega
    by_cases h9:t.outs.length≤8
    ·have T:decide ((t.outs.length:Int)≤8)=true:=by simp;omega
     have c:(decide (t.ins.length≤8) && decide (t.outs.length≤8))=true:=by simp[h8,h9]
     have k:=J c
     clear h8 h9 c
     go_wp2
     go_ret
     exact⟨by rw[j.o,k.o];rfl,z.o⟩
    ·have T:decide ((t.outs.length:Int)≤8)=false:=by simp;omega
     have c:(decide (t.ins.length≤8) && decide (t.outs.length≤8))=false:=by simp[h8,h9]
     have k:=J c
     clear h8 h9 c
     go_wp2
     go_ret
     exact⟨by rw[j.o,k.o];rfl,z.o⟩
   ·have D:decide ((t.ins.length:Int)≤8)=false:=by simp;omega
    have c:(decide (t.ins.length≤8) && decide (t.outs.length≤8))=false:=by simp[h8]
    have k:=J c
    clear h8 c
    go_wp2
    go_ret
    exact⟨by rw[j.o,k.o];rfl,z.o⟩
abbrev ziM (w:World) (r b:Nat) (M R:List (zE×yI)):Prop:=j8 prog 95 Jb zdK w r b M R
def Laid (Md D M':List (zE×yI)):Prop:=∀k v,(k,v)∈M'↔(k,v)∈D∨((k,v)∈Md∧∀u,(k,u)∉D)
theorem Laid.step {d D M' c:List (zE×yI)} {x:zE×yI} (h:Laid d D M') (l:∀u,(x.1,u)∉D) (i:Upd M' x.1 x.2 c):Laid d (D++[x]) c:=by
 intro k v
 obtain⟨f,m⟩:=x
 rw[i k v,h k v]
 simp only[mem_append,mem_singleton,Prod.mk.injEq]
 constructor
 ·rintro(⟨rfl,rfl⟩|⟨a,b|⟨b,g⟩⟩)
  ·exact .inl (.inr ⟨rfl,rfl⟩)
  ·exact .inl (.inl b)
  ·exact .inr ⟨b,λu=>by rintro(h|⟨h,_⟩);exact g u h;exact a h⟩
 ·rintro((a|⟨rfl,rfl⟩)|⟨a,b⟩)
  ·by_cases e:k=f
   ·subst e;exact absurd a (l v)
   ·exact .inr ⟨e,.inl a⟩
  ·exact .inl ⟨rfl,rfl⟩
  ·by_cases e:k=f
   ·subst e;exact absurd (.inr ⟨rfl,rfl⟩) (b m)
   ·exact .inr ⟨e,.inr ⟨a,λu j=>b u (.inl j)⟩⟩
theorem zhE (w:World) {o t:Nat} {n c:List (zE×yI)} (hd:Jc w o n) (hs:Jc w t c) (ae:o≠t) (hN:n.length+c.length≤1000000) (ok:∀x∈c,x.1.ok∧x.2.ok):
  Calls prog 166 #[.map (some o),.map (some t)] w λe w'=>e=.returned (.tuple #[])∧∃M',Jc w' o M'∧Laid n c M'∧Fr (λj=>j=o) w w':=by
 obtain⟨d,q,hit⟩:=hs.rangeI ZP
 have H:=hs.nodup
 have ab:=hd.lt
 have Q:=J (hd.keep ((frN w).alloc (.mapIter (some t) d #[] d)) id)
 have T:=J hit
 have F0:=J ((frN w).alloc (.mapIter (some t) d #[] d))
 have HN:=J H
 have Z:=J ok
 have zp:=vR
 have zo:=y9
 clear hd hs hit H ok
 go_enter Tryz.func166,Tryz.ntmps166
 go_wp2_with (refine jY rfl rfl rfl q ?_)
 generalize hq:w.heap.size=r at*
 generalize w.alloc (.mapIter (some t) d #[] d)=W at*
 clear q
 try simp only[Act.put,pA,pB,pC]
 go_loopg [] c.length (λm wr=>∃(D R M':List (zE×yI)),(D++R).Perm c∧R.length=m∧ziM wr r t c R∧Jc wr o M'∧Laid n D M'∧M'.length≤n.length+D.length∧Fr (λj=>j=o) w wr)
 case atStart=>exact⟨[],c,n,List.Perm.refl _,rfl,T.o,Q.o,λk v=>by simp,by simp,F0.o.of0⟩
 case round=>
  obtain⟨D,R,M',a,hm,M,O,N,af,g⟩:=hrel
  cases R with
  |nil=>
   have h:=M.stop
   have E:Laid n c M':=λk v=>by
    rw[N k v]
    have:∀x,x∈D↔x∈c:=λx=>by rw[←a.mem_iff];simp
    simp only[this]
   have HL:=J E
   have HM:=J O
   have HF:=J g
   clear M a hm N E O g
   go_wp2_with (refine xF rfl rfl rfl (h _) ?_)
   go_end0
   exact⟨rfl,M',HM.o,HL.o,HF.o⟩
  |cons x0 R0=>
   obtain⟨A,x,B,w2,f,h,C,f2,p⟩:=M.step (by simp) 0
   have hx:x∈c:=a.subset (by rw[f];simp)
   have s:=J (Z.o x hx)
   have PL:=J (z6 s.o.1)
   have OL:=J (yz s.o.2)
   have l:((D++[x])++(A++B)).Perm c:=by
    refine List.Perm.trans ?_ a
    rw[f,append_assoc]
    exact List.Perm.append_left _ (show(x::(A++B)).Perm (A++x::B) from List.perm_middle.symm)
   have L:∀u,(x.1,u)∉D:=by
    intro u hu
    have h1:=(l.map (·.1)).nodup_iff.2 HN.o
    rw[map_append,map_append,append_assoc] at h1
    exact(List.nodup_append.1 h1).2.2 x.1 (mem_map.2 ⟨_,hu,rfl⟩) x.1 (by simp) rfl
   have z:D.length+(A++B).length+1=c.length:=by have:=l.length_eq;simp at this⊢;omega
   obtain⟨t1,t2,t3,t4,P⟩:=zgD w2 (T1:=95) (T2:=103) (z1:=(zn xN).toArray) (z2:=(zJ y6).toArray) (c1:=zn x.1) (c2:=zJ x.2) (by rw[PL.o];rfl) (by rw[OL.o];exact yA)
   have K:r≠o:=by have:=ab;omega
   have F:=(O.keep f2 (λe=>K e.symm)).keep P id
   obtain⟨w4,y,I,G,hU,hT,ad⟩:=F.upd JA.keyed ZP (λ_ _=>vw) (qz s.o.1) (by unfold maxLen;simp at z;omega) x.2
   have fT:=hT.fr
   have Y:=J G
   have U:=J ((C.keep P id id).keep fT (λe=>ae e.symm) K)
   have V:=J (N.step L hU)
   have S:=J (((g.trans f2 (λi hi e=>by omega)).trans P.of0 (λi hi e=>e)).trans fT (λi hi e=>e))
   have X:=@J (y.length≤n.length+(D++[x]).length) (by simp;omega)
   have HP:=J l
   have HR:=@J ((A++B).length<gk) (by rw[←hm,f];simp)
   have T1:=J t1
   have T2:=J t2
   have T3:=J t3
   have T4:=J t4
   have aa:=J I
   clear M C O F N g hx l L z t1 t2 t3 t4 P I G hU hT ad fT f a hm f2
   unfold Jb zdK at h p
   go_wp2_with (first|refine xF rfl rfl rfl h ?_|refine vP rfl rfl rfl p ?_|(refine zi rfl (zK (ty:=95) (b:=w2.heap.size) rfl rfl rfl T1.o (by rw[PL.o];exact xK) yK) ?_)|(refine zi rfl (zK (ty:=103) (b:=w2.heap.size+1) rfl (by show Value.pointer (some ⟨_,0,none⟩)=_;simp) rfl T2.o (by rw[OL.o];exact yG) yf) ?_)|(refine zod rfl rfl rfl T3.o PL.o ?_)|(refine zob rfl rfl rfl T4.o OL.o ?_)|(refine zi rfl (y4 rfl rfl rfl rfl aa.o) ?_))
   go_roundg (A++B).length
   case measure=>exact HR.o
   case rel=>exact⟨D++[x],A++B,y,HP.o,rfl,U.o,Y.o,V.o,X.o,S.o⟩
def jO (S l:List zr):Int:=if(l.map (·.at_)).Nodup then if l.any (λc=>xJ S c.at_) then 10 else 0 else 12
def JM (S l:List zr):List zr:=if jO S l=0 then jV S l else S
theorem zgp {S l:List zr} (a:(l.map (·.at_)).Nodup) (b:∀c∈l,xJ S c.at_=false):jO S l=0∧JM S l=jV S l:=by
 have:jO S l=0:=by
  unfold jO
  rw[if_pos a,if_neg (by rw[Bool.not_eq_true,List.any_eq_false];exact λc d=>by rw[b c d];simp)]
 exact⟨this,by unfold JM;rw[if_pos this]⟩
theorem zll {S l:List zr} (a:(l.map (·.at_)).Nodup) {c:zr} (d:c∈l) (b:xJ S c.at_=true):jO S l=10∧JM S l=S:=by
 have:jO S l=10:=by
  unfold jO
  rw[if_pos a,if_pos (List.any_eq_true.2 ⟨c,d,b⟩)]
 exact⟨this,by unfold JM;rw[this];rfl⟩
theorem zlm {S l:List zr} (a:¬(l.map (·.at_)).Nodup):jO S l=12∧JM S l=S:=by
 have:jO S l=12:=by
  unfold jO
  rw[if_neg a]
 exact⟨this,by unfold JM;rw[this];rfl⟩
section
variable {w0 w:World} {p:Nat} {V:Nat→Prop} {S:List zr}
theorem CS.put (h:CS w0 w p V S) {M M':List (zE×yI)} (o:w.heap[p]? =some (.cells #[.map (some m)] 235 (0,0))) (z:∀k v,(k,v)∈M↔(⟨k,v⟩:zr)∈S) {n:List (zE×yI)} {l:List zr} (t:Jc w' m M') (s:Laid M n M') (r:∀k v,(k,v)∈n↔(⟨k,v⟩:zr)∈l) (g:(l.map (·.at_)).Nodup) (q:∀c∈l,xJ S c.at_=false) (ok:∀c∈l,c.ok) (f:Fr (λj=>j=m) w w'):
  CS w0 w' p V (jV S l):=by
 obtain⟨D,C,a,y,A,d,rfl⟩:=h.ex
 rw[o] at a
 injection a with a
 injection a with e1
 injection e1 with e1
 injection e1 with e1
 injection e1 with e1
 injection e1 with e1
 subst e1
 refine⟨⟨m,M',f.obj o d,t,λk v=>?_,d,rfl⟩,J4 h.srt g q,λc x=>(qL.1 x).elim (h.ok c) (ok c),h.lo,h.fr.trans f (λi hi e=>by subst e;have:=h.lo i (.inr rfl);omega)⟩
 rw[s k v,qL,r,z]
 constructor
 ·rintro(b|⟨b,_⟩)
  ·exact .inr b
  ·exact .inl b
 ·rintro(b|b)
  ·refine .inr ⟨b,λu B=>?_⟩
   exact Zz.1 (q _ ((r k u).1 B)) _ b rfl
  ·exact .inl b
theorem zhb (h:CS w0 w p V S) {l:List zr} (hl:qY w v l) (hN:l.length+S.length≤100000):
  Calls prog 135 #[.pointer (some ⟨p,0,none⟩),v] w λe w'=>e=.returned (.int .i64 (jO S l))∧CS w0 w' p V (JM S l)∧Fr V w w':=by
 obtain⟨va,vc,rfl⟩:=hl.2.form
 have U:=J h
 have HL:=J hl
 clear h hl
 by_cases hnd:(l.map (·.at_)).Nodup
 ·have ND:=J hnd
  clear hnd
  go_enter Tryz.func135,Tryz.ntmps135
  go_wp2_with fail
  refine(zl7 w w (Fr.refl _ _) HL.o (by omega) ND.o).mono ?_
  rintro e w1 ⟨p1,rfl,V1,c1,f1,au⟩
  have C1:=J c1
  have F1:=J f1
  have aj:=J au
  have Y:=J (U.o.fr0 f1)
  clear c1 f1 au
  obtain⟨m,M,hb,hm,hs,aw,E⟩:=Y.o.ex
  obtain⟨G,I,Z,ab,ad,ax,j⟩:=C1.o.ex
  obtain⟨z,T,hit⟩:=ab.rangeI ZP
  have aJ:w1.cell? ⟨p1,0,none⟩=some (.map (some G)):=(zaV Z).1
  have HB:=J hb
  have az:=J Z
  have ah:=J hm
  have HS:=J hs
  have u:=@J (∀k v,(k,v)∈I↔(⟨k,v⟩:zr)∈l) (λk v=>by rw[ad,qL];simp)
  have aD:=J hit
  have F0:=J ((frN w1).alloc (.mapIter (some G) z #[] z))
  have aG:=@J (m≠G) (λe=>by
   have h1:=aj.o G (by rw[j];exact .inr rfl)
   have h2:=U.o.hi m (by rw[E];exact .inr rfl)
   omega)
  have LM:=J (zc5 hm hs Y.o.srt)
  have ak:=@J (I.length=l.length) (by rw[zc5 ab ad C1.o.srt,(Zs l []).length_eq];rfl)
  have aH:=J aw
  have ai:=@J (p1≠m) (λe=>by
   have h1:=aj.o p1 (by rw[j];exact .inl rfl)
   have h2:=U.o.hi m (by rw[E];exact .inr rfl)
   omega)
  have VM:=@J (V m∧V p) (by rw[E];exact⟨.inr rfl,.inl rfl⟩)
  have zp:=vR
  have zo:=y9
  clear hb Z hm ab hs ad aw ax E j hit
  go_wp2_with (refine jY rfl rfl rfl T ?_)
  generalize hq:w1.heap.size=r at*
  generalize w1.alloc (.mapIter (some G) z #[] z)=W at*
  clear T aJ
  try simp only[Act.put,pA,pB,pC]
  go_loopg [] l.length (λn wr=>∃(D R:List (zE×yI)),(D++R).Perm I∧R.length=n∧ziM wr r G I R∧(∀x∈D,xJ S x.1=false)∧Fr No w1 wr)
  case atStart=>exact⟨[],I,List.Perm.refl _,ak.o,aD.o,by simp,F0.o⟩
  case round=>
   obtain⟨D,R,a,hm,hI,hD,F⟩:=hrel
   cases R with
   |nil=>
    have s:=hI.stop
    have aa:∀c∈l,xJ S c.at_=false:=λc hc=>hD (c.at_,c.out) (by
     have:(c.at_,c.out)∈D++[]:=a.mem_iff.2 ((u.o _ _).2 hc)
     simpa using this)
    obtain⟨N,O⟩:=zgp ND.o aa
    have E0:=J N
    have E1:=J O
    have aC:=J aa
    have FR:=J F
    have aF:=J hI.map
    clear hI a hm hD F N O aa
    have b0:=FR.o.obj HB.o id
    have b1:=FR.o.obj az.o id
    have g:wr.cell? ⟨p,0,none⟩=some (.map (some m)):=(zaV b0).1
    have c1:wr.cell? ⟨p1,0,none⟩=some (.map (some G)):=(zaV b1).1
    have ar:=ah.o.keep FR.o id
    have ag:=J (Y.o.fr0 FR.o)
    have Q:∀x∈I,x.1.ok∧x.2.ok:=λx hx=>HL.o.1 _ ((u.o x.1 x.2).1 hx)
    have av:=zhE wr.drew (ar.keep (frN _).drew id) (aF.o.keep (frN _).drew id) aG.o (by rw[LM.o,ak.o];omega) Q
    have aB:=J av
    clear b1 ar Q av
    go_wp2_with (refine xF rfl rfl rfl (s _) ?_)
    refine wrLx [ff,ff,ff,ff,ff,ff,ff,ff,tt] (λw'=>w'.cell? ⟨p,0,none⟩=some (.map (some m))∧w'.cell? ⟨p1,0,none⟩=some (.map (some G))) ?_ (λK hK=>?_)
    ·exact⟨g,c1⟩
    repeat((first|(refine zl rfl ?_;constructor;constructor;(focus(first|(rintro w' ⟨s1,s2⟩;exact goS))))|(refine zm rfl ?_));try simp only[Act.put,pA,pB,pC])
    (refine zF rfl (λK' hK'=>?_))
    go_simp
    refine aB.o.mono ?_
    rintro e w3 ⟨rfl,M',aq,ao,f3⟩
    have aA:=J (ag.o.put b0 HS.o aq ao u.o ND.o aC.o HL.o.1 ((frN wr).drew.of0.trans f3 (λ_ _ h=>h)))
    have F3:=@J (Fr V w w3) (((F1.o.trans0 FR.o).of0.trans ((frN wr).drew.of0.trans f3 (λ_ _ h=>h)) (λi hi e=>by subst e;exact VM.o.1)))
    have S3:=@J (w3.cell? ⟨p,0,none⟩=some (.map (some m))∧w3.cell? ⟨p1,0,none⟩=some (.map (some G))) (⟨f3.cell g aH.o,f3.cell c1 ai.o⟩)
    clear aq ao f3 ag
    refine nXt hK' ?_ λhS=>?_
    ·exact S3.o
    try simp only[Act.put,pA,pB,pC]
    refine zL (hK.out _ _ ?_)
    go_wp2
    go_ret
    exact⟨by rw[E0.o];rfl,by rw[E1.o];exact aA.o,F3.o⟩
   |cons x0 R0=>
    obtain⟨A,x,B,b,C,s,an,f2,o⟩:=hI.step (by simp) 0
    have hx:x∈I:=a.subset (by rw[C];simp)
    have ae:=(u.o x.1 x.2).1 hx
    have al:=J (HL.o.1 _ ae)
    have PL:=J (z6 al.o.1)
    have XO:=J (vI U.o.ok x.1)
    have OL:=J (yz XO.o)
    have ay:((D++[x])++(A++B)).Perm I:=by
     refine List.Perm.trans ?_ a
     rw[C,append_assoc]
     exact List.Perm.append_left _ (show(x::(A++B)).Perm (A++x::B) from List.perm_middle.symm)
    have P:Fr No w1 b:=F.trans f2 (λi hi e=>by omega)
    have f:=P.alloc (.cells (zn x.1).toArray 95)
    have bA:=f.obj HB.o id
    have g:(b.alloc (.cells (zn x.1).toArray 95)).cell? ⟨p,0,none⟩=some (.map (some m)):=(zaV bA).1
    have L:=J (zy b (zn x.1) 95)
    have H:=J (ah.o.keep f id)
    have aE:=J (an.keep (((frN b).alloc (.cells (zn x.1).toArray 95)).alloc (.cells (zJ (yl S x.1)).toArray 103)).drew id id)
    have af:=J ((f.alloc (.cells (zJ (yl S x.1)).toArray 103)).drew)
    have d:=J (λw' (h':Jc w' m M)=>zdH (w:=w') (q:=x.1) HS.o U.o.srt al.o.1 h')
    have HP:=J ay
    have HR:=@J ((A++B).length<gk) (by rw[←hm,C];simp)
    have aI:=J ae
    have HD:=J hD
    clear hI an F P f bA hx ae ay C a hm f2 hD
    unfold Jb zdK at s o
    cases hh:xJ S x.1 with
    |true=>
     obtain⟨N,O⟩:=zll ND.o aI.o hh
     have E0:=J N
     have E1:=J O
     rw[hh] at d
     have FZ:=J (F1.o.trans0 af.o)
     clear hh N O
     generalize hX:yl S x.1=X at*
     generalize hQ:x.1=q at*
     clear hX
     go_wp2_with (first|refine xF rfl rfl rfl s ?_|refine vP rfl rfl rfl o ?_|(refine zi rfl (zj (w:=b) (ty:=95) rfl rfl rfl (by rw[PL.o];rfl) (by rw[PL.o];exact xK) yK) ?_))
     refine wrLx [ff,ff,ff,ff,ff,ff,ff,ff,ff,tt,tt,ff] (λw'=>w'.cell? ⟨p,0,none⟩=some (.map (some m))∧w'.rangeAt b.heap.size 0 (zn q)∧Jc w' m M) ?_ (λK hK=>?_)
     ·exact⟨g,za L.o (frN _).drew id,H.o.keep (frN _).drew id⟩
     repeat((first|(refine zl rfl ?_;constructor;constructor;(focus(first|exact zof rfl (λw h=>h.2.1) PL.o|exact λw' h=>zM (t:=233) rfl rfl rfl (d.o w' h.2.2)|(rintro w' ⟨s1,s2,s3⟩;exact goS))))|(refine zm rfl ?_));try simp only[Act.put,pA,pB,pC])
     (refine zF rfl (λK' hK'=>?_))
     refine yg (yw rfl (y9 _)) ?_
     refine nXt hK' ?_ λhS=>?_
     ·exact⟨(((frN (b.alloc (.cells (zn q).toArray 95))).drew).alloc _).cell g id,za L.o (((frN (b.alloc (.cells (zn q).toArray 95))).drew).alloc _) id,H.o.keep (((frN (b.alloc (.cells (zn q).toArray 95))).drew).alloc _) id⟩
     try simp only[Act.put,pA,pB,pC]
     (refine zF rfl (λK' hK'=>?_))
     refine yN (zj (w:=((b.alloc (.cells (zn q).toArray 95))).drew) (ty:=103) (cs:=zJ X) rfl rfl rfl (by rw[OL.o];rfl) (by rw[OL.o];exact yG) yf) ?_
     refine nXt hK' ?_ λhS=>?_
     ·exact⟨(((frN (b.alloc (.cells (zn q).toArray 95))).drew).alloc _).cell g id,za L.o (((frN (b.alloc (.cells (zn q).toArray 95))).drew).alloc _) id,H.o.keep (((frN (b.alloc (.cells (zn q).toArray 95))).drew).alloc _) id⟩
     try simp only[Act.put]
     repeat((first|(refine zl rfl ?_;constructor;constructor;(focus(first|(rintro w' -;exact goS))))|(refine zm rfl ?_));try simp only[Act.put,pA,pB,pC])
     refine zL (hK.out _ _ ?_)
     clear g L H d
     go_wp2
     go_ret
     exact⟨by rw[E0.o];rfl,by rw[E1.o];exact U.o.fr0 FZ.o,FZ.o.of0⟩
    |false=>
     rw[hh] at d
     have HH:=J hh
     clear hh
     generalize hX:yl S x.1=X at*
     generalize hQ:x.1=q at*
     clear hX
     go_wp2_with (first|refine xF rfl rfl rfl s ?_|refine vP rfl rfl rfl o ?_|(refine zi rfl (zj (w:=b) (ty:=95) rfl rfl rfl (by rw[PL.o];rfl) (by rw[PL.o];exact xK) yK) ?_))
     refine wrLx [ff,ff,ff,ff,ff,ff,ff,ff,ff,tt,tt,ff] (λw'=>w'.cell? ⟨p,0,none⟩=some (.map (some m))∧w'.rangeAt b.heap.size 0 (zn q)∧Jc w' m M) ?_ (λK hK=>?_)
     ·exact⟨g,za L.o (frN _).drew id,H.o.keep (frN _).drew id⟩
     repeat((first|(refine zl rfl ?_;constructor;constructor;(focus(first|exact zof rfl (λw h=>h.2.1) PL.o|exact λw' h=>zM (t:=233) rfl rfl rfl (d.o w' h.2.2)|(rintro w' ⟨s1,s2,s3⟩;exact goS))))|(refine zm rfl ?_));try simp only[Act.put,pA,pB,pC])
     (refine zF rfl (λK' hK'=>?_))
     refine yg (yw rfl (y9 _)) ?_
     refine nXt hK' ?_ λhS=>?_
     ·exact⟨(((frN (b.alloc (.cells (zn q).toArray 95))).drew).alloc _).cell g id,za L.o (((frN (b.alloc (.cells (zn q).toArray 95))).drew).alloc _) id,H.o.keep (((frN (b.alloc (.cells (zn q).toArray 95))).drew).alloc _) id⟩
     try simp only[Act.put,pA,pB,pC]
     (refine zF rfl (λK' hK'=>?_))
     refine yN (zj (w:=((b.alloc (.cells (zn q).toArray 95))).drew) (ty:=103) (cs:=zJ X) rfl rfl rfl (by rw[OL.o];rfl) (by rw[OL.o];exact yG) yf) ?_
     refine nXt hK' ?_ λhS=>?_
     ·exact⟨(((frN (b.alloc (.cells (zn q).toArray 95))).drew).alloc _).cell g id,za L.o (((frN (b.alloc (.cells (zn q).toArray 95))).drew).alloc _) id,H.o.keep (((frN (b.alloc (.cells (zn q).toArray 95))).drew).alloc _) id⟩
     try simp only[Act.put]
     repeat((first|(refine zl rfl ?_;constructor;constructor;(focus(first|(rintro w' -;exact goS))))|(refine zm rfl ?_));try simp only[Act.put,pA,pB,pC])
     refine zL (hK.out _ _ ?_)
     clear g L H d
     go_wp2
     go_roundg (A++B).length
     case measure=>exact HR.o
     case rel=>
      refine⟨D++[x],A++B,HP.o,rfl,aE.o,?_,af.o⟩
      intro y hy
      rcases mem_append.1 hy with h|h
      ·exact HD.o y h
      ·rw[mem_singleton.1 h,hQ];exact HH.o
 ·have ND:=J hnd
  obtain⟨N,O⟩:=zlm (S:=S) hnd
  have E0:=J N
  have E1:=J O
  clear hnd N O
  go_enter Tryz.func135,Tryz.ntmps135
  go_wp2_with fail
  refine(zh6 w HL.o (by omega) ND.o).mono ?_
  rintro e w1 ⟨rfl,f1⟩
  have F1:=J f1
  clear f1
  go_wp2
  go_ret
  exact⟨by rw[E0.o];rfl,by rw[E1.o];exact U.o.fr0 F1.o,F1.o.of0⟩
end
section
open Go.Sort
def Y5 (S:List zr) (ps:List zE):Int:=if ps.Nodup then if ps.all (xJ S) then 0 else 9 else 12
def JI (S:List zr) (ps:List zE):List zr:=if Y5 S ps=0 then qg S ps else S
def zci (S:List zr) (ps:List zE):List yI:=if Y5 S ps=0 then ps.map (yl S) else[]
def Y4 (S:List zr) (ps:List zE):Nat:=(ps.filter λp=> !xJ S p).length
theorem zgj (S:List zr) {ps:List zE} {x:zE} (h:ps[n]? =some x):Y4 S (ps.take (n+1))=Y4 S (ps.take n)+if xJ S x=true then 0 else 1:=by
 unfold Y4
 rw[take_add_one,h]
 simp only[Option.toList_some,List.filter_append,length_append]
 cases hx:xJ S x<;>simp[hx]
theorem zjQ (S:List zr) (ps:List zE):Y4 S ps≤ps.length:=List.length_filter_le _ _
theorem zh5 {S:List zr} {ps:List zE}:ps.all (xJ S)=true↔Y4 S ps=0:=by
 unfold Y4
 rw[List.length_eq_zero_iff,List.filter_eq_nil_iff,List.all_eq_true]
 simp
abbrev zkj (c:Int):Value:=.int .i64 c
abbrev zbn (w:World) (m:Nat) (M:List (zE×Int)):Prop:=yD prog 95 Jb zkj w m M
theorem VI (w:World):(Instr.makeMap 159 none).run prog w=.ok (.map (some w.heap.size)) (w.alloc (.map #[] 0)):=by kernel_rfl
theorem zgz {S:List zr} {ps:List zE} {x:zE} (h:ps[n]? =some x):qg (qg S (ps.take n)) [x]=qg S (ps.take (n+1)):=by
 unfold qg
 rw[List.filter_filter,take_add_one,h]
 apply List.filter_congr
 intro c _
 simp[Bool.and_comm]
theorem yU {w:World} {e:TypeId} (h:w.ownsRow B e k v n xs) (f:b≤B):w.ownsRow b e k v n xs:=
 ⟨h.1,h.2.imp id λ⟨g,c,a,d,i,r⟩=>⟨g,c,a,d,le_trans f i,r⟩⟩
theorem ziH (S:List zr):qg S []=S:=by simp[qg]
section
variable {w0 w:World} {p:Nat} {V:Nat→Prop} {S:List zr}
theorem CS.setM (h:CS w0 w p V S) {M':List (zE×yI)} {d:List zr} (l:w.heap[p]? =some (.cells #[.map (some m)] 235 (0,0))) (n:Jc w' m M') (q:∀k v,(k,v)∈M'↔(⟨k,v⟩:zr)∈d) (g:qU d) (ok:∀c∈d,c.ok) (f:Fr (λj=>j=m) w w'):
  CS w0 w' p V d:=by
 obtain⟨t,s,a,o,r,b,rfl⟩:=h.ex
 rw[l] at a
 injection a with a
 injection a with e1
 injection e1 with e1
 injection e1 with e1
 injection e1 with e1
 injection e1 with e1
 subst e1
 exact⟨⟨m,M',f.obj l b,n,q,b,rfl⟩,g,ok,h.lo,h.fr.trans f (λi hi e=>by subst e;have:=h.lo i (.inr rfl);omega)⟩
omit w0 w p V S in
theorem zeX {w:World} {M:List (zE×yI)} (h:Jc w m M) (o:Nat):w.cell? ⟨m,o,none⟩=none:=by
 obtain⟨es,a,b,-⟩:=h
 simp[World.cell?,b]
theorem zkq (h:CS w0 w p V S) {ps:List zE} (hl:xL w v ps) (hN:ps.length+S.length≤100000):
  Calls prog 136 #[.pointer (some ⟨p,0,none⟩),v] w λe w'=>∃x,e=.returned (.tuple #[x,.int .i64 (Y5 S ps)])∧w'.ownsRow w.heap.size 103 33 x (zci S ps).length ((zci S ps).flatMap zJ)∧CS w0 w' p V (JI S ps)∧Fr V w w':=by
 obtain⟨va,vc,rfl⟩:=hl.2.form
 have HC:=J h
 have HL:=J hl
 have zp:=vR
 have zo:=y9
 have bA:=VI w
 obtain⟨iK,hi,hz,E,aI⟩:=info_parts JD
 obtain⟨w2,aM,R,ao⟩:=run_makeSlice_full (P:=prog) (w:=w.alloc (.map #[] 0)) (w.heap.size+1) 22 103 iK _ 33 qN hi hz E .i64 .i64 ps.length (by omega) (by rw[aI];omega) (by unfold maxLen;omega) (by simp)
 have f2:Fr No w w2:=((frN w).alloc _).trans0 (Fr.of_grown ao (λk e=>by cases e))
 have a7:=@J (zbn w2 w.heap.size []) ((yD.made w).keep (W:=No) (Fr.of_grown ao (λk e=>by cases e)) id)
 have ae:(w.alloc (.map #[] 0)).heap.size=w.heap.size+1:=by simp
 rw[ae] at aM R
 have bc:=J (yU R (Nat.le_succ w.heap.size))
 have F2:=J f2
 have bp:=@J (w.heap.size+1<w2.heap.size) ((R.lt _ rfl).2)
 clear h hl hi hz E aI R ao f2 ae
 go_enter Tryz.func136,Tryz.ntmps136
 go_wp2_with fail
 clear aM bA
 generalize bx:w.heap.size=f at*
 go_loopw [7,23] (λkv iv wr=>∃(n:Nat) (T:List (zE×Int)) (xs:List Value),iv=.int .i64 n∧n≤ps.length∧kv=.int .i64 (Y4 S (ps.take n))∧zbn wr f T∧(∀k,(∃c,(k,c)∈T)↔k∈ps.take n)∧T.length≤n∧wr.ownsRow f 103 33 (.slice (some ⟨f+1,0,none⟩) ps.length ps.length) ps.length xs∧xs.take (n*33)=((ps.take n).map (yl S)).flatMap zJ∧Fr No w wr∧f+1<wr.heap.size) (λ_ iv _=>ps.length-(intOf iv).toNat)
 case atStart=>exact⟨0,[],_,rfl,zero_le _,rfl,a7.o,by simp,le_refl _,bc.o,by simp,F2.o,bp.o⟩
 case round=>
  obtain⟨n,T,xs,rfl,hn,rfl,aT,aJ,aN,aP,aW,fr,E⟩:=hrel
  have FR:=J fr
  have y:=J aT
  have I:=J aJ
  have u:=J aP
  have L:=J aW
  have ag:=J aN
  have al:=J E
  have an:=HC.o.fr0 fr
  obtain⟨m,M,hb,hm,hs,aO,aH⟩:=an.ex
  have VM:=@J (V m∧V p) (by rw[aH];exact⟨.inr rfl,.inl rfl⟩)
  have HB:=J hb
  have ah:=J hm
  have HS:=J hs
  have bb:=J aO
  have H:=J an
  clear fr aT aJ aP aW aN E an hm hs aO aH
  by_cases h:n<ps.length
  ·have i1:(n:Int)<(ps.length:Int):=by omega
   obtain⟨q,G⟩:∃x,ps[n]? =some x:=⟨_,getElem?_eq_getElem h⟩
   obtain⟨b,off,br,hv,hr,-⟩:=(HL.o.keep FR.o).at_ G
   cases hv
   have d:=J (HL.o.1 q (mem_of_getElem? G))
   have F:=J (z6 d.o)
   have XO:=J (vI HC.o.ok q)
   have U:=J (yz XO.o)
   have R1:=J hr
   have Q:=zgj S G
   have bt:=zjQ S (ps.take n)
   rw[length_take] at bt
   have aG:ps.take (n+1)=ps.take n++[q]:=by rw[take_add_one,G];rfl
   have A:=J (λw' (h':Jc w' m M)=>zdH (w:=w') (q:=q) HS.o HC.o.srt d.o h')
   have N:=(frN wr).alloc (.cells (zn q).toArray 95)
   have c0:(wr.alloc (.cells (zn q).toArray 95)).cell? ⟨p,0,none⟩=some (.map (some m)):=(zaV (N.obj hb id)).1
   have RB:=J (zy wr (zn q) 95)
   have HM:=J (ah.o.keep N id)
   have f5:=(N.alloc (.cells (zJ (yl S q)).toArray 103)).drew
   have F5:=J f5
   have RX:=@J (((wr.alloc (.cells (zn q).toArray 95)).alloc (.cells (zJ (yl S q)).toArray 103)).drew.rangeAt (wr.alloc (.cells (zn q).toArray 95)).heap.size 0 (zJ (yl S q))) (zy _ _ _)
   have ai:=J (zb u.o f5 (λ_ _=>id))
   have TH:=J (Js ai.o h)
   have au:=J (qX ai.o (n*33) (cs:=zJ (yl S q)) (by rw[U.o];omega))
   have f6:=zu (f+1) (zJ (yl S q)) (n*33) ((wr.alloc (.cells (zn q).toArray 95)).alloc (.cells (zJ (yl S q)).toArray 103)).drew
   have bl:=@J ((setM xs (n*33) (zJ (yl S q))).take ((n+1)*33)=((ps.take (n+1)).map (yl S)).flatMap zJ) (by
    have h1:=VP xs (zJ (yl S q)) (n*33) (by rw[u.o.1,U.o];omega)
    rw[U.o] at h1
    rw[aG,map_append,List.flatMap_append,←L.o,show(n+1)*33=n*33+33 by omega,h1]
    simp)
   have D:zbn ((((wr.alloc (.cells (zn q).toArray 95)).alloc (.cells (zJ (yl S q)).toArray 103)).drew.setCells (f+1) (n*33) (zJ (yl S q))).drew) f T:=((y.o.keep f5 id).keep f6 (λe=>by omega)).keep (frN _).drew id
   have ay:=@J (((((wr.alloc (.cells (zn q).toArray 95)).alloc (.cells (zJ (yl S q)).toArray 103)).drew.setCells (f+1) (n*33) (zJ (yl S q))).drew).rangeAt wr.heap.size 0 (zn q)) (za (za (za RB.o (((frN _).alloc _).drew) id) f6 (λe=>by have:=al.o;omega)) (frN _).drew id)
   obtain⟨v0,w7,s,M1,bz,Z,B,aC,aa,ab,aV⟩:=D.bump JA.keyed YW (λ_ _=>vw) (z:=0) YB (qz d.o) (by unfold maxLen;have:=ag.o;omega)
   obtain⟨w8,M',aU,aD,hU,O,bu⟩:=aV (IntKind.i64.wrap (v0+1)) w7 No (Fr.refl _ _) id
   have bm:=J (aa _ D)
   have bn:=J (ab _ aC)
   have aq:=J Z
   have bk:=J aU
   have bo:=J (za ay.o B.fr (λe=>by have:=al.o;omega))
   have ba:=J aD
   have bd:=J (zb (zb (zb au.o (frN _).drew (λ_ _=>id)) B.fr (λj e e'=>by simp[Value.ownBlock] at e;omega)) O.fr (λj e e'=>by simp[Value.ownBlock] at e;omega))
   have az:Fr No w w8:=((((FR.o.trans0 f5).trans f6 (λi hi e=>by omega)).drew).trans B.fr (λi hi e=>by omega)).trans O.fr (λi hi e=>by omega)
   have F8:=J az
   have bq:=@J (f+1<w8.heap.size) (by
    have h1:=f5.size;have h2:=f6.size;have h3:=B.fr.size;have h4:=O.fr.size;have h5:=al.o
    simp only[World.drew] at h3
    have h6:((((wr.alloc (.cells (zn q).toArray 95)).alloc (.cells (zJ (yl S q)).toArray 103)).drew.setCells (f+1) (n*33) (zJ (yl S q)))).heap.size≤w7.heap.size:=h3
    omega)
   have aZ:=@J (∀k,(∃c,(k,c)∈M')↔k∈ps.take (n+1)) (λk=>by
    rw[aG,mem_append,mem_singleton,←I.o k]
    constructor
    ·rintro⟨c,hc⟩
     rcases(hU k c).1 hc with⟨rfl,_⟩|⟨_,h⟩
     ·exact .inr rfl
     ·exact .inl ⟨c,h⟩
    ·rintro(⟨c,hc⟩|rfl)
     ·by_cases e:k=q
      ·subst e;exact⟨_,(hU _ _).2 (.inl ⟨rfl,rfl⟩)⟩
      ·exact⟨c,(hU _ _).2 (.inr ⟨e,hc⟩)⟩
     ·exact⟨_,(hU _ _).2 (.inl ⟨rfl,rfl⟩)⟩)
   have a1:=@J (M'.length≤n+1) (by have:=ag.o;omega)
   clear hr G N f5 f6 D Z B aC aa ab aV aU aD hU O bu hb az ai au y I L ah bz
   have hw:IntKind.i64.wrap ((Y4 S (ps.take n):Int)+1)=((Y4 S (ps.take n)+1:Nat):Int):=by rw[IntWalk.i64_in _ (by omega)];omega
   cases hh:xJ S q
   all_goals
    rw[hh] at A Q
    simp only[if_true,Bool.false_eq_true,if_false] at Q
    have aY:=J Q
    clear hh Q
    generalize hX:yl S q=X at*
    clear hX
    go_wp2_with (first|(refine zod rfl rfl rfl R1.o F.o ?_)|(refine zi rfl (zj (w:=wr) (ty:=95) rfl rfl rfl (by rw[F.o];rfl) (by rw[F.o];exact xK) yK) ?_))
    refine wrLx [ff,ff,ff,ff,ff,ff,ff,ff,ff,tt,tt,ff] (λw'=>w'.cell? ⟨p,0,none⟩=some (.map (some m))∧w'.rangeAt wr.heap.size 0 (zn q)∧Jc w' m M) ?_ (λK hK=>?_)
    ·exact⟨c0,za RB.o (frN _).drew id,HM.o.keep (frN _).drew id⟩
    repeat((first|(refine zl rfl ?_;constructor;constructor;(focus(first|exact zof rfl (λw h=>h.2.1) F.o|exact λw' h=>zM (t:=233) rfl rfl rfl (A.o w' h.2.2)|(rintro w' ⟨s1,s2,s3⟩;exact goS))))|(refine zm rfl ?_));try simp only[Act.put,pA,pB,pC])
    (refine zF rfl (λK' hK'=>?_))
    refine yg (yw rfl (y9 _)) ?_
    refine nXt hK' ?_ λhS=>?_
    ·exact⟨(((frN (wr.alloc (.cells (zn q).toArray 95))).drew).alloc _).cell c0 id,za RB.o (((frN (wr.alloc (.cells (zn q).toArray 95))).drew).alloc _) id,HM.o.keep (((frN (wr.alloc (.cells (zn q).toArray 95))).drew).alloc _) id⟩
    try simp only[Act.put,pA,pB,pC]
    (refine zF rfl (λK' hK'=>?_))
    refine yN (zj (w:=((wr.alloc (.cells (zn q).toArray 95))).drew) (ty:=103) (cs:=zJ X) rfl rfl rfl (by rw[U.o];rfl) (by rw[U.o];exact yG) yf) ?_
    refine nXt hK' ?_ λhS=>?_
    ·exact⟨(((frN (wr.alloc (.cells (zn q).toArray 95))).drew).alloc _).cell c0 id,za RB.o (((frN (wr.alloc (.cells (zn q).toArray 95))).drew).alloc _) id,HM.o.keep (((frN (wr.alloc (.cells (zn q).toArray 95))).drew).alloc _) id⟩
    try simp only[Act.put]
    repeat((first|(refine zl rfl ?_;constructor;constructor;(focus(first|(rintro w' -;exact goS))))|(refine zm rfl ?_));try simp only[Act.put,pA,pB,pC])
    refine zL (hK.out _ _ ?_)
    clear c0 RB HM A
    go_wp2_with (first|(refine zob rfl rfl rfl RX.o U.o ?_)|(refine zi rfl (zK (ty:=103) rfl rfl rfl (by rw[U.o];exact TH.o) (by rw[U.o];exact yG) yf) ?_))
    refine yp [ff,ff,ff,ff,tt,ff,tt] (λw'=>w'.rangeAt wr.heap.size 0 (zn q)∧(Instr.lookup 159 (.map (some f)) (Jb q) false).run prog w'=.ok (.int .i64 v0) w') (by kernel_rfl) (by kernel_rfl) 6 (by kernel_rfl) (by kernel_rfl) ?_ (λK hK=>?_)
    ·exact⟨ay.o,bm.o⟩
    repeat((first|(refine yb rfl ?_;constructor;constructor;(focus(first|exact zof rfl (λw h=>h.1) F.o|exact λw' h=>zM (t:=159) rfl rfl rfl h.2|(rintro w' ⟨s1,s2⟩;exact goS))))|(refine yc rfl ?_));try simp only[Act.put,pA,pB,pC])
    (refine ya rfl (λK' hK'=>?_))
    refine yg (Qm rfl rfl rfl aq.o) ?_
    refine hK'.out _ _ (λ_=>?_) (λhS=>?_)
    ·exact⟨bo.o,bn.o⟩
    try simp only[Act.put,pA,pB,pC]
    repeat((first|(refine yb rfl ?_;constructor;constructor;(focus(first|(rintro w' ⟨s1,s2⟩;exact goS))))|(refine yc rfl ?_));try simp only[Act.put,pA,pB,pC])
    (refine ya rfl (λK' hK'=>?_))
    refine yN (Y1 rfl rfl rfl rfl bk.o) ?_
    refine hK'.out _ _ (λh=>absurd rfl h) (λhS=>?_)
    refine xA (hK.out _ _ ?_)
    go_wp2
    go_roundw
    case rel=>exact⟨n+1,M',_,by simp,by omega,by rw[aY.o];rfl,ba.o,aZ.o,a1.o,bd.o,bl.o,F8.o,bq.o⟩
    case measure=>show ps.length-(n+1)<ps.length-n;omega
  ·have i1:¬(n:Int)<(ps.length:Int):=by omega
   have Y:ps.take n=ps:=by rw[show n=ps.length by omega,take_length]
   have ad:∀x,x∈T.map (·.1)↔x∈ps:=by
    intro x
    rw[←show ps.take n=ps from Y,←I.o x]
    simp
   have a:=zas y.o.nodup ad
   rw[length_map] at a
   have LR:=J (λty=>y.o.lenRun YW ty)
   have o:=zh5 (S:=S) (ps:=ps)
   rw[←Y] at o
   have ax:=@J (xs=(ps.map (yl S)).flatMap zJ) (by
    have h1:=L.o
    rw[Y,show n=ps.length by omega,take_of_length_le (by rw[u.o.1];omega)] at h1
    exact h1)
   have F0:=FR
   clear ad L I ah
   by_cases hnd:ps.Nodup
   ·have j1:(T.length:Int)=(ps.length:Int):=by have:=a.2 hnd;omega
    clear a
    by_cases hm0:Y4 S (ps.take n)=0
    ·have j2:¬(0:Int)<(Y4 S (ps.take n):Int):=by omega
     have r:=@J (Y5 S ps=0) (by unfold Y5;rw[if_pos hnd,if_pos (by rw[←Y];exact o.2 hm0)])
     have a6:=J (HL.o.keep FR.o)
     have av:=@J (wr.ownsRow f 103 33 (.slice (some ⟨f+1,0,none⟩) ps.length ps.length) (zci S ps).length ((zci S ps).flatMap zJ)) (by
      unfold zci
      rw[if_pos r.o,length_map,←ax.o]
      exact u.o)
     have ES:=@J (JI S ps=qg S ps) (by unfold JI;rw[if_pos r.o])
     obtain⟨m2,M2,C,aK,aR,-,-⟩:=H.o.ex
     have bw:m2=m:=by
      rw[hb] at C
      injection C with C
      injection C with e1
      injection e1 with e1
      injection e1 with e1
      injection e1 with e1
      injection e1 with e1
      exact e1.symm
     subst bw
     have ar:=J aK
     have bh:=J aR
     have aw:=@J (p<f∧m2<f) (⟨by have:=HC.o.hi p VM.o.2;omega,by have:=HC.o.hi m2 VM.o.1;omega⟩)
     clear o hm0 Y C aK aR ax u y ag
     go_wp2_with (refine zg rfl (jj rfl rfl (LR.o _)) ?_)
     clear LR
     go_loopw [61] (λiv aX=>∃(g:Nat) (M3:List (zE×yI)),iv=.int .i64 g∧g≤ps.length∧Jc aX m2 M3∧(∀k v,(k,v)∈M3↔(⟨k,v⟩:zr)∈qg S (ps.take g))∧Fr (λj=>j=m2) wr aX) (λiv _=>ps.length-(intOf iv).toNat)
     case atStart=>exact⟨0,M2,rfl,zero_le _,ar.o,by rw[List.take_zero,ziH];exact bh.o,Fr.refl _ _⟩
     case round=>
      obtain⟨g,M3,rfl,bB,aL,aS,aA⟩:=hrel
      have af:=J aL
      have aj:=J aS
      have l:=J aA
      clear aL aS aA
      by_cases h2:g<ps.length
      ·have i2:(g:Int)<(ps.length:Int):=by omega
       obtain⟨q,G⟩:∃x,ps[g]? =some x:=⟨_,getElem?_eq_getElem h2⟩
       obtain⟨b,off,br,hv,hr,-⟩:=a6.o.at_ G
       cases hv
       have d:=J (HL.o.1 q (mem_of_getElem? G))
       have F:=J (z6 d.o)
       have bs:b≠m2:=λe=>by
        subst e
        have h3:=hr 32 _ (zc9 d.o)
        rw[zeX ar.o] at h3
        cases h3
       have R1:=J (za hr l.o bs)
       have N:=(frN wr).alloc (.cells (zn q).toArray 95)
       have cA:(wr.alloc (.cells (zn q).toArray 95)).cell? ⟨p,0,none⟩=some (.map (some m2)):=(zaV (N.obj (l.o.obj HB.o bb.o) id)).1
       have CA:=J cA
       have RB:=J (zy wr (zn q) 95)
       obtain⟨w5,M4,aQ,aB,hD,aF,-⟩:=((af.o.keep N id).keep (frN _).drew id).del JA.keyed ZP (λ_ _=>vw) (qz d.o) 0 95
       have bg:=J aQ
       have a8:=J aB
       have F5:=J ((l.o.trans0 N.drew).trans aF.fr (λi hi e=>e))
       have bj:=@J (∀k v,(k,v)∈M4↔(⟨k,v⟩:zr)∈qg S (ps.take (g+1))) (λk v=>by
        rw[hD k v,aj.o,←zgz G,Jr (ps:=[q])]
        simp only[mem_singleton]
        exact And.comm)
       clear hr G N cA aQ aB hD aF
       go_wp2_with (first|(refine zod rfl rfl rfl R1.o F.o ?_)|(refine zi rfl (zj (w:=wr) (ty:=95) rfl rfl rfl (by rw[F.o];rfl) (by rw[F.o];exact xK) yK) ?_))
       refine yp [ff,ff,ff,ff,ff,tt] (λw'=>w'.cell? ⟨p,0,none⟩=some (.map (some m2))∧w'.rangeAt wr.heap.size 0 (zn q)) (by kernel_rfl) (by kernel_rfl) 5 (by kernel_rfl) (by kernel_rfl) ?_ (λK hK=>?_)
       ·exact⟨CA.o,za RB.o (frN _).drew id⟩
       repeat((first|(refine yb rfl ?_;constructor;constructor;(focus(first|exact zof rfl (λw h=>h.2) F.o|(rintro w' ⟨s1,s2⟩;exact goS))))|(refine yc rfl ?_));try simp only[Act.put,pA,pB,pC])
       (refine ya rfl (λK' hK'=>?_))
       refine yg (jI rfl rfl rfl bg.o) ?_
       refine hK'.out _ _ (λh=>absurd rfl h) (λhS=>?_)
       refine xA (hK.out _ _ ?_)
       go_wp2
       go_roundw
       case rel=>exact⟨g+1,M4,by simp,by omega,a8.o,bj.o,F5.o⟩
       case measure=>show ps.length-(g+1)<ps.length-g;omega
      ·have i2:¬(g:Int)<(ps.length:Int):=by omega
       have aE:ps.take g=ps:=by rw[show g=ps.length by omega,take_length]
       have ak:=aj.o
       rw[aE] at ak
       have CF:=J (H.o.setM HB.o af.o ak (Yy HC.o.srt) (λc hc=>HC.o.ok c (Jr.1 hc).1) l.o)
       have FF:=@J (Fr V w wr) (F0.o.of0.trans l.o (λi hi e=>by subst e;exact VM.o.1))
       have bf:=J (zb av.o l.o (λj e e'=>by have:=(av.o.lt j e).1;have:=aw.o.2;omega))
       clear ak aE aj af i2
       go_wp2
       go_ret2
       exact⟨_,by rw[r.o];rfl,by rw[bx];exact bf.o,by rw[ES.o];exact CF.o,FF.o⟩
    ·have j2:(0:Int)<(Y4 S (ps.take n):Int):=by omega
     have r:=@J (Y5 S ps=9) (by unfold Y5;rw[if_pos hnd,if_neg (λe=>hm0 (o.1 (by rw[Y];exact e)))])
     clear o hm0 Y
     go_wp2_with (refine zg rfl (jj rfl rfl (LR.o _)) ?_)
     go_ret2
     exact⟨_,by rw[r.o];rfl,by unfold zci;rw[if_neg (by rw[r.o];decide)];exact World.ownsRow_nil _ _ _ _,by unfold JI;rw[if_neg (by rw[r.o];decide)];exact H.o,F0.o.of0⟩
   ·have j1:¬(T.length:Int)=(ps.length:Int):=λe=>hnd (a.1 (by omega))
    have r:=@J (Y5 S ps=12) (by unfold Y5;rw[if_neg hnd])
    clear a o Y
    go_wp2_with (refine zg rfl (jj rfl rfl (LR.o _)) ?_)
    go_ret2
    exact⟨_,by rw[r.o];rfl,by unfold zci;rw[if_neg (by rw[r.o];decide)];exact World.ownsRow_nil _ _ _ _,by unfold JI;rw[if_neg (by rw[r.o];decide)];exact H.o,F0.o.of0⟩
end
end
def inB (x:InD):List Int:=x.from_.tx++(leB 4 x.from_.n++((x.key.length:Int)::x.key))
def Ys (o:yI):List Int:=leB 8 o.value++o.lock
def txB (t:TxD):List Int:=leB 4 t.ver++((t.ins.length:Int)::(t.ins.flatMap inB++((t.outs.length:Int)::t.outs.flatMap Ys)))
theorem zk3 {x:InD} (h:x.from_.ok):(inB x).length=37+x.key.length:=by simp[inB,vZ,h.1.1];omega
theorem zjZ {x:yI} (h:x.ok):(Ys x).length=40:=by simp[Ys,vZ,h.2.1]
theorem zbM:∀ {l:List InD},(∀x∈l,x.from_.ok)→(∀x∈l,x.key.length≤64)→(l.flatMap inB).length≤101*l.length
 |[],_,_=>le_refl _
 |x::l,h,k=>by
  have:=zbM (l:=l) (λy a=>h y (.tail _ a)) (λy a=>k y (.tail _ a))
  have b:=zk3 (h x (.head _))
  have c:=k x (.head _)
  simp only[List.flatMap_cons,length_append,length_cons]
  omega
theorem X6:∀ {l:List yI},(∀x∈l,x.ok)→(l.flatMap Ys).length=40*l.length
 |[],_=>rfl
 |x::l,h=>by
  have:=X6 (l:=l) (λy a=>h y (.tail _ a))
  have b:=zjZ (h x (.head _))
  simp only[List.flatMap_cons,length_append,length_cons]
  omega
theorem yZ {t:TxD}:qB t=true↔(∀x∈t.ins,x.key.length≤64)∧t.ins.length≤8∧t.outs.length≤8:=by
 simp[qB]
theorem Qd {α β:Type} (f:α→List β) {l:List α} {x:α} (h:l[n]? =some x):(l.take (n+1)).flatMap f=(l.take n).flatMap f++f x:=by
 rw[take_add_one,h]
 simp
theorem YP (w:World) {o:yI} (ok:o.ok):(w.alloc (.cells (zJ o).toArray 103)).cell? ⟨w.heap.size,0,none⟩=some (.int .u64 o.value)∧(w.alloc (.cells (zJ o).toArray 103)).rangeAt w.heap.size 1 (o.lock.map zN):=by
 have r:=zy w (zJ o) 103
 refine⟨by simpa using r 0 _ rfl,λj u a=>?_⟩
 have:=r (j+1) u (by simpa[zJ] using a)
 rwa [show 0+(j+1)=1+j by omega] at this
theorem za5 {b o:Nat} (h:w.rangeAt b o (l.map zN)) (c:l.length=32) (a:b<w.heap.size):xG w (.slice (some ⟨b,o,none⟩) 32 32) l.length (l.map zN):=by
 rw[c]
 exact .inl (.inr ⟨b,o,32,rfl,le_refl _,by decide,h,a⟩)
theorem qI.step {a b c:World} (fr:Fr No a b) (d:qI b B v l) (g:a.heap.size≤B) (f:Fr (λj=>v.ownBlock=some j) b c):Fr No a c:=fr.trans f (λi hi e=>by have:=(d.lt i e).1;omega)
theorem Yd.ne {v a:Value} {q:Nat} (g:Yd w v a) (b:v.ownBlock≠some q) (c:q<w.heap.size):a.ownBlock≠some q:=λe=>(g q e).elim b (λh=>by omega)
theorem qI.ne (a:qI w B v l) {q:Nat} (b:w.heap.size≤q):v.ownBlock≠some q:=λe=>by have:=(a.lt q e).2;omega
def ziR (w:World) (t:TxD) (e:Ending) (w':World):Prop:=∃v,e=.returned (.tuple #[v,.int .i64 (if qB t=true then 0 else 5)])∧Fr No w w'∧(if qB t=true then qI w' w.heap.size v (txB t) else v=.slice none 0 0)
theorem zln (w:World) {t:TxD} (ht:TxQ w t cs):
  Calls prog 45 #[.agg cs.toArray] w (ziR w t):=by
 have HT:=J ht
 obtain⟨q,r,s,u,rfl,R,hi,ho⟩:=ht
 have zI:=Yb
 have zO:=y9
 have N:=J ((frN w).alloc (.cells #[.int .u32 t.ver,.slice q t.ins.length r,.slice s t.outs.length u] 34))
 have m:=@J ((w.alloc (.cells #[.int .u32 t.ver,.slice q t.ins.length r,.slice s t.outs.length u] 34)).heap.size=w.heap.size+1) (by simp)
 obtain⟨c0,c1,c2,r0⟩:=qW w t.ver (.slice q t.ins.length r) (.slice s t.outs.length u)
 have C0:=J c0
 have C1:=J c1
 have C2:=J c2
 have R0:=J r0
 have HI:=J (hi.keep0 N.o)
 have V:=J (ho.keep N.o)
 have HV:=J R
 have HF:=J (zbD (w.alloc (.cells #[.int .u32 t.ver,.slice q t.ins.length r,.slice s t.outs.length u] 34)) (HT.o.keep N.o))
 have au:[Value.int .u32 t.ver,.slice q t.ins.length r,.slice s t.outs.length u].toArray= #[Value.int .u32 t.ver,.slice q t.ins.length r,.slice s t.outs.length u]:=rfl
 clear hi ho R
 show Calls prog 45 #[.agg #[.int .u32 t.ver,.slice q t.ins.length r,.slice s t.outs.length u]] w _
 by_cases hfm:qB t=true
 rotate_left
 ·have k:qB t=false:=by simpa using hfm
  rw[k] at HF
  have HP:=@J (∀w',Fr No w w'→ziR w t (.returned (.tuple #[.slice none 0 0,.int .i64 5])) w') (λw' f=>⟨.slice none 0 0,by rw[k];rfl,f,by rw[k];rfl⟩)
  clear hfm k c0 c1 c2 r0
  go_enter Tryz.func45,Tryz.ntmps45
  go_wp2_with (first|(refine zoa rfl rfl rfl R0.o rfl ?_;generalize w.alloc (.cells #[.int .u32 t.ver,.slice q t.ins.length r,.slice s t.outs.length u] 34)=w1 at*)|(go_at_call 66;refine HF.o.mono ?_;rintro e w2 ⟨rfl,Q⟩;have F2:=J Q;clear Q))
  go_ret2
  exact HP.o _ (N.o.trans0 F2.o)
 ·obtain⟨hk,av,aw⟩:=yZ.1 hfm
  rw[hfm] at HF
  have HK:=J hk
  have HP:=@J (∀v w',Fr No w w'→qI w' (w.heap.size+1) v (txB t)→ziR w t (.returned (.tuple #[v,.int .i64 0])) w') (λv w' f h=>⟨v,by rw[hfm];rfl,f,by rw[if_pos hfm];exact yU h (Nat.le_succ _)⟩)
  clear hk hfm c0 c1 c2 r0
  go_enter Tryz.func45,Tryz.ntmps45
  have v1:=HV.o.1
  have v2:=HV.o.2
  have e1:(t.ins.length:Int) % 256=(t.ins.length:Int):=by omega
  have e2:(t.outs.length:Int) % 256=(t.outs.length:Int):=by omega
  have⟨M0,M1,M2,M3⟩:=tZ4
  go_wp2_with ((first|((with_reducible refine zt ?_);first|(clear M0;refine zoa rfl rfl rfl R0.o rfl ?_;generalize w.alloc (.cells #[.int .u32 t.ver,.slice q t.ins.length r,.slice s t.outs.length u] 34)=w1 at*)|(clear M3;at_builtin;refine zQ rfl rfl rfl rfl T.o ?_;have cC:=F4.o.cell C1.o id))|(clear M1;go_at_call 66;refine HF.o.mono ?_;rintro e w2 ⟨rfl,Q⟩;have F2:=J (N.o.trans0 Q);have C:=J Q;clear Q;have cA:=C.o.cell C0.o id)|(clear M2;go_at_call 85;refine(zam (qI.nil w2 (w.heap.size+1)) (by have:=m.o;have:=C.o.size;omega) (x:=t.ver) (by omega) (n:=4) (by decide) (by decide)).mono ?_;rintro e w3 ⟨v3,rfl,b3,f3,-⟩;have y:=J (C.o.trans f3 (λi hi e=>(by cases e)));rw[nil_append] at b3;have BL:=J (vZ 4 t.ver);have B:=J b3;clear f3 b3;have cB:=y.o.cell C1.o id;obtain⟨v4,S,d,g,c,z⟩:=Jo w3 (x:=t.ins.length) B.o (by rw[BL.o];decide) (by have:=m.o;have:=y.o.size;omega) 106;have T:=J d;have B4:=J g;have F4:=J (y.o.trans c (λi hi e=>(show False by have:=(B.o.lt i e).1;have:=m.o;omega)));clear d g c z));go_frame)
  have af:=@J ((leB 4 t.ver++[(t.ins.length:Int)]).length=5) (by rw[length_append,vZ];rfl)
  have LE:=@J (txB t=leB 4 t.ver++[(t.ins.length:Int)]++t.ins.flatMap inB++([(t.outs.length:Int)]++t.outs.flatMap Ys)) (by simp[txB])
  have ag:=@J (∀x∈t.ins,x.from_.ok) (λx j=>by
   obtain⟨i,hi⟩:=List.mem_iff_getElem?.1 j
   obtain⟨_,_,_,_,_,_,_,_,_,h,_⟩:=HI.o.at_ hi
   exact h)
  generalize leB 4 t.ver++[(t.ins.length:Int)]=X at*
  go_loopw [4,26] (λbv H wr=>∃n:Nat,H=.int .i64 n∧n≤t.ins.length∧qI wr (w.heap.size+1) bv (X++(t.ins.take n).flatMap inB)∧Fr No w1 wr) (λ_ H _=>t.ins.length-(intOf H).toNat)
  case atStart=>exact⟨0,rfl,zero_le _,by simpa using B4.o,F4.o⟩
  case round=>
   obtain⟨n,rfl,hn,E,fr⟩:=hrel
   have FR:=J fr
   have L:=J E
   have SZ:=@J (w.heap.size+1≤wr.heap.size) (by have:=fr.size;have:=m.o;omega)
   have P:=@J ((X++(t.ins.take n).flatMap inB).length≤5+101*n) (by
    rw[length_append,af.o]
    have:=zbM (l:=t.ins.take n) (λx j=>ag.o x (List.mem_of_mem_take j)) (λx j=>HK.o x (List.mem_of_mem_take j))
    rw[length_take] at this
    omega)
   obtain⟨ba,bc,o⟩:=E.form
   clear fr E
   by_cases F:n<t.ins.length
   ·have i1:(n:Int)<(t.ins.length:Int):=by omega
    obtain⟨x,j⟩:∃x,t.ins[n]? =some x:=⟨_,getElem?_eq_getElem F⟩
    have TF:=J (Qd inB j)
    have KL:=J (HK.o x (mem_of_getElem? j))
    obtain⟨b,off,aj,cs,R,hr,I,K,rfl,a,A⟩:=HI.o.at_ j
    cases R
    have R1:=J (za hr FR.o id)
    have OK:=J a
    have ah:=J A
    have W:=J (vC a (.slice I x.key.length K))
    have O:=J ((frN wr).alloc (.cells (inC x.from_ (.slice I x.key.length K)).toArray 108))
    have D:=@J ((wr.alloc (.cells (inC x.from_ (.slice I x.key.length K)).toArray 108)).heap.size=wr.heap.size+1) (by simp)
    obtain⟨n1,n2⟩:=Xr wr (kv:=.slice I x.key.length K) a
    obtain⟨n3,n4⟩:=zaT n1 a
    have N2:=J n2
    have N4:=@J ((wr.alloc (.cells (inC x.from_ (.slice I x.key.length K)).toArray 108)).cell? ⟨wr.heap.size,32,none⟩=some (.int .u32 x.from_.n)) (by simpa using n4)
    obtain⟨v3,w3,d,g,c,z⟩:=vj _ (L.o.keep0 O.o) (za5 n3 a.1.1 (by have:=D.o;omega)) (by have:=P.o;rw[a.1.1];omega) (by have:=SZ.o;have:=D.o;omega) 106
    have T:=J d
    have B:=J g
    have y:=J (qI.step (FR.o.trans0 O.o) (L.o.keep0 O.o) (by have:=m.o;omega) c)
    have M:=L.o.ne (le_refl _)
    have D3:=J (z.ne M (by have:=D.o;omega))
    have ao:=c.cell N4.o M
    have ad:=J (c.cell N2.o M)
    have QL:=@J (wr.heap.size<w3.heap.size) (by have:=c.size;have:=D.o;omega)
    have al:=a.2.1
    have an:=a.2.2
    have ax:(x.key.length:Int) % 256=(x.key.length:Int):=by have:=KL.o;omega
    have Y:=@J (x.from_.tx.length=32) (a.1.1)
    clear n1 n2 n3 n4 d g c z hr A a j M
    subst o
    generalize ab:X++(t.ins.take n).flatMap inB=Ln at*
    have⟨K0,K1,K2,K3,K4,K5⟩:=tZ6
    go_wp2_with ((first|((with_reducible refine zt ?_);first|(clear K0;refine zn9 rfl rfl rfl R1.o W.o ?_)|(clear K2;at_builtin;refine zQ rfl rfl rfl rfl T.o ?_)|(clear K4;at_builtin;refine zQ rfl rfl rfl rfl A5.o ?_)|(clear K5;at_builtin;refine zQ rfl rfl rfl rfl A6.o ?_))|((with_reducible refine zv ?_);clear K1;refine zoj (w:=wr) (cs:=inC x.from_ (.slice I x.key.length K)) rfl rfl rfl rfl W.o Jj ?_;generalize wr.alloc (.cells (inC x.from_ (.slice I x.key.length K)).toArray 108)=wA at*)|(clear K3;go_at_call 85;refine(zam B.o (by have:=SZ.o;have:=QL.o;omega) (x:=x.from_.n) (by omega) (n:=4) (by decide) (by rw[length_append,Y.o];have:=P.o;omega)).mono ?_;rintro e S ⟨v4,rfl,b4,p,g4⟩;have U:=J b4;have F5:=J (qI.step y.o B.o (by have:=m.o;omega) p);have D5:=J (g4.ne D3.o QL.o);have C5:=J (p.cell ad.o D3.o);have aq:=C5.o;have Q5:=@J (wr.heap.size<S.heap.size) (by have:=p.size;have:=QL.o;omega);have L5:=@J ((Ln++x.from_.tx++leB 4 x.from_.n).length≤41+101*n) (by simp only[length_append,Y.o,vZ];have:=P.o;omega);clear b4 p g4;obtain⟨v5,w5,d,g,c,z⟩:=Jo S (x:=x.key.length) U.o (by have:=L5.o;omega) (by have:=SZ.o;have:=Q5.o;omega) 106;have A5:=J d;have B6:=J g;have F6:=J (qI.step F5.o U.o (by have:=m.o;omega) c);have c5:=c.cell C5.o D5.o;have Q6:=@J (wr.heap.size<w5.heap.size) (by have:=c.size;have:=Q5.o;omega);clear d g c z;obtain⟨v6,w6,d,g,c,-⟩:=vj w5 B6.o (ah.o.2.keep F6.o) (by have:=L5.o;have:=KL.o;rw[length_append];simp only[List.length_singleton];omega) (by have:=SZ.o;have:=Q6.o;omega) 106;have A6:=J d;have B7:=J g;have F7:=J (qI.step F6.o B6.o (by have:=m.o;omega) c);clear d g c));go_frame)
    go_roundw
    case rel=>exact⟨n+1,by go_num,by omega,by rw[TF.o,←append_assoc,ab];simpa[inB] using B7.o,F7.o⟩
    case measure=>simp[intOf];omega
   ·have G:n=t.ins.length:=by omega
    subst G
    have i1:¬(t.ins.length:Int)<(t.ins.length:Int):=by omega
    rw[take_length] at L P
    have c2:=FR.o.cell C2.o id
    obtain⟨v3,w3,d,g,c,z⟩:=Jo wr (x:=t.outs.length) L.o (by have:=P.o;omega) SZ.o 106
    have T:=J d
    have B:=J g
    have y:=J (qI.step FR.o L.o (by have:=m.o;omega) c)
    have cD:=y.o.cell C2.o id
    have ai:=@J ((X++t.ins.flatMap inB++[(t.outs.length:Int)]).length≤1000) (by
     rw[length_append]
     have:=P.o
     simp only[List.length_singleton]
     omega)
    rw[←append_assoc] at LE
    have Z:=J V.o.1
    clear d g c z
    subst o
    generalize ab:X++t.ins.flatMap inB=Ln at*
    go_wp2_with (first|(at_builtin;refine zQ rfl rfl rfl rfl T.o ?_))
    generalize ar:Ln++[(t.outs.length:Int)]=Lm at*
    go_loopw [4,63] (λbv H wr=>∃n:Nat,H=.int .i64 n∧n≤t.outs.length∧qI wr (w.heap.size+1) bv (Lm++(t.outs.take n).flatMap Ys)∧Fr No w1 wr) (λ_ H _=>t.outs.length-(intOf H).toNat)
    case atStart=>exact⟨0,rfl,zero_le _,by simpa using B.o,y.o⟩
    case round=>
     obtain⟨n,rfl,hn,E,fr⟩:=hrel
     have FS:=J fr
     have BS:=J E
     have SY:=@J (w.heap.size+1≤wr.heap.size) (by have:=fr.size;have:=m.o;omega)
     have aa:=@J ((Lm++(t.outs.take n).flatMap Ys).length≤1000+40*n) (by
      rw[length_append,X6 (λx j=>Z.o x (List.mem_of_mem_take j)),length_take]
      have:=ai.o
      omega)
     obtain⟨ba,bc,o⟩:=E.form
     clear fr E
     by_cases F:n<t.outs.length
     ·have i1:(n:Int)<(t.outs.length:Int):=by omega
      obtain⟨x,j⟩:∃x,t.outs[n]? =some x:=⟨_,getElem?_eq_getElem F⟩
      have TF:=J (Qd Ys j)
      obtain⟨b,off,aj,R,hr,-⟩:=V.o.at_ j
      cases R
      have a:=Z.o x (mem_of_getElem? j)
      have R1:=J (za hr FS.o id)
      have OK:=J a
      have W:=J (yz a)
      have O:=J ((frN wr).alloc (.cells (zJ x).toArray 103))
      have D:=@J ((wr.alloc (.cells (zJ x).toArray 103)).heap.size=wr.heap.size+1) (by simp)
      obtain⟨n1,n2⟩:=YP wr a
      have N2:=J n2
      have al:=a.1.1
      have an:=a.1.2
      have Y:=J a.2.1
      have M:=J (BS.o.ne (le_refl _))
      have FW:=J (FS.o.trans0 O.o)
      have BW:=J (BS.o.keep0 O.o)
      clear n2 hr a j
      subst o
      generalize ak:Lm++(t.outs.take n).flatMap Ys=Lo at*
      have⟨K0,K1,K2,K3⟩:=tZ4
      go_wp2_with ((first|((with_reducible refine zt ?_);first|(clear K0;refine zob rfl rfl rfl R1.o W.o ?_)|(clear K3;at_builtin;refine zQ rfl rfl rfl rfl A6.o ?_))|((with_reducible refine zv ?_);clear K1;refine zok (w:=wr) (cs:=zJ x) rfl rfl rfl rfl W.o yf ?_;generalize wr.alloc (.cells (zJ x).toArray 103)=wA at*)|(clear K2;go_at_call 85;refine(zam BW.o (by have:=SY.o;have:=D.o;omega) (x:=x.value) (by omega) (n:=8) (by decide) (by have:=aa.o;omega)).mono ?_;rintro e S ⟨v4,rfl,b4,p,g4⟩;have U:=J b4;have F5:=J (qI.step FW.o BW.o (by have:=m.o;omega) p);have N5:=J (za N2.o p M.o);have Q5:=@J (wr.heap.size<S.heap.size) (by have:=p.size;have:=D.o;omega);clear b4 p g4;obtain⟨v6,w6,d,g,c,-⟩:=vj S U.o (za5 N5.o Y.o Q5.o) (by simp only[length_append,Y.o,vZ];have:=aa.o;omega) (by have:=SY.o;have:=Q5.o;omega) 106;have A6:=J d;have B7:=J g;have F7:=J (qI.step F5.o U.o (by have:=m.o;omega) c);clear d g c));go_frame)
      go_roundw
      case rel=>exact⟨n+1,by go_num,by omega,by rw[TF.o,←append_assoc,ak];simpa[Ys] using B7.o,F7.o⟩
      case measure=>simp[intOf];omega
     ·have G:n=t.outs.length:=by omega
      subst G
      have i1:¬(t.outs.length:Int)<(t.outs.length:Int):=by omega
      rw[take_length] at BS
      have ae:=J (HP.o _ wr (N.o.trans0 FS.o) (by rw[LE.o];exact BS.o))
      subst o
      generalize (Lm++(t.outs.take t.outs.length).flatMap Ys).length=zz at*
      go_wp2
      go_ret2
      exact ae.o
def idE (t:TxD):Int:=if qB t=true then 0 else 5
def idH (t:TxD):zd:=if qB t=true then vN (txB t) else yR
theorem qC (t:TxD):zY (idH t):=by
 unfold idH
 split
 ·exact Ya _
 ·exact xM
theorem zlL {t:TxD} (h:qB t=true) (hi:∀x∈t.ins,x.from_.ok) (d:∀x∈t.outs,x.ok):(txB t).length≤100000:=by
 obtain⟨c,e,f⟩:=yZ.1 h
 have a:=zbM hi c
 have b:=X6 d
 simp only[txB,length_append,length_cons,vZ]
 omega
theorem TxQ.oks {t:TxD} (h:TxQ w t cs):(∀x∈t.ins,x.from_.ok)∧∀x∈t.outs,x.ok:=by
 obtain⟨d,e,f,g,-,-,hi,b⟩:=h
 refine⟨λx c=>?_,b.1⟩
 obtain⟨i,a⟩:=List.mem_iff_getElem?.1 c
 obtain⟨_,_,_,_,_,_,_,_,_,h,_⟩:=hi.at_ a
 exact h
theorem TxQ.form {t:TxD} (h:TxQ w t cs):∃a b c d,cs=[.int .u32 t.ver,.slice a t.ins.length b,.slice c t.outs.length d]:=by
 obtain⟨a,b,c,d,e,-⟩:=h
 exact⟨a,b,c,d,e⟩
theorem Ji:(zf yR).toArray.size=32:=rfl
theorem Xh (w:World):(Instr.build 41 #[]).run prog w=.ok (.agg (zf yR).toArray) w:=by kernel_rfl
theorem Xq (Q:q9 w) {t:TxD} (y:TxQ w t cs):
  Calls prog 15 #[.agg cs.toArray] w λe w'=>e=.returned (.tuple #[.agg (zf (idH t)).toArray,.int .i64 (idE t)])∧Fr No w w':=by
 have zH:=yS
 obtain⟨dH,S,R⟩:=Zw
 obtain⟨k,l,m,o,F⟩:=y.form
 subst F
 have K:=J y.oks
 have N:Fr No w (w.alloc (.cells #[.int .u32 t.ver,.slice k t.ins.length l,.slice m t.outs.length o] 34)):=(frN w).alloc _
 have R0:=J (za (qW w t.ver (.slice k t.ins.length l) (.slice m t.outs.length o)).2.2.2 ((frN _).alloc (.cells (zf yR).toArray 41)) id)
 have x:=J (N.alloc (.cells (zf yR).toArray 41))
 have H:=J (yJ (w.alloc (.cells #[.int .u32 t.ver,.slice k t.ins.length l,.slice m t.outs.length o] 34)) (.cells (zf yR).toArray 41) (n:=w.heap.size+1) (by simp))
 have M:=J (zln _ (y.keep x.o))
 have U:=J (Q.keep0 x.o)
 have W:=J (λh=>zlL (t:=t) h K.o.1 K.o.2)
 clear y N Q
 show Calls prog 15 #[.agg #[.int .u32 t.ver,.slice k t.ins.length l,.slice m t.outs.length o]] w _
 go_enter Tryz.func15,Tryz.ntmps15
 by_cases a:qB t=true
 ·have q:=@J (idE t=0∧idH t=vN (txB t)) (⟨by simp[idE,a],by simp[idH,a]⟩)
  have E:=J (W.o a)
  have d:=J a
  have f:=@J ((zf (vN (txB t))).length=32) (zx (Ya _))
  clear a
  have⟨A,B,C,D⟩:=tZ4
  go_wp2_with ((first|((with_reducible refine zt ?_);clear A;refine zoa rfl rfl rfl R0.o rfl ?_;generalize (w.alloc (.cells #[.int .u32 t.ver,.slice k t.ins.length l,.slice m t.outs.length o] 34)).alloc (.cells (zf yR).toArray 41)=w2 at*)|(clear B;go_at_call 45;refine M.o.mono ?_;rintro e u ⟨v,rfl,s,g⟩;rw[if_pos d.o] at g;rw[if_pos d.o];have j:=J s;have T:=J g;obtain⟨Z,vc,G⟩:=g.form;subst G;have V:=J (U.o.keep0 j.o);have z:=@J (Fr No u (u.alloc (.cells #[.slice Z (txB t).length vc] 106))) ((frN u).alloc _);have r:=J (zdh (V.o.keep0 z.o) (v:=.slice (some ⟨u.heap.size,0,none⟩) 1 1) (L:=[txB t]) (zb2 T.o.slice.arg) (by simp) (by have:=E.o;simp;omega));rw[show[txB t].flatten=txB t by simp] at r;clear s g;generalize vN (txB t)=X at*)|(clear C;go_at_call 46;refine r.o.mono ?_;rintro e w5 ⟨rfl,O⟩;have I:=J O;clear O;have p:=J (I.o.obj (z.o.obj (j.o.obj H.o id) id) id))|((with_reducible refine zv ?_);clear D;refine zi rfl (zK (ty:=41) (b:=w.heap.size+1) (off:=0) (cs:=zf X) rfl rfl rfl (by rw[f.o];exact zX p.o (le_of_eq Ji.symm)) (by rw[f.o];exact yt) zU) ?_));go_frame)
  refine bodyPost_ret (ym (P:=prog) (fn:=Tryz.f15) rfl _ rfl (yx p.o (by rw[f.o];exact Ji)) S R (by rw[f.o];exact yt) rfl) rfl ⟨by rw[q.o.1,q.o.2];rfl,?_⟩
  exact(((x.o.trans0 j.o).trans0 z.o).trans0 I.o).trans (zu _ _ _ _) (λi hi e=>by omega)
 ·have c:qB t=false:=by simpa using a
  have q:=@J (idE t=5∧idH t=yR) (⟨by simp[idE,c],by simp[idH,c]⟩)
  have d:=J c
  have f:=@J ((zf yR).length=32) (rfl)
  clear a c
  have⟨A,B,C,D⟩:=tZ4
  go_wp2_with ((first|((with_reducible refine zt ?_);first|(clear A;refine zoa rfl rfl rfl R0.o rfl ?_;generalize (w.alloc (.cells #[.int .u32 t.ver,.slice k t.ins.length l,.slice m t.outs.length o] 34)).alloc (.cells (zf yR).toArray 41)=w2 at*)|(clear C;with_reducible refine yv 13 ?_;refine zg rfl (yk (t:=41) rfl rfl (Xh _)) ?_))|(clear B;go_at_call 45;refine M.o.mono ?_;rintro e u ⟨v,rfl,s,g⟩;rw[d.o] at g;have Y:v=.slice none 0 0:=g;subst Y;rw[d.o];have j:=J s;clear s g;have p:=J (j.o.obj H.o id))|((with_reducible refine zv ?_);clear D;refine zi rfl (zK (ty:=41) (b:=w.heap.size+1) (off:=0) (cs:=zf yR) rfl rfl rfl (by rw[f.o];exact zX p.o (le_of_eq Ji.symm)) (by rw[f.o];exact yt) zU) ?_));go_frame)
  refine bodyPost_ret (ym (P:=prog) (fn:=Tryz.f15) rfl _ rfl (yx p.o (by rw[f.o];exact Ji)) S R (by rw[f.o];exact yt) rfl) rfl ⟨by rw[q.o.1,q.o.2];rfl,?_⟩
  exact(x.o.trans0 j.o).trans (zu _ _ _ _) (λi hi e=>by omega)
def ZJ (id:zd) (l:List yI):List zr:=l.mapIdx λi x=>⟨⟨id,(i:Int)⟩,x⟩
theorem Jd (id:zd) (l:List yI):(ZJ id l).length=l.length:=by simp[ZJ]
theorem Vy (id:zd) {l:List yI} {i:Nat} {x:yI} (h:l[i]? =some x):(ZJ id l)[i]? =some ⟨⟨id,(i:Int)⟩,x⟩:=by simp[ZJ,h]
theorem Vz {id:zd} {l:List yI} (hi:zY id) (e:∀x∈l,x.ok) (g:l.length≤4294967296):∀c∈ZJ id l,c.ok:=by
 intro c d
 obtain⟨i,a⟩:=List.mem_iff_getElem?.1 d
 have b:i<l.length:=by have:=(List.getElem?_eq_some_iff.1 a).1;rwa [Jd] at this
 have f:l[i]? =some l[i]:=getElem?_eq_getElem b
 rw[Vy id f] at a
 cases a
 exact⟨⟨hi,by show(0:Int)≤(i:Int);omega,by show(i:Int)≤_;omega⟩,e _ (List.getElem_mem b)⟩
theorem zfd:xH prog 95=some (33,[(0,32),(32,1)]):=by kernel_rfl
theorem zgZ {h:zd} (c:zY h) (n:Int):Jx (([(0,32),(32,1)]:List (Nat×Nat)).toArray[·]?) 0 [(0,.agg (zf h).toArray),(1,.int .u32 n)]:=by
 have a:(Value.agg (zf h).toArray).cells.size=32:=by show(zf h).toArray.size=32;simpa using zx c
 have b:(Value.int .u32 n).cells.size=1:=rfl
 simp only[Jx,a,b]
 exact⟨rfl,rfl,trivial⟩
theorem zfc (h:zd) (n:Int):xE [(0,.agg (zf h).toArray),(1,.int .u32 n)]=zn ⟨h,n⟩:=by
 have a:(Value.agg (zf h).toArray).cells.toList=zf h:=by show(zf h).toArray.toList=_;simp
 have b:(Value.int .u32 n).cells.toList=[.int .u32 n]:=rfl
 simp only[xE,List.flatMap_cons,List.flatMap_nil,a,b,zn,List.append_nil]
 rfl
theorem zb3:xH prog 214=some (66,[(0,33),(33,33)]):=by kernel_rfl
theorem zdA {p:zE} {o:yI} (c:p.ok) (b:o.ok):Jx (([(0,33),(33,33)]:List (Nat×Nat)).toArray[·]?) 0 [(0,.agg (zn p).toArray),(1,.agg (zJ o).toArray)]:=by
 have h:(Value.agg (zn p).toArray).cells.size=33:=by show(zn p).toArray.size=33;simpa using z6 c
 have a:(Value.agg (zJ o).toArray).cells.size=33:=by show(zJ o).toArray.size=33;simpa using yz b
 simp only[Jx,h,a]
 exact⟨rfl,rfl,trivial⟩
theorem zbZ (p:zE) (o:yI):xE [(0,.agg (zn p).toArray),(1,.agg (zJ o).toArray)]=yW ⟨p,o⟩:=by
 have h:(Value.agg (zn p).toArray).cells.toList=zn p:=by show(zn p).toArray.toList=_;simp
 have a:(Value.agg (zJ o).toArray).cells.toList=zJ o:=by show(zJ o).toArray.toList=_;simp
 simp[xE,yW,h,a]
theorem zal {α:Type} (f:α→List Value) {A:List α} {y:α} (e:A[n]? =some y) (b:(f y).length=k) (d:xs.take (n*k)=(A.take n).flatMap f) (c:n*k+k≤xs.length):
  (setM xs (n*k) (f y)).take ((n+1)*k)=(A.take (n+1)).flatMap f:=by
 have a:=VP xs (f y) (n*k) (by rw[b];exact c)
 rw[b] at a
 rw[show(n+1)*k=n*k+k by rw[Nat.add_mul,Nat.one_mul],a,d,take_add_one,e]
 simp
theorem VA (w:World) {id:zd} (hi:zY id) {l:List yI} (W:xu w v l) (hN:l.length≤1000):
  Calls prog 70 #[.agg (zf id).toArray,v] w λe w'=>∃v',e=.returned v'∧w'.ownsRow w.heap.size 214 66 v' l.length ((ZJ id l).flatMap yW)∧Fr No w w':=by
 obtain⟨iK,D,hz,a,B⟩:=info_parts zaq
 have zo:=y9
 have F1:=(frN w).alloc (.cells (zf id).toArray 41)
 have H:(w.alloc (.cells (zf id).toArray 41)).heap.size=w.heap.size+1:=by simp
 obtain⟨w2,F,d,C⟩:=run_makeSlice_full (P:=prog) (w:=w.alloc (.cells (zf id).toArray 41)) (w.heap.size) 145 214 iK _ 66 VY D hz a .i64 .i64 l.length (by omega) (by rw[B];omega) (by unfold maxLen;omega) (by simp)
 have m:Fr No (w.alloc (.cells (zf id).toArray 41)) w2:=Fr.of_grown C (λk e=>by cases e)
 have F2:=J (F1.trans0 m)
 have O:=J (m.obj (yj w (.cells (zf id).toArray 41)) _root_.id)
 rw[H] at F d
 have r:=J d
 have HL:=J W
 have y:=J hi
 have Q:=J (zx hi)
 obtain⟨va,vc,rfl⟩:=W.2.form
 have z:=@J (w.heap.size+1<w2.heap.size) ((d.lt _ rfl).2)
 clear hi W D hz a B d C m H
 go_enter Tryz.func70,Tryz.ntmps70
 go_wp2_with fail
 clear F
 obtain⟨g,o⟩:∃g,g=w.heap.size+1:=⟨_,rfl⟩
 have Z:=J o
 rw[←o] at r z⊢
 clear o
 go_loopw [13] (λY wr=>∃(n:Nat) (xs:List Value),Y=.int .i64 n∧n≤l.length∧wr.ownsRow (w.heap.size) 214 66 (.slice (some ⟨g,0,none⟩) l.length l.length) l.length xs∧xs.take (n*66)=((ZJ id l).take n).flatMap yW∧Fr No w wr∧g<wr.heap.size∧wr.heap[w.heap.size]? =some (.cells (zf id).toArray 41 (0,0))) (λY _=>l.length-(intOf Y).toNat)
 case atStart=>exact⟨0,_,rfl,zero_le _,r.o,by simp,F2.o,z.o,O.o⟩
 case round=>
  obtain⟨n,xs,rfl,hn,G,I,fr,a,A⟩:=hrel
  have N:=J fr
  have c:=J G
  have u:=J I
  have S:=J a
  have q:=J A
  clear fr G I a A
  by_cases E:n<l.length
  ·have i1:(n:Int)<(l.length:Int):=by omega
   obtain⟨x,L⟩:∃x,l[n]? =some x:=⟨_,getElem?_eq_getElem E⟩
   obtain⟨b,off,aa,hv,hr,-⟩:=(HL.o.keep N.o).at_ L
   cases hv
   have j:=J (HL.o.1 x (mem_of_getElem? L))
   have U:=J (yz j.o)
   have R1:=J hr
   have f:=@J ((⟨id,(n:Int)⟩:zE).ok) (⟨y.o,by show(0:Int)≤(n:Int);omega,by show(n:Int)≤_;omega⟩)
   have HX:=J (Vy id L)
   have p:=@J ((yW ⟨⟨id,(n:Int)⟩,x⟩).length=66) (jT ⟨f.o,j.o⟩)
   have PL:=J (z6 f.o)
   have V:(n:Int) % 4294967296=(n:Int):=by omega
   have K:=(frN wr).alloc (.cells (zJ x).toArray 103)
   have M:=J K
   have RO:=J (zy wr (zJ x) 103)
   have RH:=@J ((wr.alloc (.cells (zJ x).toArray 103)).rangeAt (w.heap.size) 0 (zf id)) (za (zq q.o) K (λh=>h))
   have s:=J (zb c.o K (λ_ _=>_root_.id))
   have TH:=J (Js s.o E)
   have R:=J (qX s.o (n*66) (cs:=yW ⟨⟨id,(n:Int)⟩,x⟩) (by rw[p.o];omega))
   have T:=J (zal yW HX.o p.o u.o (by rw[c.o.1];omega))
   clear hr L K
   have⟨K0,K1,K2,K3,K4,K5,K6⟩:=tZ7
   go_wp2_with ((first|((with_reducible refine zt ?_);first|(clear K0;refine zob rfl rfl rfl R1.o U.o ?_)|(clear K2;refine zoc rfl rfl rfl RH.o Q.o ?_)|(clear K3;refine zg rfl (yQ (t:=95) (vs:=[(0,.agg (zf id).toArray),(1,.int .u32 n)]) rfl (by simp[Act.eval,V]) zfd (zgZ y.o n) (zfc id n) (by rw[PL.o])) ?_)|(clear K4;refine zob rfl rfl rfl RO.o U.o ?_)|(clear K5;refine zg rfl (yQ (t:=214) (vs:=[(0,.agg (zn ⟨id,(n:Int)⟩).toArray),(1,.agg (zJ x).toArray)]) rfl rfl zb3 (zdA f.o j.o) (zbZ _ _) (by rw[p.o])) ?_))|((with_reducible refine zv ?_);first|(clear K1;refine zok (w:=wr) (cs:=zJ x) rfl rfl rfl rfl U.o yf ?_;generalize wr.alloc (.cells (zJ x).toArray 103)=wA at*)|(clear K6;refine zi rfl (zK (ty:=214) (b:=g) (off:=n*66) (cs:=yW ⟨⟨id,(n:Int)⟩,x⟩) rfl rfl rfl (by rw[p.o];exact TH.o) (by rw[p.o];exact JZ) Zo) ?_)));go_frame)
   go_roundw
   case rel=>exact⟨n+1,_,by go_num,by omega,R.o,T.o,(N.o.trans0 M.o).trans (zu _ _ _ _) (λi hi e=>by have:=Z.o;omega),by have:=(zu g (yW ⟨⟨id,(n:Int)⟩,x⟩) (n*66) wA).size;have:=M.o.size;have:=S.o;omega,(zu g (yW ⟨⟨id,(n:Int)⟩,x⟩) (n*66) wA).obj (M.o.obj q.o _root_.id) (λe=>by have:=Z.o;omega)⟩
   case measure=>simp[intOf];omega
  ·have X:n=l.length:=by omega
   have i1:¬(n:Int)<(l.length:Int):=by omega
   have HE:=@J (xs=(ZJ id l).flatMap yW) (by
    have:=u.o
    rw[X,take_of_length_le (by rw[c.o.1];exact le_refl _),take_of_length_le (by rw[Jd];exact le_refl _)] at this
    exact this)
   go_wp2
   go_ret
   exact⟨_,rfl,by rw[←HE.o];exact c.o,N.o⟩
def zZ (t:TxD):List zE:=t.ins.map (·.from_)
theorem jd (w:World) {t:TxD} (ht:TxQ w t cs) (hN:t.ins.length≤1000):
  Calls prog 33 #[.agg cs.toArray] w λe w'=>∃Z,e=.returned Z∧w'.ownsRow w.heap.size 95 33 Z t.ins.length ((zZ t).flatMap zn)∧Fr No w w':=by
 obtain⟨l,m,o,p,rfl,-,hi,-⟩:=ht
 obtain⟨iK,A,Y,a,y⟩:=info_parts QP
 have zI:=Yb
 have F1:=(frN w).alloc (.cells #[.int .u32 t.ver,.slice l t.ins.length m,.slice o t.outs.length p] 34)
 have F:(w.alloc (.cells #[.int .u32 t.ver,.slice l t.ins.length m,.slice o t.outs.length p] 34)).heap.size=w.heap.size+1:=by simp
 obtain⟨w2,D,d,z⟩:=run_makeSlice_full (P:=prog) (w:=w.alloc (.cells #[.int .u32 t.ver,.slice l t.ins.length m,.slice o t.outs.length p] 34)) (w.heap.size) 91 95 iK _ 33 YA A Y a .i64 .i64 t.ins.length (by omega) (by rw[y];omega) (by unfold maxLen;omega) (by simp)
 have h:Fr No (w.alloc (.cells #[.int .u32 t.ver,.slice l t.ins.length m,.slice o t.outs.length p] 34)) w2:=Fr.of_grown z (λk e=>by cases e)
 have F2:=J (F1.trans0 h)
 obtain⟨c0,c1,-,-⟩:=qW w t.ver (.slice l t.ins.length m) (.slice o t.outs.length p)
 have Q:=h.cell c1 _root_.id
 rw[F] at D d
 have r:=J d
 have HI:=J hi
 have v:=@J (w.heap.size+1<w2.heap.size) ((d.lt _ rfl).2)
 clear hi A Y a y d z h F
 show Calls prog 33 #[.agg #[.int .u32 t.ver,.slice l t.ins.length m,.slice o t.outs.length p]] w _
 go_enter Tryz.func33,Tryz.ntmps33
 go_wp2_with fail
 clear D c0 c1 Q
 obtain⟨g,j⟩:∃g,g=w.heap.size+1:=⟨_,rfl⟩
 have G0:=J j
 rw[←j] at r v⊢
 clear j
 go_loopw [13] (λU wr=>∃(n:Nat) (xs:List Value),U=.int .i64 n∧n≤t.ins.length∧wr.ownsRow (w.heap.size) 95 33 (.slice (some ⟨g,0,none⟩) t.ins.length t.ins.length) t.ins.length xs∧xs.take (n*33)=((zZ t).take n).flatMap zn∧Fr No w wr∧g<wr.heap.size) (λU _=>t.ins.length-(intOf U).toNat)
 case atStart=>exact⟨0,_,rfl,zero_le _,r.o,by simp,F2.o,v.o⟩
 case round=>
  obtain⟨n,xs,rfl,hn,E,G,fr,a⟩:=hrel
  have K:=J fr
  have c:=J E
  have u:=J G
  have M:=J a
  clear fr E G a
  by_cases C:n<t.ins.length
  ·have i1:(n:Int)<(t.ins.length:Int):=by omega
   obtain⟨x,T⟩:∃x,t.ins[n]? =some x:=⟨_,getElem?_eq_getElem C⟩
   obtain⟨b,off,aa,cs,hv,X,H,I,rfl,f,B⟩:=(HI.o.keep0 K.o).at_ T
   cases hv
   have R1:=J X
   have O:=J f
   have W:=J (vC f (.slice H x.key.length I))
   have HX:=@J ((zZ t)[n]? =some x.from_) (by simp[zZ,T])
   have q:=J (z6 O.o)
   have R:=(frN wr).alloc (.cells (inC x.from_ (.slice H x.key.length I)).toArray 108)
   have V:=J R
   have RP:=J (Xr wr (kv:=.slice H x.key.length I) f).1
   have s:=J (zb c.o R (λ_ _=>_root_.id))
   have TH:=J (Js s.o C)
   have L:=J (qX s.o (n*33) (cs:=zn x.from_) (by rw[q.o];omega))
   have N:=J (zal zn HX.o q.o u.o (by rw[c.o.1];omega))
   clear X T R B f
   have⟨K0,K1,K2,K3⟩:=tZ4
   go_wp2_with ((first|((with_reducible refine zt ?_);first|(clear K0;refine zn9 rfl rfl rfl R1.o W.o ?_)|(clear K2;refine zod rfl rfl rfl RP.o q.o ?_))|((with_reducible refine zv ?_);first|(clear K1;refine zoj (w:=wr) (cs:=inC x.from_ (.slice H x.key.length I)) rfl rfl rfl rfl W.o Jj ?_;generalize wr.alloc (.cells (inC x.from_ (.slice H x.key.length I)).toArray 108)=wA at*)|(clear K3;refine zi rfl (zK (ty:=95) (b:=g) (off:=n*33) (cs:=zn x.from_) rfl rfl rfl (by rw[q.o];exact TH.o) (by rw[q.o];exact xK) yK) ?_)));go_frame)
   go_roundw
   case rel=>exact⟨n+1,_,by go_num,by omega,L.o,N.o,(K.o.trans0 V.o).trans (zu _ _ _ _) (λi hi e=>by have:=G0.o;omega),by have:=(zu g (zn x.from_) (n*33) wA).size;have:=V.o.size;have:=M.o;omega⟩
   case measure=>simp[intOf];omega
  ·have S:n=t.ins.length:=by omega
   have i1:¬(n:Int)<(t.ins.length:Int):=by omega
   have HE:=@J (xs=(zZ t).flatMap zn) (by
    have:=u.o
    rw[S,take_of_length_le (by rw[c.o.1];exact le_refl _),take_of_length_le (by simp[zZ])] at this
    exact this)
   go_wp2
   go_ret
   exact⟨_,rfl,by rw[←HE.o];exact c.o,K.o⟩
def zdo (w:World) (t:TxD) (e:Ending) (w':World):Prop:=∃v,e=.returned (.tuple #[v,.int .i64 (idE t)])∧Fr No w w'∧(if qB t=true then w'.ownsRow w.heap.size 214 66 v t.outs.length ((ZJ (idH t) t.outs).flatMap yW) else v=.slice none 0 0)
theorem zhC (hg:q9 w) {t:TxD} (ht:TxQ w t cs):
  Calls prog 165 #[.agg cs.toArray] w (zdo w t):=by
 have HT:=J ht
 have oks:=ht.oks
 obtain⟨B,C,D,E,rfl,hv,-,ho⟩:=ht
 have zo:=y9
 have zH:=yS
 have G:=J ((frN w).alloc (.cells #[.int .u32 t.ver,.slice B t.ins.length C,.slice D t.outs.length E] 34))
 have N:=@J ((w.alloc (.cells #[.int .u32 t.ver,.slice B t.ins.length C,.slice D t.outs.length E] 34)).heap.size=w.heap.size+1) (by simp)
 obtain⟨c0,c1,c2,r0⟩:=qW w t.ver (.slice B t.ins.length C) (.slice D t.outs.length E)
 have R0:=J r0
 have C2:=J c2
 have K:=J (Xq (hg.keep0 G.o) (HT.o.keep G.o))
 have m:=J (zx (qC t))
 have Q:=J (qC t)
 have L:=J ho
 clear ho hv c0 c1 c2 r0
 show Calls prog 165 #[.agg #[.int .u32 t.ver,.slice B t.ins.length C,.slice D t.outs.length E]] w _
 by_cases hfm:qB t=true
 rotate_left
 ·have c:qB t=false:=by simpa using hfm
  have u:idE t=5:=by simp[idE,c]
  have HP:=@J (∀w',Fr No w w'→zdo w t (.returned (.tuple #[.slice none 0 0,.int .i64 5])) w') (λw' f=>⟨.slice none 0 0,by rw[u],f,by rw[c];rfl⟩)
  rw[u] at K
  clear hfm c u
  generalize idH t=id at*
  go_enter Tryz.func165,Tryz.ntmps165
  have⟨R,S,T⟩:=tZ3
  go_wp2_with ((first|((with_reducible refine zt ?_);clear R;refine zoa rfl rfl rfl R0.o rfl ?_;generalize w.alloc (.cells #[.int .u32 t.ver,.slice B t.ins.length C,.slice D t.outs.length E] 34)=w1 at*)|(clear S;go_at_call 15;refine K.o.mono ?_;rintro e a ⟨rfl,r⟩;have A:=J (G.o.trans0 r);clear r;have H:=@J (Fr No a (a.alloc (.cells (zf id).toArray 41))) ((frN a).alloc _))|((with_reducible refine zv ?_);clear T;refine zol (w:=a) (cs:=zf id) rfl rfl rfl rfl m.o zU ?_));go_frame)
  go_ret2
  exact HP.o _ (A.o.trans0 H.o)
 ·have u:idE t=0:=by simp[idE,hfm]
  have av:t.outs.length≤8:=(yZ.1 hfm).2.2
  obtain⟨l,hl⟩:∃l,l=t.outs:=⟨_,rfl⟩
  have HP:=@J (∀v w',Fr No w w'→w'.ownsRow w.heap.size 214 66 v l.length ((ZJ (idH t) l).flatMap yW)→zdo w t (.returned (.tuple #[v,.int .i64 0])) w') (λv w' f h=>⟨v,by rw[u],f,by rw[if_pos hfm,←hl];exact h⟩)
  rw[u] at K
  rw[←hl] at av R0 C2 K L G N⊢
  clear hl
  clear hfm u
  generalize idH t=id at*
  go_enter Tryz.func165,Tryz.ntmps165
  have HL:=J L.o
  obtain⟨iK,X,hz,d,V⟩:=info_parts zaq
  have MK:=J (λ(w3:World)=>run_makeSlice_full (P:=prog) (w:=w3) w3.heap.size 145 214 iK _ 66 VY X hz d .i64 .i64 l.length (by omega) (by rw[V];omega) (by unfold maxLen;omega) (le_refl _))
  clear X hz d V
  have⟨R,S,T⟩:=tZ3
  go_wp2_with ((first|((with_reducible refine zt ?_);clear R;refine zoa rfl rfl rfl R0.o rfl ?_;generalize w.alloc (.cells #[.int .u32 t.ver,.slice B t.ins.length C,.slice D l.length E] 34)=w1 at*)|(clear S;go_at_call 15;refine K.o.mono ?_;rintro e a ⟨rfl,r⟩;have A:=J (G.o.trans0 r);have aj:=J r.size;have ad:=J (r.cell C2.o _root_.id);clear r)|((with_reducible refine zv ?_);clear T;refine zol (w:=a) (cs:=zf id) rfl rfl rfl rfl m.o zU ?_;have H:=@J (Fr No a (a.alloc (.cells (zf id).toArray 41))) ((frN a).alloc _);have af:=J (yj a (.cells (zf id).toArray 41));have ak:=@J ((a.alloc (.cells (zf id).toArray 41)).heap.size=a.heap.size+1) (by simp);generalize a.alloc (.cells (zf id).toArray 41)=w3 at*;generalize a.heap.size=q3 at*;obtain⟨w4,Z,z,W⟩:=MK.o w3;have s:Fr No w3 w4:=Fr.of_grown W (λk e=>by cases e);have F4:=J s;rw[ak.o] at Z z;have o:=J z;have c2:=H.o.cell ad.o _root_.id;have aq:=s.cell c2 _root_.id;clear W z s));go_frame)
  clear Z c2 aq
  obtain⟨g,y⟩:∃g,g=q3+1:=⟨_,rfl⟩
  have G0:=@J (g=q3+1∧w.heap.size+1≤q3) (⟨y,by have:=N.o;have:=aj.o;omega⟩)
  rw[←y] at o⊢
  have ao:=@J (g<w4.heap.size) ((o.o.lt _ rfl).2)
  have ah:=J (yU o.o (show w.heap.size≤g by have:=G0.o;omega))
  have ae:=J (F4.o.obj af.o _root_.id)
  have FF:=J ((A.o.trans0 H.o).trans0 F4.o)
  clear y A H F4
  have A:=J FF.o
  go_loopw [24] (λiv wr=>∃(n:Nat) (xs:List Value),iv=.int .i64 n∧n≤l.length∧wr.ownsRow (w.heap.size) 214 66 (.slice (some ⟨g,0,none⟩) l.length l.length) l.length xs∧xs.take (n*66)=((ZJ id l).take n).flatMap yW∧Fr No w wr∧g<wr.heap.size∧wr.heap[q3]? =some (.cells (zf id).toArray 41 (0,0))) (λiv _=>l.length-(intOf iv).toNat)
  case atStart=>exact⟨0,_,rfl,zero_le _,ah.o,by simp,A.o,ao.o,ae.o⟩
  case round=>
   obtain⟨n,xs,rfl,hn,aa,ab,fr,d,U⟩:=hrel
   have FR:=J fr
   have j:=J aa
   have O:=J ab
   have al:=J d
   have I:=J U
   clear fr aa ab d U
   by_cases Y:n<l.length
   ·have i1:(n:Int)<(l.length:Int):=by omega
    obtain⟨x,hx⟩:∃x,l[n]? =some x:=⟨_,getElem?_eq_getElem Y⟩
    obtain⟨b,off,aw,hv,hr,-⟩:=(HL.o.keep FR.o).at_ hx
    cases hv
    have q:=J (HL.o.1 x (mem_of_getElem? hx))
    have IL:=J (yz q.o)
    have R1:=J hr
    have p:=@J ((⟨id,(n:Int)⟩:zE).ok) (⟨Q.o,by show(0:Int)≤(n:Int);omega,by show(n:Int)≤_;omega⟩)
    have HX:=J (Vy id hx)
    have F:=@J ((yW ⟨⟨id,(n:Int)⟩,x⟩).length=66) (jT ⟨p.o,q.o⟩)
    have PL:=J (z6 p.o)
    have ar:(n:Int) % 4294967296=(n:Int):=by omega
    have fA:=(frN wr).alloc (.cells (zJ x).toArray 103)
    have FA:=J fA
    have RO:=J (zy wr (zJ x) 103)
    have RH:=@J ((wr.alloc (.cells (zJ x).toArray 103)).rangeAt (q3) 0 (zf id)) (za (zq I.o) fA (λh=>h))
    have M:=J (zb j.o fA (λ_ _=>_root_.id))
    have TH:=J (Js M.o Y)
    have ai:=J (qX M.o (n*66) (cs:=yW ⟨⟨id,(n:Int)⟩,x⟩) (by rw[F.o];omega))
    have an:=J (zal yW HX.o F.o O.o (by rw[j.o.1];omega))
    clear hr hx fA
    have⟨R,S,T,K3,K4,K5,K6⟩:=tZ7
    go_wp2_with ((first|((with_reducible refine zt ?_);first|(clear R;refine zob rfl rfl rfl R1.o IL.o ?_)|(clear T;refine zoc rfl rfl rfl RH.o m.o ?_)|(clear K3;refine zg rfl (yQ (t:=95) (vs:=[(0,.agg (zf id).toArray),(1,.int .u32 n)]) rfl (by simp[Act.eval,ar]) zfd (zgZ Q.o n) (zfc id n) (by rw[PL.o])) ?_)|(clear K4;refine zob rfl rfl rfl RO.o IL.o ?_)|(clear K5;refine zg rfl (yQ (t:=214) (vs:=[(0,.agg (zn ⟨id,(n:Int)⟩).toArray),(1,.agg (zJ x).toArray)]) rfl rfl zb3 (zdA p.o q.o) (zbZ _ _) (by rw[F.o])) ?_))|((with_reducible refine zv ?_);first|(clear S;refine zok (w:=wr) (cs:=zJ x) rfl rfl rfl rfl IL.o yf ?_;generalize wr.alloc (.cells (zJ x).toArray 103)=wA at*)|(clear K6;refine zi rfl (zK (ty:=214) (b:=g) (off:=n*66) (cs:=yW ⟨⟨id,(n:Int)⟩,x⟩) rfl rfl rfl (by rw[F.o];exact TH.o) (by rw[F.o];exact JZ) Zo) ?_)));go_frame)
    go_roundw
    case rel=>exact⟨n+1,_,by go_num,by omega,ai.o,an.o,(FR.o.trans0 FA.o).trans (zu _ _ _ _) (λi hi e=>by have:=G0.o;omega),by have:=(zu g (yW ⟨⟨id,(n:Int)⟩,x⟩) (n*66) wA).size;have:=FA.o.size;have:=al.o;omega,(zu g (yW ⟨⟨id,(n:Int)⟩,x⟩) (n*66) wA).obj (FA.o.obj I.o _root_.id) (λe=>by have:=G0.o;omega)⟩
    case measure=>simp[intOf];omega
   ·have au:n=l.length:=by omega
    have i1:¬(n:Int)<(l.length:Int):=by omega
    have HE:=@J (xs=(ZJ id l).flatMap yW) (by
     have:=O.o
     rw[au,take_of_length_le (by rw[j.o.1];exact le_refl _),take_of_length_le (by rw[Jd];exact le_refl _)] at this
     exact this)
    have ag:=J (HP.o _ wr FR.o (by rw[←HE.o];exact j.o))
    go_wp2
    go_ret2
    exact ag.o
def Yi (x:Int) (n:Nat):List Int:=(leB 8 x).take n++List.replicate (8-n) 0
theorem zj1 {B g n:Nat} {T:TypeId} (h:w.ownsRow B T 1 (.slice (some ⟨g,0,none⟩) n n) n xs):w.heap[g]? =some (.cells xs.toArray T (0,0)):=by
 rcases h.2 with⟨e,_⟩|⟨i,b,c,e,j,d,k,l,f,a⟩
 ·cases e
 ·injection e with e1 e2 e3
  injection e1 with e1
  injection e1 with e1
  subst e1
  subst e3
  rw[take_of_length_le (by rw[Array.length_toList,f];exact le_refl _)] at a
  rw[d,←a]
theorem znT (x:Int):(madeCells (Value.int .u8 0).cells (8*1)).toList=(Yi x 0).map zN:=by
 have a:Yi x 0=List.replicate 8 0:=by simp[Yi]
 have b:(madeCells (Value.int .u8 0).cells (8*1)).toList=(List.replicate 8 (0:Int)).map zN:=by kernel_rfl
 rw[a,b]
theorem zjB {B g:Nat} (h:w.heap[g]? =some (.cells (l.map zN).toArray 5 (0,0))) (a:B≤g) (b:l.length≤1000000):qI w B (.slice (some ⟨g,0,none⟩) l.length l.length) l:=
 ⟨by simp,.inr ⟨g,l.length,(l.map zN).toArray,rfl,a,h,le_refl _,by unfold maxLen;omega,by simp,by rw[take_of_length_le (by simp)]⟩⟩
theorem znd (w:World):Calls prog 164 #[.int .i64 8] w λe w'=>e=.returned (.bool true)∧w'=w:=by
 go_enter Tryz.func164,Tryz.ntmps164
 go_wp2
 go_ret
 exact⟨rfl,rfl⟩
theorem zfh (w:World) {x:Int} (y:0≤x∧x≤18446744073709551615):
  Calls prog 133 #[.int .u64 x,.int .i64 8] w λe w'=>e=.returned (.tuple #[.slice (some ⟨w.heap.size,0,none⟩) 8 8,.int .i64 0])∧qI w' w.heap.size (.slice (some ⟨w.heap.size,0,none⟩) 8 8) (leB 8 x)∧Fr No w w':=by
 obtain⟨K,m,C,r,j⟩:=info_parts XX
 obtain⟨A,o,q,l⟩:=run_makeSlice_full (P:=prog) (w:=w) w.heap.size 106 5 K _ 1 XA m C r .i64 .i64 8 (by omega) (by rw[j];omega) (by unfold maxLen;omega) (le_refl _)
 have D:=@J (Fr No w A) (Fr.of_grown l (λk e=>by cases e))
 have E:=@J (A.heap[w.heap.size]? =some (.cells ((Yi x 0).map zN).toArray 5 (0,0))) (znT x▸zj1 q)
 have p:(Instr.makeSlice 106 (.int .i64 8) (.int .i64 8)).run prog w=.ok (.slice (some ⟨w.heap.size,0,none⟩) 8 8) A:=o
 have O:=y.1
 have Q:=y.2
 clear m C r j q l y
 go_enter Tryz.func133,Tryz.ntmps133
 go_wp2_with (go_at_call 164;refine(znd _).mono ?_;rintro e N ⟨rfl,G⟩;rw[G])
 clear o p
 generalize I:w.heap.size=g at*
 go_loopw [25] (λz wr=>∃(n:Nat),z=.int .i64 n∧n≤8∧wr.heap[g]? =some (.cells ((Yi x n).map zN).toArray 5 (0,0))∧Fr No w wr) (λz _=>8-(intOf z).toNat)
 case atStart=>exact⟨0,rfl,by omega,E.o,D.o⟩
 case round=>
  obtain⟨n,rfl,M,t,fr⟩:=hrel
  have B:=J fr
  have s:=J t
  have L:=λi=>yn (i:=i) t
  clear fr t
  by_cases hlt:n<8
  ·have f:=J (λv=>show Fr No w (wr.setCell ⟨g,n,none⟩ v) from B.o.setCell _ (.inl (by show w.heap.size≤g;omega)) _)
   have h:=J (λv=>heap_setCell_same wr g n _ _ v s.o)
   have a:=zq s.o
   have H:n=0∨n=1∨n=2∨n=3∨n=4∨n=5∨n=6∨n=7:=by omega
   rcases H with rfl|rfl|rfl|rfl|rfl|rfl|rfl|rfl
   ·have c:=a 0 (.int .u8 0) rfl
    simp only[zero_add] at c
    clear a
    have b:=@J (∀v:Int,v=x % 256→some (Obj.cells (((Yi x 0).map zN).toArray.setIfInBounds 0 (.int .u8 v)) 5 (0,0))=some (Obj.cells ((Yi x 1).map zN).toArray 5 (0,0))) (λv e=>by
     have d:v=x % 256:=by omega
     subst d
     rfl)
    go_wp2
    go_roundw
    case rel=>exact⟨1,rfl,by omega,(h.o _).trans (b.o _ (by omega)),f.o _⟩
    case measure=>simp[intOf]
   ·have c:=a 1 (.int .u8 0) rfl
    simp only[zero_add] at c
    clear a
    have b:=@J (∀v:Int,v=x / 256 % 256→some (Obj.cells (((Yi x 1).map zN).toArray.setIfInBounds 1 (.int .u8 v)) 5 (0,0))=some (Obj.cells ((Yi x 2).map zN).toArray 5 (0,0))) (λv e=>by
     have d:v=(x / 256) % 256:=by omega
     subst d
     rfl)
    go_wp2
    go_roundw
    case rel=>exact⟨2,rfl,by omega,(h.o _).trans (b.o _ (by omega)),f.o _⟩
    case measure=>simp[intOf]
   ·have c:=a 2 (.int .u8 0) rfl
    simp only[zero_add] at c
    clear a
    have b:=@J (∀v:Int,v=x / 65536 % 256→some (Obj.cells (((Yi x 2).map zN).toArray.setIfInBounds 2 (.int .u8 v)) 5 (0,0))=some (Obj.cells ((Yi x 3).map zN).toArray 5 (0,0))) (λv e=>by
     have d:v=((x / 256) / 256) % 256:=by omega
     subst d
     rfl)
    go_wp2
    go_roundw
    case rel=>exact⟨3,rfl,by omega,(h.o _).trans (b.o _ (by omega)),f.o _⟩
    case measure=>simp[intOf]
   ·have c:=a 3 (.int .u8 0) rfl
    simp only[zero_add] at c
    clear a
    have b:=@J (∀v:Int,v=x / 16777216 % 256→some (Obj.cells (((Yi x 3).map zN).toArray.setIfInBounds 3 (.int .u8 v)) 5 (0,0))=some (Obj.cells ((Yi x 4).map zN).toArray 5 (0,0))) (λv e=>by
     have d:v=(((x / 256) / 256) / 256) % 256:=by omega
     subst d
     rfl)
    go_wp2
    go_roundw
    case rel=>exact⟨4,rfl,by omega,(h.o _).trans (b.o _ (by omega)),f.o _⟩
    case measure=>simp[intOf]
   ·have c:=a 4 (.int .u8 0) rfl
    simp only[zero_add] at c
    clear a
    have b:=@J (∀v:Int,v=x / 4294967296 % 256→some (Obj.cells (((Yi x 4).map zN).toArray.setIfInBounds 4 (.int .u8 v)) 5 (0,0))=some (Obj.cells ((Yi x 5).map zN).toArray 5 (0,0))) (λv e=>by
     have d:v=((((x / 256) / 256) / 256) / 256) % 256:=by omega
     subst d
     rfl)
    go_wp2
    go_roundw
    case rel=>exact⟨5,rfl,by omega,(h.o _).trans (b.o _ (by omega)),f.o _⟩
    case measure=>simp[intOf]
   ·have c:=a 5 (.int .u8 0) rfl
    simp only[zero_add] at c
    clear a
    have b:=@J (∀v:Int,v=x / 1099511627776 % 256→some (Obj.cells (((Yi x 5).map zN).toArray.setIfInBounds 5 (.int .u8 v)) 5 (0,0))=some (Obj.cells ((Yi x 6).map zN).toArray 5 (0,0))) (λv e=>by
     have d:v=(((((x / 256) / 256) / 256) / 256) / 256) % 256:=by omega
     subst d
     rfl)
    go_wp2
    go_roundw
    case rel=>exact⟨6,rfl,by omega,(h.o _).trans (b.o _ (by omega)),f.o _⟩
    case measure=>simp[intOf]
   ·have c:=a 6 (.int .u8 0) rfl
    simp only[zero_add] at c
    clear a
    have b:=@J (∀v:Int,v=x / 281474976710656 % 256→some (Obj.cells (((Yi x 6).map zN).toArray.setIfInBounds 6 (.int .u8 v)) 5 (0,0))=some (Obj.cells ((Yi x 7).map zN).toArray 5 (0,0))) (λv e=>by
     have d:v=((((((x / 256) / 256) / 256) / 256) / 256) / 256) % 256:=by omega
     subst d
     rfl)
    go_wp2
    go_roundw
    case rel=>exact⟨7,rfl,by omega,(h.o _).trans (b.o _ (by omega)),f.o _⟩
    case measure=>simp[intOf]
   ·have c:=a 7 (.int .u8 0) rfl
    simp only[zero_add] at c
    clear a
    have b:=@J (∀v:Int,v=x / 72057594037927936 % 256→some (Obj.cells (((Yi x 7).map zN).toArray.setIfInBounds 7 (.int .u8 v)) 5 (0,0))=some (Obj.cells ((Yi x 8).map zN).toArray 5 (0,0))) (λv e=>by
     have d:v=(((((((x / 256) / 256) / 256) / 256) / 256) / 256) / 256) % 256:=by omega
     subst d
     rfl)
    go_wp2
    go_roundw
    case rel=>exact⟨8,rfl,by omega,(h.o _).trans (b.o _ (by omega)),f.o _⟩
    case measure=>simp[intOf]
  ·have u:n=8:=by omega
   subst u
   have F:=@J (qI wr g (.slice (some ⟨g,0,none⟩) 8 8) (leB 8 x)) (zjB s.o (le_refl _) (by rw[vZ];decide))
   go_wp2
   go_ret2
   subst I
   exact⟨rfl,F.o,B.o⟩
end Go.Proofs.YtdkkjchclkjleaaGreatDoor
