/- Points, outputs and coins in memory. -/
import Derived.Test.YtbcllfjmabiafaaGreatDoorProg
import Derived.Lib.Hide
import Derived.Maps.RangeRun
import Derived.Outline
import Derived.Lib.Bytealg
import Derived.Sort.Grow
import Derived.Laws.Externs
import Derived.Shelf.SlSortCmp.WholeK
import Derived.Shelf.SlSortCmp.NoneTotal
import Derived.Test.YtbcllfjmabiafaaGreatDoorPG4
import Derived.Test.YtbcllfjmabiafaaGreatDoorPG1
import Derived.Test.YtbcllfjmabiafaaGreatDoorPG2
import Derived.Test.YtbcllfjmabiafaaGreatDoorPG3
set_option linter.unusedVariables false
set_option linter.unusedSimpArgs false
set_option linter.unnecessarySimpa false
set_option linter.all false
set_option maxRecDepth 20000
set_option maxHeartbeats 16000000
namespace Go
open Go.RowKit
theorem znS {ops:Array Oper} {Q:Exit→Act→World→Prop} {a:Act} {w:World} {rest:List Oper} {o:Oper} {cs:List Value} {m:Operand} {b i:Nat} (hg:o.guard=none) (ho:o.op=.load 112 m) (hm:a.eval m=.pointer (some ⟨b,i,none⟩)) (hc:w.rangeAt b i cs) (hl:cs.length=34) (h:wpList Go.Proofs.Tryz.prog ops Q rest (a.put o.dst (.agg cs.toArray)) w):wpList Go.Proofs.Tryz.prog ops Q (o::rest) a w:=
  have⟨_,u,r⟩:=jR (P:=Go.Proofs.Tryz.prog) (t:=112) (by kernel_rfl)
  zg hg (zX ho hm hc u r (by rw[hl];kernel_rfl)) h
theorem znT {ops:Array Oper} {Q:Exit→Act→World→Prop} {a:Act} {w:World} {rest:List Oper} {o:Oper} {cs:List Value} {m:Operand} {b i:Nat} (hg:o.guard=none) (ho:o.op=.load 27 m) (hm:a.eval m=.pointer (some ⟨b,i,none⟩)) (hc:w.rangeAt b i cs) (hl:cs.length=3) (h:wpList Go.Proofs.Tryz.prog ops Q rest (a.put o.dst (.agg cs.toArray)) w):wpList Go.Proofs.Tryz.prog ops Q (o::rest) a w:=
  have⟨_,u,r⟩:=jR (P:=Go.Proofs.Tryz.prog) (t:=27) (by kernel_rfl)
  zg hg (zX ho hm hc u r (by rw[hl];kernel_rfl)) h
theorem znU {ops:Array Oper} {Q:Exit→Act→World→Prop} {a:Act} {w:World} {rest:List Oper} {o:Oper} {cs:List Value} {m:Operand} {b i:Nat} (hg:o.guard=none) (ho:o.op=.load 58 m) (hm:a.eval m=.pointer (some ⟨b,i,none⟩)) (hc:w.rangeAt b i cs) (hl:cs.length=33) (h:wpList Go.Proofs.Tryz.prog ops Q rest (a.put o.dst (.agg cs.toArray)) w):wpList Go.Proofs.Tryz.prog ops Q (o::rest) a w:=
  have⟨_,u,r⟩:=jR (P:=Go.Proofs.Tryz.prog) (t:=58) (by kernel_rfl)
  zg hg (zX ho hm hc u r (by rw[hl];kernel_rfl)) h
theorem znV {ops:Array Oper} {Q:Exit→Act→World→Prop} {a:Act} {w:World} {rest:List Oper} {o:Oper} {cs:List Value} {m:Operand} {b i:Nat} (hg:o.guard=none) (ho:o.op=.load 45 m) (hm:a.eval m=.pointer (some ⟨b,i,none⟩)) (hc:w.rangeAt b i cs) (hl:cs.length=32) (h:wpList Go.Proofs.Tryz.prog ops Q rest (a.put o.dst (.agg cs.toArray)) w):wpList Go.Proofs.Tryz.prog ops Q (o::rest) a w:=
  have⟨_,u,r⟩:=jR (P:=Go.Proofs.Tryz.prog) (t:=45) (by kernel_rfl)
  zg hg (zX ho hm hc u r (by rw[hl];kernel_rfl)) h
theorem znW {ops:Array Oper} {Q:Exit→Act→World→Prop} {a:Act} {w:World} {rest:List Oper} {o:Oper} {cs:List Value} {m:Operand} {b i:Nat} (hg:o.guard=none) (ho:o.op=.load 56 m) (hm:a.eval m=.pointer (some ⟨b,i,none⟩)) (hc:w.rangeAt b i cs) (hl:cs.length=33) (h:wpList Go.Proofs.Tryz.prog ops Q rest (a.put o.dst (.agg cs.toArray)) w):wpList Go.Proofs.Tryz.prog ops Q (o::rest) a w:=
  have⟨_,u,r⟩:=jR (P:=Go.Proofs.Tryz.prog) (t:=56) (by kernel_rfl)
  zg hg (zX ho hm hc u r (by rw[hl];kernel_rfl)) h
theorem znX {ops:Array Oper} {Q:Exit→Act→World→Prop} {a:Act} {w:World} {rest:List Oper} {o:Oper} {cs:List Value} {m:Operand} {b i:Nat} (hg:o.guard=none) (ho:o.op=.load 65 m) (hm:a.eval m=.pointer (some ⟨b,i,none⟩)) (hc:w.rangeAt b i cs) (hl:cs.length=3) (h:wpList Go.Proofs.Tryz.prog ops Q rest (a.put o.dst (.agg cs.toArray)) w):wpList Go.Proofs.Tryz.prog ops Q (o::rest) a w:=
  have⟨_,u,r⟩:=jR (P:=Go.Proofs.Tryz.prog) (t:=65) (by kernel_rfl)
  zg hg (zX ho hm hc u r (by rw[hl];kernel_rfl)) h
theorem znY {ops:Array Oper} {Q:Exit→Act→World→Prop} {a:Act} {w:World} {rest:List Oper} {o:Oper} {cs:List Value} {m:Operand} {b i:Nat} (hg:o.guard=none) (ho:o.op=.load 60 m) (hm:a.eval m=.pointer (some ⟨b,i,none⟩)) (hc:w.rangeAt b i cs) (hl:cs.length=66) (h:wpList Go.Proofs.Tryz.prog ops Q rest (a.put o.dst (.agg cs.toArray)) w):wpList Go.Proofs.Tryz.prog ops Q (o::rest) a w:=
  have⟨_,u,r⟩:=jR (P:=Go.Proofs.Tryz.prog) (t:=60) (by kernel_rfl)
  zg hg (zX ho hm hc u r (by rw[hl];kernel_rfl)) h
theorem znZ {S:World→Prop} {a:Act} {dst:Option Tmp} {t0:TypeId} {pos:String} {after:Array Edge} {gd:Option (Nat×Bool)} {x:Operand} {cs:List Value} {b i:Nat} (hx:a.eval x=.pointer (some ⟨b,i,none⟩)) (hS:∀w,S w→w.rangeAt b i cs) (hl:cs.length=33):∀w,S w→(execOp a.eval {dst:=dst,op:=.load 56 x,type:=t0,pos:=pos,after:=after,guard:=gd}).run Go.Proofs.Tryz.prog w=.ok (.value (.agg cs.toArray)) w:=
  have⟨_,u,r⟩:=jR (P:=Go.Proofs.Tryz.prog) (t:=56) (by kernel_rfl)
  y5 hx hS u r (by rw[hl];kernel_rfl)
theorem zn0 {S:World→Prop} {a:Act} {dst:Option Tmp} {t0:TypeId} {pos:String} {after:Array Edge} {gd:Option (Nat×Bool)} {x:Operand} {cs:List Value} {b i:Nat} (hx:a.eval x=.pointer (some ⟨b,i,none⟩)) (hS:∀w,S w→w.rangeAt b i cs) (hl:cs.length=32):∀w,S w→(execOp a.eval {dst:=dst,op:=.load 45 x,type:=t0,pos:=pos,after:=after,guard:=gd}).run Go.Proofs.Tryz.prog w=.ok (.value (.agg cs.toArray)) w:=
  have⟨_,u,r⟩:=jR (P:=Go.Proofs.Tryz.prog) (t:=45) (by kernel_rfl)
  y5 hx hS u r (by rw[hl];kernel_rfl)
theorem zn1 {ops:Array Oper} {Q:Exit→Act→World→Prop} {a:Act} {w:World} {rest:List Oper} {o:Oper} {cs:List Value} {m:Operand} {k:Operand} {Z:Array Value} {U:TypeId} (hg:o.guard=none) (ho:o.op=.store 112 m k) (hm:a.eval m=.pointer (some ⟨w.heap.size,0,none⟩)) (hk:a.eval k=.agg cs.toArray) (hz:cs.length=34) (h1:∀v∈cs,v.oneCell'=true) (h:wpList Go.Proofs.Tryz.prog ops Q rest (a.put o.dst undef) (w.alloc (.cells cs.toArray U))) (hZ:Z.size=34:=by rfl):wpList Go.Proofs.Tryz.prog ops Q (o::rest) a (w.alloc (.cells Z U)):=
  zi hg (zj ho hm hk (hZ.trans hz.symm) (by rw[hz];kernel_rfl) h1) h
theorem zn2 {ops:Array Oper} {Q:Exit→Act→World→Prop} {a:Act} {w:World} {rest:List Oper} {o:Oper} {cs:List Value} {m:Operand} {k:Operand} {Z:Array Value} {U:TypeId} (hg:o.guard=none) (ho:o.op=.store 58 m k) (hm:a.eval m=.pointer (some ⟨w.heap.size,0,none⟩)) (hk:a.eval k=.agg cs.toArray) (hz:cs.length=33) (h1:∀v∈cs,v.oneCell'=true) (h:wpList Go.Proofs.Tryz.prog ops Q rest (a.put o.dst undef) (w.alloc (.cells cs.toArray U))) (hZ:Z.size=33:=by rfl):wpList Go.Proofs.Tryz.prog ops Q (o::rest) a (w.alloc (.cells Z U)):=
  zi hg (zj ho hm hk (hZ.trans hz.symm) (by rw[hz];kernel_rfl) h1) h
theorem zn3 {ops:Array Oper} {Q:Exit→Act→World→Prop} {a:Act} {w:World} {rest:List Oper} {o:Oper} {cs:List Value} {m:Operand} {k:Operand} {Z:Array Value} {U:TypeId} (hg:o.guard=none) (ho:o.op=.store 45 m k) (hm:a.eval m=.pointer (some ⟨w.heap.size,0,none⟩)) (hk:a.eval k=.agg cs.toArray) (hz:cs.length=32) (h1:∀v∈cs,v.oneCell'=true) (h:wpList Go.Proofs.Tryz.prog ops Q rest (a.put o.dst undef) (w.alloc (.cells cs.toArray U))) (hZ:Z.size=32:=by rfl):wpList Go.Proofs.Tryz.prog ops Q (o::rest) a (w.alloc (.cells Z U)):=
  zi hg (zj ho hm hk (hZ.trans hz.symm) (by rw[hz];kernel_rfl) h1) h
theorem zn4 {ops:Array Oper} {Q:Exit→Act→World→Prop} {a:Act} {w:World} {rest:List Oper} {o:Oper} {cs:List Value} {m:Operand} {k:Operand} {Z:Array Value} {U:TypeId} (hg:o.guard=none) (ho:o.op=.store 60 m k) (hm:a.eval m=.pointer (some ⟨w.heap.size,0,none⟩)) (hk:a.eval k=.agg cs.toArray) (hz:cs.length=66) (h1:∀v∈cs,v.oneCell'=true) (h:wpList Go.Proofs.Tryz.prog ops Q rest (a.put o.dst undef) (w.alloc (.cells cs.toArray U))) (hZ:Z.size=66:=by rfl):wpList Go.Proofs.Tryz.prog ops Q (o::rest) a (w.alloc (.cells Z U)):=
  zi hg (zj ho hm hk (hZ.trans hz.symm) (by rw[hz];kernel_rfl) h1) h
theorem zn5 {ops:Array Oper} {Q:Exit→Act→World→Prop} {a:Act} {w:World} {rest:List Oper} {o:Oper} {cs:List Value} {m:Operand} {k:Operand} {Z:Array Value} {U:TypeId} (hg:o.guard=none) (ho:o.op=.store 56 m k) (hm:a.eval m=.pointer (some ⟨w.heap.size,0,none⟩)) (hk:a.eval k=.agg cs.toArray) (hz:cs.length=33) (h1:∀v∈cs,v.oneCell'=true) (h:wpList Go.Proofs.Tryz.prog ops Q rest (a.put o.dst undef) (w.alloc (.cells cs.toArray U))) (hZ:Z.size=33:=by rfl):wpList Go.Proofs.Tryz.prog ops Q (o::rest) a (w.alloc (.cells Z U)):=
  zi hg (zj ho hm hk (hZ.trans hz.symm) (by rw[hz];kernel_rfl) h1) h
end Go
namespace Go.Proofs.YtbcllfjmabiafaaGreatDoor
open Go Go.RowKit Go.Maps Go.MapKept
open Go.Proofs.Tryz(prog)
open List(mem_map mem_append mem_cons length_map map_append nodup_cons map_cons not_mem_nil)
open Nat(le_refl zero_le)
variable {v:Value} {w:World}
theorem V3:laidOutB prog=true:=by kernel_rfl
theorem zl3 {x:Int} (h:0≤x∧x≤255):(Lit.int .u8 x).wf=true:=by
 simp[Lit.wf,IntKind.min,IntKind.max,IntKind.signed,IntKind.bits]
 omega
theorem zmN {x:Int} (h:0≤x∧x≤4294967295):(Lit.int .u32 x).wf=true:=by
 simp[Lit.wf,IntKind.min,IntKind.max,IntKind.signed,IntKind.bits]
 omega
theorem zaG:∀ {a b:List Int},a.map zQ=b.map zQ→a=b
 |[],[],_=>rfl
 |[],_::_,h=>by simp at h
 |_::_,[],h=>by simp at h
 |x::a,y::b,h=>by
  simp only[map_cons,List.cons.injEq,zQ,Value.int.injEq,true_and] at h
  rw[h.1,zaG h.2]
theorem zb9 {l:List Int} (h:zV l) (d:Nat):∃b,prog.keyLits (d+2) 45 (l.map zQ)=some b:=
 V0 (show prog.underlying 45=some (.array 32 5) by kernel_rfl) (by kernel_rfl) (by kernel_rfl) (by kernel_rfl) d l h.1 (λx a=>zl3 (h.2 x a))
def zm (p:zx):List Value:=p.tx.map zQ++[.int .u32 p.n]
def Jd (p:zx):Value:=.agg (zm p).toArray
theorem zW {p:zx} (h:p.ok):(zm p).length=33:=by simp[zm,h.1.1]
theorem zdz {p:zx} (h:p.ok):(zm p)[32]? =some (.int .u32 p.n):=by
 unfold zm
 rw[List.getElem?_append_right (by simp[h.1.1]),length_map,h.1.1];rfl
theorem yF {p:zx}:∀v∈zm p,v.oneCell'=true:=by
 intro v a
 unfold zm at a
 simp only[mem_append,mem_map,List.mem_singleton] at a
 rcases a with⟨y,_,rfl⟩|rfl<;>rfl
theorem Vo {a b:zx} (h:zm a=zm b):a=b:=by
 obtain⟨x,l⟩:=a
 obtain⟨y,m⟩:=b
 simp only[zm] at h
 obtain⟨d,c⟩:=List.append_inj' h rfl
 simp only[List.cons.injEq,Value.int.injEq,true_and,and_true] at c
 rw[zaG d,c]
theorem vD {a b:zx} (h:Jd a=Jd b):a=b:=by
 unfold Jd at h
 injection h with h
 exact Vo (by simpa using congrArg Array.toList h)
theorem Vt:vU prog 56=[(45,0,true),(24,32,true)]:=by kernel_rfl
theorem zgz {p:zx} (h:p.ok) (d:Nat):∀x∈vU prog 56,∃l,prog.keyLits (d+2) x.1 (((zm p).drop x.2.1).take (prog.cellsOf x.1))=some l:=by
 rw[Vt]
 intro x a
 simp only[mem_cons,not_mem_nil,or_false] at a
 rcases a with rfl|rfl
 ·have e:((zm p).drop 0).take (prog.cellsOf 45)=p.tx.map zQ:=by
   rw[show prog.cellsOf 45=32 by kernel_rfl]
   unfold zm
   rw[List.drop_zero,List.take_append_of_le_length (by simp[h.1.1]),List.take_of_length_le (by simp[h.1.1])]
  simp only[e]
  exact zb9 h.1 d
 ·have e:((zm p).drop 32).take (prog.cellsOf 24)=[.int .u32 p.n]:=by
   rw[show prog.cellsOf 24=1 by kernel_rfl]
   unfold zm
   rw[List.drop_append_of_le_length (by simp[h.1.1]),List.drop_of_length_le (by simp[h.1.1])];rfl
  simp only[e]
  exact⟨_,Y4 (by kernel_rfl) _ (zmN h.2)⟩
theorem xu {p:zx} (h:p.ok):∃l,keyOf prog 56 (Jd p)=some l:=by
 have a:prog.types.size=prog.types.size-2+2:=by kernel_rfl
 refine Y5 Vt (by simp) (by decide) (by kernel_rfl) (cs:=zm p) (by rw[zW h];kernel_rfl) ?_
 rw[a,←Vt]
 exact zgz h _
theorem jF:EqN prog 56:=⟨Keyed.of_law (deep_law_laid V3 (m:=3) (by decide) (of_decide_eq_true (by kernel_rfl)) (by kernel_rfl) (by kernel_rfl)),⟨3,by decide,by kernel_rfl⟩,by kernel_rfl,by kernel_rfl⟩
theorem zhU:∃d,prog.underlying 56=some d∧d.isRow=true:=jR (by kernel_rfl)
theorem xZ:(prog.info? 56).map (·.size)=some 33:=by kernel_rfl
def vi:zx:=⟨List.replicate 32 0,0⟩
theorem JX:prog.underlying 72=some (.slice 56):=by kernel_rfl
theorem Y3:(prog.info? 56).map (λi=>(i.zero,i.size,i.bytes))=some (some (.agg (zm vi).toArray),33,36):=by kernel_rfl
theorem XG:(prog.info? 56).map (λi=>(i.zero,i.size))=some (some (.agg (zm vi).toArray),33):=by kernel_rfl
def zF (x:yC):List Value:=.int .u64 x.value::x.lock.map zQ
def zcP (x:yC):Value:=.agg (zF x).toArray
theorem yq {x:yC} (h:x.ok):(zF x).length=33:=by simp[zF,h.2.1]
theorem yd {x:yC}:∀v∈zF x,v.oneCell'=true:=by
 intro v a
 unfold zF at a
 simp only[mem_cons,mem_map] at a
 rcases a with rfl|⟨y,_,rfl⟩<;>rfl
theorem YT:∃d,prog.underlying 58=some d∧d.isRow=true:=jR (by kernel_rfl)
theorem yW:(prog.info? 58).map (·.size)=some 33:=by kernel_rfl
def xN:yC:=⟨0,List.replicate 32 0⟩
theorem Qt:xN.ok:=⟨by decide,rfl,λx a=>by have:x=0:=List.eq_of_mem_replicate a;omega⟩
theorem zlP (w:World):(zeroValue 58).run prog w=.ok (zcP xN) w:=by kernel_rfl
theorem qO:prog.underlying 22=some (.slice 58):=by kernel_rfl
theorem JG:(prog.info? 58).map (λi=>(i.zero,i.size,i.bytes))=some (some (.agg (zF xN).toArray),33,40):=by kernel_rfl
theorem jU:(prog.info? 58).map (λi=>(i.zero,i.size))=some (some (.agg (zF xN).toArray),33):=by kernel_rfl
def z7 (c:zn):List Value:=zm c.at_++zF c.out
theorem xI {c:zn} (h:c.ok):(z7 c).length=66:=by simp[z7,zW h.1,yq h.2]
theorem qi {c:zn}:∀v∈z7 c,v.oneCell'=true:=by
 intro v a
 rcases mem_append.1 a with h|h
 ·exact yF v h
 ·exact yd v h
theorem JF {b o:Nat} {c:zn} (h:w.rangeAt b o (z7 c)):w.rangeAt b o (zm c.at_):=λj v a=>h j v (by
 unfold z7
 rw[List.getElem?_append_left (List.getElem?_eq_some_iff.1 a).1]
 exact a)
theorem Xx {b o:Nat} {c:zn} (a:c.ok) (h:w.rangeAt b o (z7 c)):w.rangeAt b (o+33) (zF c.out):=λj v d=>by
 have:=h (33+j) v (by
  unfold z7
  rw[List.getElem?_append_right (by rw[zW a.1];omega),zW a.1]
  rw[show 33+j-33=j by omega]
  exact d)
 rw[Nat.add_assoc]
 exact this
theorem znd:∃d,prog.underlying 60=some d∧d.isRow=true:=jR (by kernel_rfl)
theorem zb5:(prog.info? 60).map (·.size)=some 66:=by kernel_rfl
def zc5:zn:=⟨vi,xN⟩
theorem ZU (w:World):(zeroValue 60).run prog w=.ok (.agg (z7 zc5).toArray) w:=by kernel_rfl
theorem vr (w:World):(zeroValue 56).run prog w=.ok (.agg (zm vi).toArray) w:=by kernel_rfl
theorem y3 (w:World):(zeroValue 58).run prog w=.ok (.agg (zF xN).toArray) w:=by kernel_rfl
theorem Qc:prog.underlying 52=some (.slice 60):=by kernel_rfl
theorem Qs:(prog.info? 60).map (λi=>(i.zero,i.size,i.bytes))=some (some (.agg (z7 zc5).toArray),66,80):=by kernel_rfl
theorem zgn:(prog.info? 60).map (λi=>(i.zero,i.size))=some (some (.agg (z7 zc5).toArray),66):=by kernel_rfl
def vt (w:World) (v:Value) (l:List zn):Prop:=(∀c∈l,c.ok)∧xQ w v l.length (l.flatMap z7)
theorem vt.keep {w w':World} {l:List zn} (h:vt w v l) (f:Fr No w w'):vt w' v l:=⟨h.1,h.2.keep f⟩
theorem vt.at_ {l:List zn} (h:vt w v l) {i:Nat} {c:zn} (a:l[i]? =some c):∃b off cap,v=.slice (some ⟨b,off,none⟩) l.length cap∧w.rangeAt b (off+i*66) (z7 c)∧b<w.heap.size:=
 h.2.elem (by decide) (λx a=>xI (h.1 x a)) a
def vw (w:World) (v:Value) (l:List zx):Prop:=(∀p∈l,p.ok)∧xQ w v l.length (l.flatMap zm)
theorem vw.keep {w w':World} {l:List zx} (h:vw w v l) (f:Fr No w w'):vw w' v l:=⟨h.1,h.2.keep f⟩
theorem vw.at_ {l:List zx} (h:vw w v l) {i:Nat} {p:zx} (a:l[i]? =some p):∃b off cap,v=.slice (some ⟨b,off,none⟩) l.length cap∧w.rangeAt b (off+i*33) (zm p)∧b<w.heap.size:=
 h.2.elem (by decide) (λx a=>zW (h.1 x a)) a
theorem ZT:prog.underlying 196=some (.map 56 58):=by kernel_rfl
theorem Xh:prog.underlying 148=some (.map 56 3):=by kernel_rfl
theorem YK (w:World):(zeroValue 3).run prog w=.ok (.int .i64 0) w:=by kernel_rfl
end Go.Proofs.YtbcllfjmabiafaaGreatDoor
namespace Go
open Go.MapKept Go.RowKit Go.Maps
def vY (P:Program) (kt:TypeId) (w:World) (r b:Nat) (L R:List (Value×Value)):Prop:=
 ∃es clk seen,w.heap[b]? =some (.map es clk)∧Stamped es clk∧es.size≤maxLen∧kv es=L∧(∀e∈es.toList,∃l,keyOf P kt e.key=some l)∧r≠b∧
  w.heap[r]? =some (.mapIter (some b) clk seen clk)∧(es.toList.filter λe=> !seen.contains e.born).map (λe=>(e.key,e.val))=R
section
variable {P:Program} {kt et t:TypeId} {w:World} {r b:Nat} {L R:List (Value×Value)}
theorem vY.map (h:vY P kt w r b L R):xw P kt w b L:=by
 obtain⟨es,c,seen,d,e,f,g,i,_⟩:=h
 exact⟨es,c,d,e,f,g,i⟩
theorem vY.lt (h:vY P kt w r b L R):r<w.heap.size:=by
 obtain⟨es,c,seen,e,f,g,i,j,k,d,_⟩:=h
 exact yr d
theorem vY.keep {w':World} {W:Nat→Prop} (h:vY P kt w r b L R) (f:Fr W w w') (n:¬W b) (p:¬W r):vY P kt w' r b L R:=by
 obtain⟨es,c,seen,d,e,g,i,j,k,l,m⟩:=h
 exact⟨es,c,seen,f.obj d n,e,g,i,j,k,f.obj l p,m⟩
theorem xw.range (j:P.underlying t=some (.map kt et)) (h:xw P kt w b L):
  ∃c,(Instr.range t (.map (some b))).run P w=.ok (.pointer (some ⟨w.heap.size,0,none⟩)) (w.alloc (.mapIter (some b) c #[] c))∧vY P kt (w.alloc (.mapIter (some b) c #[] c)) w.heap.size b L L:=by
 have f:=h.lt
 obtain⟨es,c,d,i,g,rfl,e⟩:=h
 refine⟨c,?_,es,c,#[],Zm d _,i,g,rfl,e,by omega,ye w _,?_⟩
 ·simp[Instr.range,run_underlying j,MapKept.run_getObj_map d,Result.andThen,newObj,Sem.run]
 ·rw[List.filter_eq_self.2 (by simp)];rfl
theorem vY.nextNone (h:vY P kt w r b L []) (ty:TypeId):(Instr.next (.pointer (some ⟨r,0,none⟩)) false ty).run P w=.ok (.tuple #[.bool false]) w:=by
 obtain⟨es,c,seen,g,l,p,m,n,j,k,f⟩:=h
 rcases run_next_at (P:=P) w ty r b c c seen es c k g l.1 (Nat.le_refl _) with⟨_,h⟩|⟨e,i,_⟩
 ·exact h
 ·have d:e∈es.toList.filter λe=> !seen.contains e.born:=by simpa[leftOf] using i
  have:(e.key,e.val)∈(es.toList.filter λe=> !seen.contains e.born).map (λe=>(e.key,e.val)):=List.mem_map.2 ⟨e,d,rfl⟩
  rw[f] at this
  cases this
theorem vY.nextSome (h:vY P kt w r b L R) (F:R≠[]) (ty:TypeId):
  ∃G p H w',R=G++p::H∧(Instr.next (.pointer (some ⟨r,0,none⟩)) false ty).run P w=.ok (.tuple #[.bool true,p.1,p.2]) w'∧vY P kt w' r b L (G++H)∧Fr (· =r) w w'∧
   ∀d,d.heap[r]? =w'.heap[r]? →d.heap[b]? =w'.heap[b]? →(Instr.entry (.pointer (some ⟨r,0,none⟩))).run P d=.ok (.tuple #[p.1,p.2]) d:=by
 obtain⟨es,c,seen,M,v,V,T,E,m,N,D⟩:=h
 rcases run_next_at (P:=P) w ty r b c c seen es c N M v.1 (Nat.le_refl _) with⟨S,_⟩|⟨e,U,y,s,q⟩
 ·have z:(leftOf es seen).toList=[]:=by simpa using S
  have C:es.toList.filter (λe=> !seen.contains e.born)=[]:=by simpa[leftOf] using z
  rw[C] at D
  exact absurd D.symm F
 ·have i:e∈es.toList.filter λe=> !seen.contains e.born:=by simpa[leftOf] using U
  have j:e∈es.toList:=(List.mem_filter.1 i).1
  obtain⟨A,B,f⟩:=List.append_of_mem i
  have l:((A++e::B).map (·.born)).Nodup:=by rw[←f];exact v.2.1.sublist (List.filter_sublist.map _)
  simp only[List.map_append,List.map_cons] at l
  obtain⟨Z,W,X⟩:=List.nodup_append.1 l
  obtain⟨Y,n5⟩:=List.nodup_cons.1 W
  have g:y.heap=w.heap:=by rcases s with rfl|rfl<;>rfl
  have Q:Fr (· =r) w y:=by
   rcases s with rfl|rfl
   ·exact Fr.refl _ _
   ·exact(Fr.refl _ _).drew
  have n:=yr N
  have I:(ChangeMaps.setBlock y r (.mapIter (some b) c (seen.push e.born) c)).heap[r]? =some (.mapIter (some b) c (seen.push e.born) c):=by
   simp[ChangeMaps.setBlock,g,n]
  have K:(ChangeMaps.setBlock y r (.mapIter (some b) c (seen.push e.born) c)).heap[b]? =some (.map es c):=by
   simp only[ChangeMaps.setBlock,g]
   rw[Array.getElem?_setIfInBounds_ne m]
   exact M
  refine⟨A.map (λe=>(e.key,e.val)),(e.key,e.val),B.map (λe=>(e.key,e.val)),_,by rw[←D,f];simp,q,⟨es,c,seen.push e.born,K,v,V,T,E,m,I,?_⟩,?_,?_⟩
  ·have O:(es.toList.filter λx=> !(seen.push e.born).contains x.born)=(es.toList.filter λx=> !seen.contains x.born).filter λx=>decide (x.born≠e.born):=by
    rw[List.filter_filter]
    apply List.filter_congr
    intro x _
    by_cases u:x.born=e.born<;>simp[u]
   rw[O,f,List.filter_append,List.filter_cons,if_neg (by simp),List.filter_eq_self.2,List.filter_eq_self.2,List.map_append]
   ·intro x u;simp only[decide_eq_true_eq];exact λh=>Y (h▸List.mem_map.2 ⟨x,u,rfl⟩)
   ·intro x u;simp only[decide_eq_true_eq];exact λh=>X x.born (List.mem_map.2 ⟨x,u,rfl⟩) e.born (by simp) h
  ·refine Q.trans ⟨rfl,rfl,rfl,by simp[ChangeMaps.setBlock],λk _ E=>?_⟩ (λ_ _ h=>h)
   simp only[ChangeMaps.setBlock]
   rw[Array.getElem?_setIfInBounds_ne (Ne.symm E)]
  ·intro d z C
   exact run_entry_at d r b c seen es c e (z.trans I) (C.trans K) j v.2.1
end
section
variable {P:Program} {o:Oper} {a:Act} {w w':World} {ops:Array Oper} {rest:List Oper}
theorem vS {Q:Exit→Act→World→Prop} {x:Operand} {t:TypeId} {e v:Value} (g:o.guard=none) (d:o.op=.range t x) (i:a.eval x=e)
  (c:(Instr.range t e).run P w=.ok v w') (h:wpList P ops Q rest (a.put o.dst v) w'):wpList P ops Q (o::rest) a w:=by
 refine wpList_plain g λK' hK'=>?_
 unfold Oper.wp
 have f:(execOp a.eval o).run P w=.ok (.value v) w':=by simp[execOp,d,i,c,Result.andThen]
 rw[f]
 exact hK' _ _ h
theorem xm {Q:Exit→Act→World→Prop} {x:Operand} {s:Bool} {e v:Value} (g:o.guard=none) (d:o.op=.next x s) (i:a.eval x=e)
  (c:(Instr.next e s o.type).run P w=.ok v w') (h:wpList P ops Q rest (a.put o.dst v) w'):wpList P ops Q (o::rest) a w:=by
 refine wpList_plain g λK' hK'=>?_
 unfold Oper.wp
 have f:(execOp a.eval o).run P w=.ok (.value v) w':=by simp[execOp,d,i,c,Result.andThen]
 rw[f]
 exact hK' _ _ h
theorem qU {Q:Exit→Act→World→Prop} {x:Operand} {e v:Value} (g:o.guard=none) (d:o.op=.entry x) (i:a.eval x=e)
  (c:(Instr.entry e).run P w=.ok v w') (h:wpList P ops Q rest (a.put o.dst v) w'):wpList P ops Q (o::rest) a w:=by
 refine wpList_plain g λK' hK'=>?_
 unfold Oper.wp
 have f:(execOp a.eval o).run P w=.ok (.value v) w':=by simp[execOp,d,i,c,Result.andThen]
 rw[f]
 exact hK' _ _ h
end
end Go
namespace Go.Proofs.YtbcllfjmabiafaaGreatDoor
open Go Go.RowKit Go.Maps Go.MapKept
open Go.Proofs.Tryz(prog)
open List(mem_map mem_append mem_cons length_map map_append nodup_cons map_cons not_mem_nil)
open Nat(le_refl zero_le)
variable {v:Value}
theorem zaq {α:Type}:∀ {A B:List α},A.Nodup→(∀x∈A,x∈B)→A.length≤B.length∧(A.length=B.length→A.Perm B)
 |[],B,_,_=>⟨zero_le _,λh=>by rw[List.eq_nil_of_length_eq_zero h.symm]⟩
 |a::A,B,hn,hs=>by
  obtain⟨B1,B2,rfl⟩:=List.append_of_mem (hs a (by simp))
  obtain⟨c,d⟩:=nodup_cons.1 hn
  obtain⟨f,e⟩:=zaq (A:=A) (B:=B1++B2) d (λx b=>by
   have:=hs x (by simp[b])
   simp only[mem_append,mem_cons] at this⊢
   rcases this with h|rfl|h
   ·exact .inl h
   ·exact absurd b c
   ·exact .inr h)
  simp only[List.length_append,List.length_cons] at*
  refine⟨by omega,λh=>?_⟩
  exact(List.Perm.cons a (e (by omega))).trans List.perm_middle.symm
theorem zaP {α:Type} {A B:List α} (b:A.Nodup) (h:∀x,x∈A↔x∈B):A.length=B.length↔B.Nodup:=by
 constructor
 ·intro e
  exact((zaq b (λx a=>(h x).1 a)).2 e).nodup_iff.1 b
 ·intro c
  exact Nat.le_antisymm (zaq b (λx a=>(h x).1 a)).1 (zaq c (λx a=>(h x).2 a)).1
abbrev Je (w:World) (m:Nat) (M:List (zx×yC)):Prop:=yI prog 56 Jd zcP w m M
structure CS (w0 w:World) (p:Nat) (V:Nat→Prop) (S:List zn):Prop where
 ex:∃m M,w.heap[p]? =some (.cells #[.map (some m)] 198 (0,0))∧Je w m M∧(∀k v,(k,v)∈M↔(⟨k,v⟩:zn)∈S)∧p≠m∧V=λj=>j=p∨j=m
 srt:qF S
 ok:∀c∈S,c.ok
 lo:∀j,V j→w0.heap.size≤j
 fr:Fr No w0 w
section
variable {w0 w:World} {p:Nat} {V:Nat→Prop} {S:List zn}
theorem CS.hi (h:CS w0 w p V S):∀j,V j→j<w.heap.size:=by
 obtain⟨m,M,a,b,-,-,rfl⟩:=h.ex
 rintro j (rfl|rfl)
 ·exact yr a
 ·exact b.lt
theorem CS.frV {w':World} (h:CS w0 w p V S) {U:Nat→Prop} (f:Fr U w w') (b:∀j,V j→¬U j) (c:∀j,U j→w0.heap.size≤j):CS w0 w' p V S:=by
 obtain⟨m,M,d,g,k,a,rfl⟩:=h.ex
 exact {h with
  ex:=⟨m,M,f.obj d (b p (.inl rfl)),g.keep f (b m (.inr rfl)),k,a,rfl⟩
  fr:=h.fr.trans f (λi hi e=>by have:=c i e;omega)}
theorem CS.fr0 {w':World} (h:CS w0 w p V S) (f:Fr No w w'):CS w0 w' p V S:=h.frV f (λ_ _=>id) (λ_ h=>h.elim)
omit w0 w p V S in
theorem zdx {w:World} {m:Nat} {M:List (zx×yC)} {S:List zn} (d:Je w m M) (f:∀k v,(k,v)∈M↔(⟨k,v⟩:zn)∈S) (srt:qF S):M.length=S.length:=by
 have a:(M.map λx=>(⟨x.1,x.2⟩:zn)).Nodup:=by
  have:=d.nodup
  unfold List.Nodup at*
  rw[List.pairwise_map] at*
  exact this.imp (λh e=>h (by injection e))
 have b:S.Nodup:=by
  have:=srt.nodup
  unfold List.Nodup at*
  rw[List.pairwise_map] at this
  exact this.imp (λh e=>h (by rw[e]))
 have c:=(List.perm_ext_iff_of_nodup a b).2 (λx=>by
  rw[←show(⟨x.at_,x.out⟩:zn)=x from rfl,←f]
  constructor
  ·intro h
   obtain⟨y,g,e⟩:=mem_map.1 h
   injection e with e1 e2
   rw[←e1,←e2]
   exact g
  ·intro h
   exact mem_map.2 ⟨_,h,rfl⟩)
 rw[←c.length_eq,length_map]
omit w0 w p V S in
theorem zgG (w:World):(Instr.makeMap 196 none).run prog w=.ok (.map (some w.heap.size)) (w.alloc (.map #[] 0)):=by kernel_rfl
omit w0 w p V S in
theorem zk6 (w:World):∃a,a=(w.alloc (.map #[] 0)).alloc (.cells #[.map (some w.heap.size)] 198)∧Fr No w a∧Je a w.heap.size []∧a.heap[w.heap.size+1]? =some (.cells #[.map (some w.heap.size)] 198 (0,0)):=by
 refine⟨_,rfl,((frN w).alloc _).alloc _,(yI.made w).keep (W:=No) ((Fr.refl _ _).alloc _) id,?_⟩
 exact yU (w.alloc (.map #[] 0)) (.cells #[.map (some w.heap.size)] 198) (n:=w.heap.size+1) (by simp)
omit w0 w p V S in
def zmb (w:World) (l:List zn) (e:Ending) (w':World):Prop:=∃M,e=.returned (if(l.map (·.at_)).Nodup then .tuple #[.pointer (some ⟨w.heap.size+1,0,none⟩),.int .i64 0] else .tuple #[.pointer none,.int .i64 12])∧Je w' w.heap.size M∧w'.heap[w.heap.size+1]? =some (.cells #[.map (some w.heap.size)] 198 (0,0))∧Fr No w w'∧((l.map (·.at_)).Nodup→∀k v,(k,v)∈M↔(⟨k,v⟩:zn)∈l)
omit w0 w p V S in
theorem zhn (w:World) {l:List zn} (hl:vt w v l) (hN:l.length≤100000):
  Calls prog 79 #[v] w (zmb w l):=by
 obtain⟨dO,uO,rO⟩:=YT
 obtain⟨va,vc,rfl⟩:=hl.2.form
 have HL:=Hd hl
 obtain⟨w1,R,f1,I,F⟩:=zk6 w
 have F1:=Hd f1
 have A:=Hd I
 have u:=Hd F
 have m1:=zgG
 clear hl f1 I F
 go_enter Tryz.func79,Tryz.ntmps79
 go_wp2_with fail
 rw[←R]
 clear R m1
 generalize N:w.heap.size=q at*
 go_loopw [12] (λiv wr=>∃(n:Nat) (M:List (zx×yC)),iv=.int .i64 n∧n≤l.length∧Je wr q M∧wr.heap[q+1]? =some (.cells #[.map (some q)] 198 (0,0))∧(∀k v,(k,v)∈M→(⟨k,v⟩:zn)∈l.take n)∧(∀c∈l.take n,∃v,(c.at_,v)∈M)∧M.length≤n∧Fr No w wr) (λiv _=>l.length-(intOf iv).toNat)
 case atStart=>exact⟨0,[],rfl,zero_le _,A.o,u.o,by simp,by simp,le_refl _,F1.o⟩
 case round=>
  obtain⟨n,M,rfl,hn,hm,m,h1,h2,ab,fr⟩:=hrel
  have r:=Hd hm
  have HB:=Hd m
  have T:=Hd fr
  have H1:=Hd h1
  have H2:=Hd h2
  clear h1 h2 fr hm
  by_cases h:n<l.length
  ·have i1:(n:Int)<(l.length:Int):=by omega
   obtain⟨c,hx⟩:∃c,l[n]? =some c:=⟨_,List.getElem?_eq_getElem h⟩
   obtain⟨b,off,cap,P,hr,-⟩:=(HL.o.keep T.o).at_ hx
   cases P
   have f:=Hd (HL.o.1 c (List.mem_of_getElem? hx))
   have W:=Hd (xI f.o)
   have PL:=Hd (zW f.o.1)
   have OL:=Hd (yq f.o.2)
   have R1:=Hd hr
   have nb:=zq wr (z7 c) 60
   have RP:=Hd (JF nb)
   have RO:=@Hd ((wr.alloc (.cells (z7 c).toArray 60)).rangeAt wr.heap.size 33 (zF c.out)) (by have:=Xx f.o nb;rwa [Nat.zero_add] at this)
   have zc:=ZU
   have E:l.take (n+1)=l.take n++[c]:=by rw[List.take_add_one,hx];rfl
   have U:=(frN wr).alloc (.cells (z7 c).toArray 60)
   have FA:=Hd (T.o.trans0 U)
   have o:=U.obj m id
   have cA:(wr.alloc (.cells (z7 c).toArray 60)).cell? ⟨q+1,0,none⟩=some (.map (some q)):=(zbf o).1
   have CA:=Hd cA
   have ad:q<wr.heap.size:=r.o.lt
   obtain⟨w3,M',O,D,hU,s,H⟩:=((r.o.keep U id).keep (frN _).drew id).upd jF.keyed ZT (λ_ _=>vD) (xu f.o.1) (by unfold maxLen;omega) c.out
   have C:=s.fr
   have HR:=Hd O
   have Y:=Hd D
   have z:=Hd (C.obj (show(wr.alloc (.cells (z7 c).toArray 60)).drew.heap[q+1]? =_ from o) (λe=>by omega))
   have S3:=@Hd (w3.cell? ⟨q+1,0,none⟩=some (.map (some q))∧w3.rangeAt wr.heap.size 0 (zm c.at_)∧w3.rangeAt wr.heap.size 33 (zF c.out)) (⟨(zbf z.o).1,za (za RP.o (frN _).drew id) C (λe=>by omega),za (za RO.o (frN _).drew id) C (λe=>by omega)⟩)
   have F3:=Hd (FA.o.drew.trans C (λi hi e=>by omega))
   have Z:=Hd hU
   have X:=Hd H
   clear hr nb cA O D hU s H C U m o
   go_wp2_with (first|(refine znY rfl rfl rfl R1.o W.o ?_)|(refine zi rfl (zj (w:=wr) (ty:=60) rfl rfl rfl (by rw[W.o];rfl) (by rw[W.o];exact zb5) qi) ?_))
   refine wrLx [ff,ff,ff,ff,ff,ff,ff,ff,tt] (λw'=>w'.cell? ⟨q+1,0,none⟩=some (.map (some q))∧w'.rangeAt wr.heap.size 0 (zm c.at_)∧w'.rangeAt wr.heap.size 33 (zF c.out)) ?_ (λK hK=>?_)
   ·exact⟨CA.o,za RP.o (frN _).drew id,za RO.o (frN _).drew id⟩
   repeat((first|(refine zk rfl ?_;constructor;constructor;(focus(first|exact znZ rfl (λw h=>h.2.1) PL.o|exact y5 (ty:=58) rfl (λw h=>h.2.2) uO rO (by rw[OL.o];exact yW)|(rintro w' ⟨s1,s2,s3⟩;exact goS))))|(refine zl rfl ?_));try simp only[Act.put,pA,pB,pC])
   (refine zM rfl (λK' hK'=>?_))
   refine xp (xK rfl rfl rfl rfl HR.o) ?_
   refine nXt hK' ?_ λhS=>?_
   ·exact S3.o
   refine zN (hK.out _ _ ?_)
   go_wp2
   go_roundw
   case rel=>
    refine⟨n+1,M',by simp,by omega,Y.o,z.o,?_,?_,by have:=X.o;omega,F3.o⟩
    ·intro k v aa
     rw[E]
     rcases(Z.o k v).1 aa with⟨rfl,rfl⟩|⟨_,h⟩
     ·simp
     ·exact mem_append.2 (.inl (H1.o k v h))
    ·intro c' G
     rw[E] at G
     by_cases e:c'.at_=c.at_
     ·exact⟨c.out,by rw[e];exact(Z.o _ _).2 (.inl ⟨rfl,rfl⟩)⟩
     ·rcases mem_append.1 G with h|h
      ·obtain⟨v,P⟩:=H2.o c' h
       exact⟨v,(Z.o _ _).2 (.inr ⟨e,P⟩)⟩
      ·rw[List.mem_singleton.1 h] at e;exact absurd rfl e
   case measure=>show l.length-(n+1)<l.length-n;omega
  ·have i1:¬(n:Int)<(l.length:Int):=by omega
   have s:l.take n=l:=by rw[show n=l.length by omega,List.take_length]
   have j:=@Hd (∀k v,(k,v)∈M→(⟨k,v⟩:zn)∈l) (by have:=H1.o;rwa [s] at this)
   have t:=@Hd (∀c∈l,∃v,(c.at_,v)∈M) (by have:=H2.o;rwa [s] at this)
   have g:∀x,x∈M.map (·.1)↔x∈l.map (·.at_):=by
    intro x
    constructor
    ·intro h
     obtain⟨y,hy,rfl⟩:=mem_map.1 h
     exact mem_map.2 ⟨_,j.o y.1 y.2 hy,rfl⟩
    ·intro h
     obtain⟨c,hc,rfl⟩:=mem_map.1 h
     obtain⟨v,P⟩:=t.o c hc
     exact mem_map.2 ⟨_,P,rfl⟩
   have d:=zaP r.o.nodup g
   rw[length_map,length_map] at d
   have c0:wr.cell? ⟨q+1,0,none⟩=some (.map (some q)):=(zbf m).1
   have LR:=Hd (λty=>r.o.lenRun ZT ty)
   clear s g A u F1 m
   by_cases hnd:(l.map (·.at_)).Nodup
   ·have j1:(M.length:Int)=(l.length:Int):=by have:=d.2 hnd;omega
    have B:=Hd hnd
    clear d hnd
    go_wp2_with (refine zg rfl (jr rfl rfl (LR.o _)) ?_)
    go_ret2
    refine⟨M,by rw[if_pos B.o,N];rfl,by rw[N];exact r.o,by rw[N];exact HB.o,T.o,λ_ k v=>⟨j.o k v,λh=>?_⟩⟩
    obtain⟨v',Q⟩:=t.o _ h
    have h':=j.o _ _ Q
    have:∀ {L:List zn},(L.map (·.at_)).Nodup→∀a∈L,∀b∈L,a.at_=b.at_→a=b:=by
     intro L
     induction L with
     |nil=>intro _ a ha;cases ha
     |cons x L ih=>
      intro hn a ha b m e
      obtain⟨n1,n2⟩:=nodup_cons.1 hn
      rcases mem_cons.1 ha with rfl|ha'<;>rcases mem_cons.1 m with rfl|hb'
      ·rfl
      ·exact absurd (mem_map.2 ⟨b,hb',e.symm⟩) n1
      ·exact absurd (mem_map.2 ⟨a,ha',e⟩) n1
      ·exact ih n2 a ha' b hb' e
    have:=this B.o _ h' _ h rfl
    injection this with _ e
    rw[←e]
    exact Q
   ·have j1:¬(M.length:Int)=(l.length:Int):=λe=>hnd (d.1 (by omega))
    have B:=Hd hnd
    clear d hnd
    go_wp2_with (refine zg rfl (jr rfl rfl (LR.o _)) ?_)
    go_ret2
    exact⟨M,by rw[if_neg B.o];rfl,by rw[N];exact r.o,by rw[N];exact HB.o,T.o,λh=>absurd h B.o⟩
end
theorem yQ:(zF xN).toArray.size=33:=by rw[List.size_toArray,yq Qt]
theorem zlV (w0 w:World) (f:Fr No w0 w) {l:List zn} (b:vt w v l) (d:l.length≤100000) (a:(l.map (·.at_)).Nodup):
  Calls prog 79 #[v] w λe w'=>∃p,e=.returned (.tuple #[.pointer (some ⟨p,0,none⟩),.int .i64 0])∧∃V,CS w0 w' p V (jQ [] l)∧Fr No w w'∧(∀k,V k→w.heap.size≤k):=by
 refine(zhn w b d).mono ?_
 rintro e w' ⟨M,rfl,m,g,fr,n⟩
 refine⟨w.heap.size+1,by rw[if_pos a],λj=>j=w.heap.size+1∨j=w.heap.size,⟨⟨_,M,g,m,λk v=>?_,by omega,rfl⟩,JJ List.Pairwise.nil a (λ_ _=>rfl),λc i=>?_,?_,f.trans0 fr⟩,fr,?_⟩
 ·rw[n a,qL];simp
 ·rcases qL.1 i with h|h
  ·cases h
  ·exact b.1 c h
 ·have:=f.size;rintro j (rfl|rfl)<;>omega
 ·rintro j (rfl|rfl)<;>omega
theorem ziq (w:World) {l:List zn} (c:vt w v l) (b:l.length≤100000) (a:¬(l.map (·.at_)).Nodup):
  Calls prog 79 #[v] w λe w'=>e=.returned (.tuple #[.pointer none,.int .i64 12])∧Fr No w w':=by
 refine(zhn w c b).mono ?_
 rintro e w' ⟨M,rfl,-,-,fr,-⟩
 exact⟨by rw[if_neg a],fr⟩
theorem zjE {S:List zn} (h:qF S) {q:zx} {v:yC}:Xl S q=some v↔(⟨q,v⟩:zn)∈S:=by
 constructor
 ·intro e
  cases hh:yV S q with
  |false=>rw[zgi hh] at e;cases e
  |true=>
   obtain⟨c,a,rfl⟩:=qt.1 hh
   rw[YW h a] at e
   injection e with e
   rw[←e]
   exact a
 ·intro b
  exact YW (c:=⟨q,v⟩) h b
def zZ (S:List zn) (q:zx):yC:=(Xl S q).getD xN
theorem qB {S:List zn} (ok:∀c∈S,c.ok) (q:zx):(zZ S q).ok:=by
 unfold zZ Xl
 cases e:S.find? λc=>decide (c.at_=q) with
 |none=>exact Qt
 |some c=>exact(ok c (List.mem_of_find?_eq_some e)).2
section
variable {w0 w:World} {p:Nat} {V:Nat→Prop} {S:List zn}
theorem zd7 {m:Nat} {M:List (zx×yC)} (c:∀k v,(k,v)∈M↔(⟨k,v⟩:zn)∈S) (srt:qF S) {q:zx} (b:q.ok) (a:Je w m M):
  (Instr.lookup 196 (.map (some m)) (Jd q) true).run prog w=.ok (.tuple #[.agg (zF (zZ S q)).toArray,.bool (yV S q)]) w:=by
 have h:=a.look jF.keyed ZT (λ_ _=>vD) zlP (xu b) true (r:=Xl S q) (λv=>by rw[c,zjE srt])
 rw[h,zd3]
 have:((Xl S q).map zcP).getD (zcP xN)=zcP (zZ S q):=by
  unfold zZ
  cases Xl S q<;>rfl
 simp only[if_true,this]
 rfl
theorem zgk (h:CS w0 w p V S) {q:zx} (v:q.ok):Calls prog 56 #[.pointer (some ⟨p,0,none⟩),.agg (zm q).toArray] w λe w'=>e=.returned (.tuple #[.agg (zF (zZ S q)).toArray,.bool (yV S q)])∧Fr No w w':=by
 obtain⟨G,F,E⟩:=YT
 obtain⟨m,M,s,u,x,r,rfl⟩:=h.ex
 have c:=Hd (λw' (h':Je w' m M)=>zd7 (w:=w') x h.srt v h')
 have o:=Hd (qB h.ok q)
 have d:=Hd (yq o.o)
 have A:=Hd (zW v)
 have N:=y3
 have l:Fr No w ((w.alloc (.cells (zm q).toArray 56)).alloc (.cells (zF xN).toArray 58)):=((frN w).alloc _).alloc _
 have k:=(zbf (l.obj s id)).1
 have j:=Hd (za (zq w (zm q) 56) ((frN _).alloc (.cells (zF xN).toArray 58)) id)
 have g:=Hd (u.keep l id)
 have f:=Hd (yU (w.alloc (.cells (zm q).toArray 56)) (.cells (zF xN).toArray 58) (n:=w.heap.size+1) (by simp))
 have y:=Hd l
 generalize yV S q=C at*
 generalize zZ S q=X at*
 clear h s u x r l
 go_enter Tryz.func56,Tryz.ntmps56
 go_wp2_with fail
 generalize D:w.heap.size=n at*
 generalize (w.alloc (.cells (zm q).toArray 56)).alloc (.cells (zF xN).toArray 58)=a at*
 refine wrLx [ff,ff,ff,ff,ff,ff,ff,ff,ff,tt,tt,ff] (λw'=>w'.cell? ⟨p,0,none⟩=some (.map (some m))∧w'.rangeAt n 0 (zm q)∧Je w' m M) ?_ (λK hK=>?_)
 ·exact⟨k,za j.o (frN _).drew id,g.o.keep (frN _).drew id⟩
 repeat((first|(refine zk rfl ?_;constructor;constructor;(focus(first|exact znZ rfl (λw h=>h.2.1) A.o|exact λw' h=>zY (t:=196) rfl rfl rfl (c.o w' h.2.2)|(rintro w' ⟨H,I,L⟩;exact goS))))|(refine zl rfl ?_));try simp only[Act.put,pA,pB,pC])
 (refine zM rfl (λK' hK'=>?_))
 refine yD (xH rfl (y3 _)) ?_
 refine nXt hK' ?_ λhS=>?_
 ·exact⟨(((frN a).drew).alloc _).cell k id,za j.o (((frN a).drew).alloc _) id,g.o.keep (((frN a).drew).alloc _) id⟩
 try simp only[Act.put,pA,pB,pC]
 (refine zM rfl (λK' hK'=>?_))
 refine xp (zj (w:=a.drew) (ty:=58) (cs:=zF X) rfl rfl rfl (by rw[d.o];rfl) (by rw[d.o];exact yW) yd) ?_
 refine nXt hK' ?_ λhS=>?_
 ·exact⟨(((frN a).drew).alloc _).cell k id,za j.o (((frN a).drew).alloc _) id,g.o.keep (((frN a).drew).alloc _) id⟩
 try simp only[Act.put]
 repeat((first|(refine zk rfl ?_;constructor;constructor;(focus(first|(rintro w' -;exact goS))))|(refine zl rfl ?_));try simp only[Act.put,pA,pB,pC])
 refine zN (hK.out _ _ ?_)
 have B:=@Hd ((a.alloc (.cells (zF X).toArray 58)).drew.rangeAt a.heap.size 0 (zF X)) (zq a (zF X) 58)
 have b:=Hd (((frN a).alloc (.cells (zF X).toArray 58)).drew.obj f.o id)
 have z:=Hd ((y.o.alloc (.cells (zF X).toArray 58)).drew)
 clear k j g c f
 go_wp2_with (first|(refine znU rfl rfl rfl B.o d.o ?_)|(refine zi rfl (zU (ty:=58) rfl rfl rfl (by rw[d.o];exact yb b.o (Nat.le_of_eq yQ.symm)) (by rw[d.o];exact yW) yd) ?_))
 refine bodyPost_ret (yt (P:=prog) (fn:=Tryz.f56) rfl _ rfl (yB b.o (by rw[d.o];exact yQ)) F E (by rw[d.o];exact yW) rfl) rfl ⟨rfl,?_⟩
 exact z.o.trans (zy _ _ _ _) (λi hi e=>by omega)
end
end Go.Proofs.YtbcllfjmabiafaaGreatDoor
namespace Go
open Go.MapKept Go.RowKit Go.Maps
section
variable {P:Program} {kt et t:TypeId} {w:World} {r b:Nat} {κ ι:Type} {kV:κ→Value} {vV:ι→Value} {M R:List (κ×ι)}
def vZ (P:Program) (kt:TypeId) (kV:κ→Value) (vV:ι→Value) (w:World) (r b:Nat) (M R:List (κ×ι)):Prop:=
 vY P kt w r b (M.map λx=>(kV x.1,vV x.2)) (R.map λx=>(kV x.1,vV x.2))
theorem vZ.map (h:vZ P kt kV vV w r b M R):yI P kt kV vV w b M:=vY.map h
theorem vZ.lt (h:vZ P kt kV vV w r b M R):r<w.heap.size:=vY.lt h
theorem vZ.keep {w':World} {W:Nat→Prop} (h:vZ P kt kV vV w r b M R) (f:Fr W w w') (a:¬W b) (c:¬W r):vZ P kt kV vV w' r b M R:=vY.keep h f a c
theorem yI.rangeI (c:P.underlying t=some (.map kt et)) (h:yI P kt kV vV w b M):
  ∃a,(Instr.range t (.map (some b))).run P w=.ok (.pointer (some ⟨w.heap.size,0,none⟩)) (w.alloc (.mapIter (some b) a #[] a))∧vZ P kt kV vV (w.alloc (.mapIter (some b) a #[] a)) w.heap.size b M M:=xw.range c h
theorem vZ.stop (h:vZ P kt kV vV w r b M []) (ty:TypeId):(Instr.next (.pointer (some ⟨r,0,none⟩)) false ty).run P w=.ok (.tuple #[.bool false]) w:=vY.nextNone h ty
theorem vZ.step (h:vZ P kt kV vV w r b M R) (f:R≠[]) (ty:TypeId):
  ∃A x B w',R=A++x::B∧(Instr.next (.pointer (some ⟨r,0,none⟩)) false ty).run P w=.ok (.tuple #[.bool true,kV x.1,vV x.2]) w'∧vZ P kt kV vV w' r b M (A++B)∧Fr (· =r) w w'∧
   (Instr.entry (.pointer (some ⟨r,0,none⟩))).run P w'=.ok (.tuple #[kV x.1,vV x.2]) w':=by
 obtain⟨m,p,n,i,l,g,e,j,c⟩:=vY.nextSome h (by simpa using f) ty
 obtain⟨A,B,d,k,a⟩:=List.map_eq_append_iff.1 l
 cases B with
 |nil=>simp at a
 |cons x B=>
  simp only[List.map_cons,List.cons.injEq] at a
  obtain⟨rfl,a⟩:=a
  subst k
  subst a
  exact⟨A,x,B,i,d,g,by unfold vZ;rw[List.map_append];exact e,j,c i rfl rfl⟩
end
end Go
namespace Go
open Go.RowKit Go.Maps Go.MapKept
theorem append_nil {P:Program} (w:World) (t ty e:TypeId) (b:P.underlying t=some (.slice e)) (i:TypeInfo) (hi:P.info? e=some i) (base:Option Addr) (n cap:Nat) (a:n≤cap):
  (Builtin.append_ #[t,t] ty #[.slice base n cap,.slice none 0 0]).run P w=.ok (.slice base n cap) w:=by
 cases base<;>simp[Builtin.append_,run_underlying b,sizeOf,typeInfo,hi,a,storeCells,loadCells,Builtin.lenOf,Builtin.firstCells]
theorem Zq {P:Program} (w:World) (base:Nat) (t ty e:TypeId) (size bytes:Nat) (z:Value) (E:P.underlying t=some (.slice e)) (d:(P.info? e).map (λi=>(i.zero,i.size,i.bytes))=some (some z,size,bytes)) (D:z.cells.size=size) (C:0<size)
  (v:Value) (n:Nat) (xs:List Value) (f:w.ownsRow base e size v n xs) (x:Value) (m:Nat) (news:List Value) (F:jT w x m news) (L:news.length=m*size) (r:∀u∈news,u.oneCell'=true)
  (l:(n+m)*bytes≤140737488355328) (A:n+m≤maxLen) (p:base≤w.heap.size):
  ∃q w',(Builtin.append_ #[t,t] ty #[v,x]).run P w=.ok q w'∧w'.ownsRow base e size q (n+m) (xs++news)∧Fr (λj=>v.ownBlock=some j) w w'∧(∀k,q.ownBlock=some k→v.ownBlock=some k∨w.heap.size≤k):=by
 by_cases hnil:x=.slice none 0 0
 ·subst hnil
  have M:m=0∧news=[]:=by
   rcases F with⟨_,r,y⟩|⟨b,o,c,h,_⟩
   ·exact⟨r,y⟩
   ·cases h
  obtain⟨rfl,rfl⟩:=M
  obtain⟨i,hi,_⟩:=info_parts d
  have K:∃a c,v=.slice a n c∧n≤c:=by
   rcases f.2 with⟨rfl,rfl⟩|⟨g,cap,G,rfl,_,_,h,_⟩
   ·exact⟨none,0,rfl,Nat.le_refl _⟩
   ·exact⟨_,_,rfl,h⟩
  obtain⟨a,c,rfl,B⟩:=K
  refine⟨_,w,append_nil w t ty e E i hi a n c B,by simpa using f,Fr.refl _ _,λk h=>.inl h⟩
 ·obtain⟨q,w',s,y,H,_,I⟩:=Jn (P:=P) w base t ty e size bytes z E d D C v n xs f x m news F.arg L r l A p hnil
  exact⟨q,w',s,y,(Fr.refl _ w).grown H (λk e=>.inr e),I⟩
end Go
namespace Go.Proofs.YtbcllfjmabiafaaGreatDoor
open Go Go.RowKit Go.Maps Go.MapKept
open Go.Proofs.Tryz(prog)
open List(mem_map mem_append mem_cons length_map map_append nodup_cons map_cons not_mem_nil)
open Nat(le_refl zero_le)
variable {B:Nat} {l:List Int} {v:Value} {w w':World}
abbrev zf:=List Int
def zd (h:zf):List Value:=h.map zQ
def xL (h:zf):Value:=.agg (zd h).toArray
theorem zu {h:zf} (k:zV h):(zd h).length=32:=by simp[zd,k.1]
theorem zE {h:zf}:∀v∈zd h,v.oneCell'=true:=by
 intro v a
 obtain⟨y,_,rfl⟩:=mem_map.1 a
 rfl
theorem zaM {a b:zf} (h:zd a=zd b):a=b:=zaG h
theorem xf {a b:zf} (h:xL a=xL b):a=b:=by
 unfold xL at h
 injection h with h
 exact zaM (by simpa using congrArg Array.toList h)
theorem zlG:prog.underlying 45=some (.array 32 5):=by kernel_rfl
theorem ym {h:zf} (k:zV h):∃l,keyOf prog 45 (xL h)=some l:=
 ze2 zlG (by kernel_rfl) (by kernel_rfl) (by kernel_rfl) (by kernel_rfl) (of_decide_eq_true (by kernel_rfl)) h k.1 (λx a=>zl3 (k.2 x a))
theorem xT:EqN prog 45:=⟨Keyed.of_law (deep_law_laid V3 (m:=2) (by decide) (of_decide_eq_true (by kernel_rfl)) (by kernel_rfl) (by kernel_rfl)),⟨2,by decide,by kernel_rfl⟩,by kernel_rfl,by kernel_rfl⟩
theorem jq:∃d,prog.underlying 45=some d∧d.isRow=true:=jR (by kernel_rfl)
theorem yj:(prog.info? 45).map (·.size)=some 32:=by kernel_rfl
def yT:zf:=List.replicate 32 0
theorem qY:zV yT:=⟨rfl,λx a=>by have:x=0:=List.eq_of_mem_replicate a;omega⟩
theorem y7:prog.underlying 37=some (.slice 45):=by kernel_rfl
theorem xA:(prog.info? 45).map (λi=>(i.zero,i.size,i.bytes))=some (some (.agg (zd yT).toArray),32,32):=by kernel_rfl
theorem xD:(prog.info? 45).map (λi=>(i.zero,i.size))=some (some (.agg (zd yT).toArray),32):=by kernel_rfl
theorem yJ (w:World):(zeroValue 45).run prog w=.ok (.agg (zd yT).toArray) w:=by kernel_rfl
def y4 (w:World) (v:Value) (l:List zf):Prop:=(∀c∈l,zV c)∧xQ w v l.length (l.flatMap zd)
theorem y4.keep {l:List zf} (h:y4 w v l) (f:Fr No w w'):y4 w' v l:=⟨h.1,h.2.keep f⟩
theorem y4.at_ {l:List zf} (h:y4 w v l) {i:Nat} {c:zf} (a:l[i]? =some c):∃b off cap,v=.slice (some ⟨b,off,none⟩) l.length cap∧w.rangeAt b (off+i*32) (zd c)∧b<w.heap.size:=
 h.2.elem (by decide) (λx a=>zu (h.1 x a)) a
theorem Zk {l:List zf} (ok:∀c∈l,zV c):(l.flatMap zd).length=l.length*32:=xY zd 32 l (λx a=>zu (ok x a))
theorem YZ {l:List zf}:∀u∈l.flatMap zd,u.oneCell'=true:=λu a=>by
 obtain⟨x,_,b⟩:=List.mem_flatMap.1 a
 exact zE u b
theorem y4.own {l:List zf} (h:w.ownsRow B 45 32 v l.length (l.flatMap zd)) (ok:∀c∈l,zV c):y4 w v l:=⟨ok,h.slice.arg⟩
theorem xQ.cap {a:Option Addr} {n c:Nat} {cs:List Value} (h:xQ w (.slice a n c) n cs):n≤c:=by
 rcases h with(⟨e,rfl,-⟩|⟨b,off,cap,e,d,-⟩)|⟨a',cap,e,rfl,-⟩
 ·exact zero_le _
 ·injection e with _ _ e3;subst e3;exact d
 ·exact zero_le _
theorem Qb:prog.underlying 110=some (.slice 5):=by kernel_rfl
theorem Qr:(prog.info? 5).map (λi=>(i.zero,i.size,i.bytes))=some (some (.int .u8 0),1,1):=by kernel_rfl
def qV (w:World) (B:Nat) (v:Value) (l:List Int):Prop:=w.ownsRow B 5 1 v l.length (l.map zQ)
theorem zc1:∀u∈l.map zQ,u.oneCell'=true:=λu a=>by
 obtain⟨x,_,rfl⟩:=mem_map.1 a
 rfl
theorem qV.nil (w:World) (B:Nat):qV w B (.slice none 0 0) []:=World.ownsRow_nil w B _ 1
theorem qV.form (h:qV w B v l):∃a c,v=.slice a l.length c:=h.slice.arg.form
theorem qV.keep0 (h:qV w B v l) (f:Fr No w w'):qV w' B v l:=zb h f (λ_ _=>id)
def Ye (w:World) (v v':Value):Prop:=∀k,v'.ownBlock=some k→v.ownBlock=some k∨w.heap.size≤k
theorem vx (w:World) {v x:Value} {l m:List Int} (p:qV w B v l) (q:xQ w x m.length (m.map zQ)) (o:l.length+m.length≤1000000) (n:B≤w.heap.size) (ty:TypeId):
  ∃b w',(Builtin.append_ #[110,110] ty #[v,x]).run prog w=.ok b w'∧qV w' B b (l++m)∧Fr (λj=>v.ownBlock=some j) w w'∧Ye w v b:=by
 have s:(l++m).length=l.length+m.length:=List.length_append
 by_cases hnil:x=.slice none 0 0
 ·obtain⟨a,c,h⟩:=q.form
  rw[hnil] at h
  injection h with h1 h2 h3
  have r:m=[]:=List.eq_nil_of_length_eq_zero h2.symm
  subst r
  obtain⟨b,w',d,f,g,i⟩:=Zq (P:=prog) w B 110 ty 5 1 1 _ Qb Qr rfl (by decide) v l.length (l.map zQ) p x 0 [] (.inl ⟨hnil,rfl,rfl⟩) rfl (by simp) (by simp at o⊢;omega) (by unfold maxLen;simp at o;omega) n
  exact⟨b,w',d,by unfold qV;simpa using f,g,i⟩
 ·obtain⟨b,w',d,f,g,-,i⟩:=Jn (P:=prog) w B 110 ty 5 1 1 _ Qb Qr rfl (by decide) v l.length (l.map zQ) p x m.length (m.map zQ) q (by simp) zc1 (by omega) (by unfold maxLen;omega) n hnil
  refine⟨b,w',d,?_,(Fr.refl _ w).grown g (λk e=>.inr e),i⟩
  unfold qV
  rw[List.length_append,map_append]
  exact f
theorem Jt (w:World) {x:Int} (q:qV w B v l) (p:l.length+1≤1000000) (r:B≤w.heap.size) (ty:TypeId):
  ∃a w',(Builtin.append_ #[110,110] ty #[v,.slice (some ⟨w.heap.size,0,none⟩) 1 1]).run prog (w.alloc (.cells #[zQ x] 5))=.ok a w'∧qV w' B a (l++[x])∧Fr (λj=>v.ownBlock=some j) w w'∧Ye w v a:=by
 have g:=ye w (.cells #[zQ x] 5)
 obtain⟨a,w',b,c,d,f⟩:=vx (w.alloc (.cells #[zQ x] 5)) (q.keep0 ((frN w).alloc _)) (x:=.slice (some ⟨w.heap.size,0,none⟩) 1 1) (m:=[x]) (.inl (.inr ⟨w.heap.size,0,1,rfl,le_refl _,by unfold maxLen;omega,λj u n=>by
   have:=zv g j u n
   exact this,by simp⟩)) p (by simp;omega) ty
 exact⟨a,w',b,c,((Fr.refl _ w).alloc _).trans d (λi hi e=>e),λk o=>(f k o).imp id (λh=>by simp at h;omega)⟩
def xg (w:World) (v:Value) (l:List yC):Prop:=(∀c∈l,c.ok)∧xQ w v l.length (l.flatMap zF)
theorem xg.keep {l:List yC} (h:xg w v l) (f:Fr No w w'):xg w' v l:=⟨h.1,h.2.keep f⟩
theorem xg.at_ {l:List yC} (h:xg w v l) {i:Nat} {c:yC} (a:l[i]? =some c):∃b off cap,v=.slice (some ⟨b,off,none⟩) l.length cap∧w.rangeAt b (off+i*33) (zF c)∧b<w.heap.size:=
 h.2.elem (by decide) (λx a=>yq (h.1 x a)) a
end Go.Proofs.YtbcllfjmabiafaaGreatDoor
namespace Go
open Go.RowKit Go.Sort
def Yd (w w':World):Prop:=∃q os,w'=grow (w.drewN q) os
theorem Yd.refl (w:World):Yd w w:=⟨0,#[],by simp[grow];rfl⟩
theorem Yd.drew {w w':World} (h:Yd w w'):Yd w w'.drew:=by
 obtain⟨q,os,rfl⟩:=h
 exact⟨q+1,os,rfl⟩
theorem Yd.alloc {w w':World} (h:Yd w w') (o:Obj):Yd w (w'.alloc o):=by
 obtain⟨q,os,rfl⟩:=h
 exact⟨q,os++ #[o],by rw[alloc_eq_grow,grow_grow]⟩
def u8 (x:Int):UInt8:=x.toNat.toUInt8
end Go
namespace Go.Proofs.YtbcllfjmabiafaaGreatDoor
open Go Go.RowKit Go.Maps Go.MapKept
open Go.Proofs.Tryz(prog)
open List(mem_map mem_append mem_cons length_map map_append nodup_cons map_cons not_mem_nil)
open Nat(le_refl zero_le)
variable {V:Nat→Prop} {cs:List Value} {k:Nat} {kv v:Value} {w w':World}
section
open Go.Sort
theorem ziB:vi.ok:=⟨⟨rfl,λx a=>by have:x=0:=List.eq_of_mem_replicate a;omega⟩,by decide,by decide⟩
abbrev zmV:Type:={c:zn // c.ok}
instance:Inhabited zmV:=⟨⟨zc5,ziB,Qt⟩⟩
end
def Kept (V:Nat→Prop) (w:World) (Q:World→Prop):Prop:=∀w',Fr V w w'→Q w'
theorem Kept.now {Q:World→Prop} (h:Kept V w Q):Q w:=h w (Fr.refl V w)
theorem Kept.step {V V':Nat→Prop} {Q:World→Prop} (h:Kept V w Q) (f:Fr V w w') (b:∀j,j<w.heap.size→V' j→V j):Kept V' w' Q:=
 λc a=>h c (f.trans a b)
theorem Kept.same {Q:World→Prop} (h:Kept V w Q) (f:Fr V w w'):Kept V w' Q:=h.step f (λ_ _ h=>h)
theorem Kept.imp {Q R:World→Prop} (h:Kept V w Q) (a:∀w',Fr V w w'→Q w'→R w'):Kept V w R:=λw' f=>a w' f (h w' f)
structure InD where
 from_:zx
 key:List Int
structure TxD where
 ver:Int
 ins:List InD
 outs:List yC
structure qf where
 tag:Int
 pay:List yC
 txs:List TxD
def qG {α:Type} (k:Nat) (q:World→α→List Value→Prop) (w:World) (v:Value) (L:List α):Prop:=
 ∃va vc,v=.slice va L.length vc∧L.length≤maxLen∧∀(i:Nat) (d:α),L[i]? =some d→∃b off cs,va=some ⟨b,off,none⟩∧w.rangeAt b (off+i*k) cs∧q w d cs
theorem qG.keep {α:Type} {q:World→α→List Value→Prop} {L:List α} (l:∀d cs,q w d cs→q w' d cs) (h:qG k q w v L) (f:Fr No w w'):qG k q w' v L:=by
 obtain⟨m,n,e,j,h⟩:=h
 refine⟨m,n,e,j,λi d hi=>?_⟩
 obtain⟨b,off,cs,a,c,g⟩:=h i d hi
 exact⟨b,off,cs,a,za c f id,l _ _ g⟩
theorem qG.form {α:Type} {q:World→α→List Value→Prop} {L:List α} (h:qG k q w v L):∃a c,v=.slice a L.length c:=by
 obtain⟨b,d,e,_⟩:=h
 exact⟨b,d,e⟩
theorem qG.at_ {α:Type} {q:World→α→List Value→Prop} {L:List α} (h:qG k q w v L) {i:Nat} {d:α} (f:L[i]? =some d):∃b off cap cs,v=.slice (some ⟨b,off,none⟩) L.length cap∧w.rangeAt b (off+i*k) cs∧q w d cs:=by
 obtain⟨j,g,rfl,-,h⟩:=h
 obtain⟨b,off,cs,e,a,c⟩:=h i d f
 subst e
 exact⟨b,off,g,cs,rfl,a,c⟩
theorem qG.len {α:Type} {q:World→α→List Value→Prop} {L:List α} (h:qG k q w v L):L.length≤maxLen:=by
 obtain⟨a,b,e,h,_⟩:=h
 exact h
theorem qG.nil {α:Type} {q:World→α→List Value→Prop}:qG k q w (.slice none 0 0) ([]:List α):=⟨none,0,rfl,zero_le _,λi d h=>by simp at h⟩
theorem qG.own {α:Type} {q:World→α→List Value→Prop} {L:List α} {B:Nat} {ty:TypeId} {css:List (List Value)} (b:0<k) (h:w.ownsRow B ty k v L.length (css.flatMap id)) (j:css.length=L.length) (c:∀cs∈css,cs.length=k) (l:L.length≤maxLen)
  (m:∀(i:Nat) (d:α) (cs:List Value),L[i]? =some d→css[i]? =some cs→q w d cs):qG k q w v L:=by
 obtain⟨n,o,rfl⟩:=h.slice.arg.form
 refine⟨n,o,rfl,l,λi d hi=>?_⟩
 have a:i<css.length:=by rw[j];exact(List.getElem?_eq_some_iff.1 hi).1
 obtain⟨g,cap,e,p,-⟩:=yZ (f:=id) b c h (List.getElem?_eq_getElem a)
 injection e with e1 e2 e3
 subst e1
 exact⟨g,0,css[i],rfl,by rwa [Nat.zero_add],m i d _ hi (List.getElem?_eq_getElem a)⟩
def zbE (w:World) (v:Value) (k:List Int):Prop:=(∀b∈k,0≤b∧b≤255)∧xQ w v k.length (k.map zQ)
theorem zbE.keep {k:List Int} (h:zbE w v k) (f:Fr No w w'):zbE w' v k:=⟨h.1,h.2.keep f⟩
def inC (p:zx) (kv:Value):List Value:=zm p++[kv]
theorem jf {p:zx} (h:p.ok) (kv:Value):(inC p kv).length=34:=by simp[inC,zW h]
theorem Jm {p:zx} {a:Option Addr} {n c:Nat}:∀u∈inC p (.slice a n c),u.oneCell'=true:=by
 intro u b
 simp only[inC,mem_append,List.mem_singleton] at b
 rcases b with b|rfl
 ·exact yF u b
 ·rfl
def InQ (w:World) (x:InD) (cs:List Value):Prop:=∃ka kc,cs=inC x.from_ (.slice ka x.key.length kc)∧x.from_.ok∧zbE w (.slice ka x.key.length kc) x.key
theorem InQ.keep {x:InD} (h:InQ w x cs) (f:Fr No w w'):InQ w' x cs:=by
 obtain⟨c,d,e,a,b⟩:=h
 exact⟨c,d,e,a,b.keep f⟩
abbrev Vw (w:World) (v:Value) (L:List InD):Prop:=qG 34 InQ w v L
theorem Vw.keep0 {L:List InD} (h:Vw w v L) (f:Fr No w w'):Vw w' v L:=qG.keep (λ_ _ h=>h.keep f) h f
theorem znE:∃d,prog.underlying 112=some d∧d.isRow=true:=jR (by kernel_rfl)
theorem znQ:(prog.info? 112).map (·.size)=some 34:=by kernel_rfl
theorem Yc (w:World):(zeroValue 112).run prog w=.ok (.agg (inC vi (.slice none 0 0)).toArray) w:=by kernel_rfl
theorem Qd:prog.underlying 25=some (.slice 112):=by kernel_rfl
theorem zhf:(prog.info? 112).map (λi=>(i.zero,i.size,i.bytes))=some (some (.agg (inC vi (.slice none 0 0)).toArray),34,64):=by kernel_rfl
theorem zhe {b off:Nat} {p:zx} (r:w.rangeAt b off (inC p kv)) (ok:p.ok):w.rangeAt b off (zm p)∧w.cell? ⟨b,off+33,none⟩=some kv:=by
 refine⟨λj u a=>r j u ?_,?_⟩
 ·unfold inC
  rw[List.getElem?_append_left (List.getElem?_eq_some_iff.1 a).1]
  exact a
 ·refine r 33 kv ?_
  unfold inC
  rw[List.getElem?_append_right (by rw[zW ok];exact le_refl _),zW ok]
  rfl
theorem zcu {b off:Nat} {p:zx} (r:w.rangeAt b off (zm p)) (ok:p.ok):w.rangeAt b off (p.tx.map zQ)∧w.cell? ⟨b,off+32,none⟩=some (.int .u32 p.n):=by
 refine⟨λj u a=>r j u ?_,r 32 _ (zdz ok)⟩
 unfold zm
 rw[List.getElem?_append_left (List.getElem?_eq_some_iff.1 a).1]
 exact a
def txC (v:Int) (iv ov:Value):List Value:=[.int .u32 v,iv,ov]
def TxQ (w:World) (t:TxD) (cs:List Value):Prop:=∃ia ic oa oc,cs=txC t.ver (.slice ia t.ins.length ic) (.slice oa t.outs.length oc)∧(0≤t.ver∧t.ver≤4294967295)∧Vw w (.slice ia t.ins.length ic) t.ins∧xg w (.slice oa t.outs.length oc) t.outs
theorem TxQ.keep {x:TxD} (h:TxQ w x cs) (f:Fr No w w'):TxQ w' x cs:=by
 obtain⟨d,g,i,j,e,a,b,c⟩:=h
 exact⟨d,g,i,j,e,a,b.keep0 f,c.keep f⟩
abbrev j7 (w:World) (v:Value) (L:List TxD):Prop:=qG 3 TxQ w v L
theorem j7.keep0 {L:List TxD} (h:j7 w v L) (f:Fr No w w'):j7 w' v L:=qG.keep (λ_ _ h=>h.keep f) h f
theorem zhD {t:Int} {a b:Option Addr} {n c m d:Nat}:∀u∈txC t (.slice a n c) (.slice b m d),u.oneCell'=true:=by
 intro u e
 simp only[txC,mem_cons,not_mem_nil,or_false] at e
 rcases e with rfl|rfl|rfl<;>rfl
theorem zbV:∃d,prog.underlying 27=some d∧d.isRow=true:=jR (by kernel_rfl)
theorem xt:(prog.info? 27).map (·.size)=some 3:=by kernel_rfl
theorem zet:prog.underlying 50=some (.slice 27):=by kernel_rfl
theorem zhg:(prog.info? 27).map (λi=>(i.zero,i.size,i.bytes))=some (some (.agg (txC 0 (.slice none 0 0) (.slice none 0 0)).toArray),3,56):=by kernel_rfl
def VD (t:Int) (pv tv:Value):List Value:=[.int .u64 t,pv,tv]
def vG (w:World) (b:qf) (cs:List Value):Prop:=∃pa pc ta tc,cs=VD b.tag (.slice pa b.pay.length pc) (.slice ta b.txs.length tc)∧(0≤b.tag∧b.tag≤18446744073709551615)∧xg w (.slice pa b.pay.length pc) b.pay∧j7 w (.slice ta b.txs.length tc) b.txs
theorem vG.keep {x:qf} (h:vG w x cs) (f:Fr No w w'):vG w' x cs:=by
 obtain⟨d,g,i,j,e,a,b,c⟩:=h
 exact⟨d,g,i,j,e,a,b.keep f,c.keep0 f⟩
theorem zg5:∃d,prog.underlying 65=some d∧d.isRow=true:=jR (by kernel_rfl)
theorem vz:(prog.info? 65).map (·.size)=some 3:=by kernel_rfl
structure vp (w:World):Prop where
 at_:Zh w
 lt:3<w.heap.size
theorem vp.keep (h:vp w) {W:Nat→Prop} (f:Fr W w w') (a:∀j,W j→3<j):vp w':=⟨h.at_.keep f (λh=>by have:=a _ h;omega) (λh=>by have:=a _ h;omega),Nat.lt_of_lt_of_le h.lt f.size⟩
theorem vp.keep0 (h:vp w) (f:Fr No w w'):vp w':=h.keep f (λ_ h=>h.elim)
theorem JA (l:List Int):zV (qE l):=by
 refine⟨zfE Qp.adds,λx a=>?_⟩
 unfold qE zen at a
 obtain⟨y,_,b⟩:=List.mem_flatMap.1 a
 simp only[Vg,mem_cons,not_mem_nil,or_false] at b
 rcases b with rfl|rfl|rfl|rfl<;>omega
theorem Yb (l:List Int):zV (vQ l):=JA _
theorem zjl {k:List Int} (h:xQ w kv k.length (k.map zQ)) {p:Nat} (g:w.heap.size≤p):Jj w p kv k:=by
 rcases h with(⟨rfl,c,-⟩|⟨b,off,cap,rfl,c,e,d,f⟩)|⟨a,cap,rfl,c,-,-⟩
 ·exact .inl ⟨List.eq_nil_of_length_eq_zero c,none,0,rfl⟩
 ·exact .inr ⟨b,off,cap,rfl,by omega,d,c⟩
 ·exact .inl ⟨List.eq_nil_of_length_eq_zero c,some a,cap,rfl⟩
theorem zcq {k:List Int} (h:xQ w kv k.length (k.map zQ)):∀p,(w.alloc (.cells #[kv] 110)).heap.size≤p→Zy (w.alloc (.cells #[kv] 110)) p (.slice (some ⟨w.heap.size,0,none⟩) 1 1) [k]:=λp a=>by
 have b:(w.alloc (.cells #[kv] 110)).heap.size=w.heap.size+1:=by simp
 refine⟨_,_,rfl,λi l hi=>?_⟩
 cases i with
 |succ i=>simp at hi
 |zero=>
  have e:k=l:=by simpa using hi
  subst e
  exact⟨w.heap.size,0,kv,rfl,by omega,zv (ye w (.cells #[kv] 110)) 0 _ rfl,zjl (h.keep ((frN w).alloc _)) a⟩
theorem zfD (a:vp w) {k:List Int} (h:xQ w kv k.length (k.map zQ)) (b:k.length≤1000000000000):
  Calls prog 81 #[.slice (some ⟨w.heap.size,0,none⟩) 1 1] (w.alloc (.cells #[kv] 110)) λe w'=>e=.returned (.agg ((qE k).map zQ).toArray)∧Fr No (w.alloc (.cells #[kv] 110)) w':=by
 have f:=(frN w).alloc (.cells #[kv] 110)
 have g:=a.keep0 f
 have:=zhA g.at_ g.lt (v:=.slice (some ⟨w.heap.size,0,none⟩) 1 1) (L:=[k]) (zcq h) (by simp) (by simpa using b)
 simpa using this
theorem zca (n:vp w) {k:List Int} (h:xQ w kv k.length (k.map zQ)) (r:k.length≤1000000000000):
  Calls prog 45 #[kv] w λe w'=>e=.returned (.agg (zd (qE k)).toArray)∧Fr No w w':=by
 have z:∀w,(zeroValue 45).run prog w=.ok (.agg xG) w:=λw=>by kernel_rfl
 have d:=@Hd (Fr No w (w.alloc (.cells xG 45))) ((frN w).alloc _)
 have B1:=Hd (ye w (.cells xG 45))
 have q:=Hd (zfD (n.keep0 d.o) (h.keep d.o) r)
 have c:=@Hd (((qE k).map zQ).length=32) (by rw[length_map];exact(JA k).1)
 obtain⟨u,y,rfl⟩:=h.form
 clear n h
 unfold zd
 generalize qE k=a at*
 go_enter Tryz.func45,Tryz.ntmps45
 generalize t:w.alloc (.cells xG 45)=j at*
 have f:=@Hd (Fr No j (j.alloc (.cells #[.slice u k.length y] 110))) ((frN j).alloc _)
 go_wp2_with (first|(go_at_call 81;refine q.o.mono ?_;rintro e o ⟨rfl,m⟩;have g:=Hd m;clear m)|((with_reducible refine zr ?_);refine zi rfl (zU (ty:=45) (b:=w.heap.size) (off:=0) (cs:=a.map zQ) rfl rfl rfl (by rw[c.o];exact yb (g.o.obj (f.o.obj B1.o id) id) (le_refl 32)) (by rw[c.o];exact qH) (λv s=>by obtain⟨x,-,rfl⟩:=mem_map.1 s;rfl)) ?_))
 have p:=@Hd (o.heap[w.heap.size]? =some (.cells xG 45 (0,0))) (g.o.obj (f.o.obj B1.o id) id)
 have l:=xE w.heap.size 45 (a.map zQ) 0 o xG p.o
 have e:=jt (a.map zQ) [] xG.toList [] (by rw[c.o];rfl)
 simp only[List.nil_append,List.append_nil,List.length_nil] at e
 rw[e] at l
 exact bodyPost_ret (v:=.agg (a.map zQ).toArray) (results_cell_row (P:=prog) (fn:=Tryz.f45) rfl _ _ w.heap.size 45 (a.map zQ).toArray (0,0) _ rfl l Tryz.underlying45 rfl (by rw[List.size_toArray,c.o];exact qH)) rfl ⟨rfl,((d.o.trans0 f.o).trans0 g.o).trans (zy _ _ _ _) (λi hi e=>(show False by omega))⟩
theorem zdG (k:vp w) {L:List (List Int)} (r:∀p,w.heap.size≤p→Zy w p v L) (Q:L.length≤1000000) (R:L.flatten.length≤1000000000000):
  Calls prog 53 #[v] w λe w'=>e=.returned (.agg (zd (vQ L.flatten)).toArray)∧Fr No w w':=by
 have V:∀w,(zeroValue 45).run prog w=.ok (.agg xG) w:=λw=>by kernel_rfl
 have g:=@Hd (Fr No w (w.alloc (.cells xG 45))) ((frN w).alloc _)
 have B1:=Hd (ye w (.cells xG 45))
 have o:=Hd (k.keep0 g.o)
 have G:=Hd (zhA o.o.at_ o.o.lt (λp S=>(r p (Nat.le_trans g.o.size S)).keep g.o.of0) Q R)
 have c:=@Hd (((qE L.flatten).map zQ).length=32) (by rw[length_map];exact(JA _).1)
 have j:=@Hd (((vQ L.flatten).map zQ).length=32) (by rw[length_map];exact(JA _).1)
 have B:=Hd (λ(w:World) (k:vp w) (kv:Value) (h:xQ w kv (qE L.flatten).length ((qE L.flatten).map zQ))=>zfD k h (by rw[(JA L.flatten).1];decide))
 have C:=@Hd (qE (qE L.flatten)=vQ L.flatten) (rfl)
 rw[C.o] at B
 have q:=Hd ((JA L.flatten).1)
 obtain⟨W,X,rfl,-⟩:=r w.heap.size (le_refl _)
 clear k r C
 unfold zd
 generalize vQ L.flatten=f at*
 generalize qE L.flatten=d at*
 go_enter Tryz.func53,Tryz.ntmps53
 generalize T:w.alloc (.cells xG 45)=Y at*
 have⟨I,K,M,N⟩:=tZ4
 go_wp2_with ((first|(clear I;go_at_call 81;refine G.o.mono ?_;rintro e a ⟨rfl,D⟩;have m:=Hd D;clear D)|(clear M;go_at_call 81;refine H.o.mono ?_;rintro e U ⟨rfl,E⟩;have z:=Hd E;clear E;have u:=Hd (z.o.obj (y.o.obj (n.o.obj (m.o.obj B1.o id) id) id) id))|((with_reducible refine zr ?_);first|(clear K;refine zi rfl (zj (w:=a) (ty:=45) (cs:=d.map zQ) rfl rfl rfl (by rw[c.o];rfl) (by rw[c.o];exact qH) (λv s=>by obtain⟨x,-,rfl⟩:=mem_map.1 s;rfl)) ?_;have F:=Hd (ye a (.cells (d.map zQ).toArray 45));have n:=@Hd (Fr No a (a.alloc (.cells (d.map zQ).toArray 45))) ((frN a).alloc _);have O:=@Hd (a.heap.size<(a.alloc (.cells (d.map zQ).toArray 45)).heap.size) (by simp);generalize a.alloc (.cells (d.map zQ).toArray 45)=l at*;generalize a.heap.size=t at*;have H:=Hd (B.o l ((o.o.keep0 m.o).keep0 n.o) (.slice (some ⟨t,0,none⟩) 32 32) (by rw[q.o];exact .inl (.inr ⟨t,0,32,rfl,le_refl _,by decide,zv F.o,O.o⟩)));have y:=@Hd (Fr No l (l.alloc (.cells #[.slice (some ⟨t,0,none⟩) 32 32] 110))) ((frN l).alloc _))|(clear N;refine zi rfl (zU (ty:=45) (b:=w.heap.size) (off:=0) (cs:=f.map zQ) rfl rfl rfl (by rw[j.o];exact yb u.o (le_refl 32)) (by rw[j.o];exact qH) (λv s=>by obtain⟨x,-,rfl⟩:=mem_map.1 s;rfl)) ?_)));go_frame)
 have A:=xE w.heap.size 45 (f.map zQ) 0 U xG u.o
 have e:=jt (f.map zQ) [] xG.toList [] (by rw[j.o];rfl)
 simp only[List.nil_append,List.append_nil,List.length_nil] at e
 rw[e] at A
 exact bodyPost_ret (v:=.agg (f.map zQ).toArray) (results_cell_row (P:=prog) (fn:=Tryz.f53) rfl _ _ w.heap.size 45 (f.map zQ).toArray (0,0) _ rfl A Tryz.underlying45 rfl (by rw[List.size_toArray,j.o];exact qH)) rfl ⟨rfl,((((g.o.trans0 m.o).trans0 n.o).trans0 y.o).trans0 z.o).trans (zy _ _ _ _) (λi hi e=>(show False by omega))⟩
end Go.Proofs.YtbcllfjmabiafaaGreatDoor
