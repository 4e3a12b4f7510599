/- chain, plain: what a transaction spends and makes, what a block does, what is undone. -/
import Derived.Deep.CutRange
import Derived.Lib.Hide
import Derived.Outline
import Derived.Lib.SliceRun
import Derived.Deep.LoopGhost
import Derived.Shelf.SlSortCmp.WholeK
import Derived.Test.YtdkkjchclkjleaaGreatDoorProg
import Derived.Test.YtdkkjchclkjleaaGreatDoorSD3
import Derived.Test.YtdkkjchclkjleaaGreatDoorSD1
import Derived.Test.YtdkkjchclkjleaaGreatDoorSD2
set_option linter.unusedVariables false
set_option linter.unusedSimpArgs false
set_option linter.unnecessarySimpa false
set_option linter.all false
set_option maxRecDepth 20000
set_option maxHeartbeats 16000000
namespace Go.Proofs.YtdkkjchclkjleaaGreatDoor
open Go Go.RowKit Go.Maps Go.MapKept
open Go.Proofs.Tryz(prog)
open List(mem_map getElem?_eq_getElem mem_append mem_of_getElem? mem_cons length_append length_map take_add_one mem_singleton take_length mem_filter map_append length_take all_eq_true nodup_cons map_cons length_cons nodup_append flatMap_append nil_append filter_append filter_eq_self not_mem_nil mem_flatMap map_map length_nil length_singleton append_of_mem drop_drop filter_sublist)
open Nat(le_refl zero_le le_trans)
variable {B n s:Nat} {U V X:Nat→Prop} {cs:List Value} {v:Value} {w:World}
def j5 (S:List zr) (t:TxD):List zr:=(zZ t).map λq=>⟨q,yl S q⟩
def JN (S:List zr) (t:TxD):List yI:=(zZ t).map (yl S)
def qF (t:TxD):List zr:=ZJ (idH t) t.outs
def spE (S:List zr) (t:TxD):Int:=
 if(zZ t).all (xJ S)=true then
  (if vB t (JN S t)=0 then(if jO (qg S (zZ t)) (qF t)=0 then 0 else 10) else vB t (JN S t))
 else 15
def spS (S:List zr) (t:TxD):List zr:=if spE S t=0 then jV (qg S (zZ t)) (qF t) else S
def spG (S:List zr) (t:TxD):YC:=⟨j5 S t,(qF t).map (·.at_)⟩
theorem vM (t:TxD):(zZ t).length=t.ins.length:=by simp[zZ]
theorem zat (t:TxD):(qF t).length=t.outs.length:=Jd _ _
theorem X8 (S:List zr) (t:TxD):(JN S t).length=t.ins.length:=by simp[JN,zZ]
theorem Jv (S:List zr) (t:TxD):(j5 S t).length=t.ins.length:=by simp[j5,zZ]
theorem zfv (S:List zr) (t:TxD):(j5 S t).map (·.at_)=zZ t:=by simp[j5,Function.comp_def]
theorem Jl {t:TxD} (h:yC t=0):qB t=true∧t.ins≠[]∧t.outs≠[]∧(zZ t).Nodup∧(∀x∈t.outs,vX x=false)∧qV t.outs≤1125899906842624:=by
 unfold yC at h
 split at h
 ·rename_i h1
  split at h
  ·cases h
  ·rename_i h2
   split at h
   ·cases h
   ·rename_i h3
    split at h
    ·cases h
    ·rename_i h4
     split at h
     ·rename_i h5
      have a:t.outs.any vX=false:=by simpa using h3
      exact⟨h1,λe=>h2 (.inl (by rw[e];rfl)),λe=>h2 (.inr (by rw[e];rfl)),h5,λx b=>by simpa using List.any_eq_false.1 a x b,by omega⟩
     ·cases h
 ·cases h
theorem zcN {t:TxD} {prev:List yI} (h:vB t prev=0):yC t=0:=by
 unfold vB at h
 split at h
 ·rename_i h1;exact h1
 ·exact h
theorem zia {S:List zr} (a:qU S) {q:zE} (h:xJ S q=true):(⟨q,yl S q⟩:zr)∈S:=by
 obtain⟨c,d,e⟩:=JY.1 h
 have b:=YK a d
 rw[e] at b
 have:yl S q=c.out:=by unfold yl;rw[b];rfl
 rw[this,←e]
 exact d
theorem zc1 {S:List zr} (a:qU S) {t:TxD} (h:(zZ t).all (xJ S)=true) {x:zr}:x∈j5 S t↔x∈S∧x.at_∈zZ t:=by
 unfold j5
 rw[mem_map]
 constructor
 ·rintro⟨q,b,rfl⟩
  exact⟨zia a (all_eq_true.1 h q b),b⟩
 ·rintro⟨c,d⟩
  refine⟨x.at_,d,?_⟩
  have:=YK a c
  have e:yl S x.at_=x.out:=by unfold yl;rw[this];rfl
  rw[e]
theorem zfw {S:List zr} (ok:∀c∈S,c.ok) {t:TxD} (d:∀x∈t.ins,x.from_.ok):∀c∈j5 S t,c.ok:=by
 intro c a
 obtain⟨q,b,rfl⟩:=mem_map.1 a
 obtain⟨x,e,rfl⟩:=mem_map.1 b
 exact⟨d x e,vI ok _⟩
theorem zj7 {S:List zr} (ok:∀c∈S,c.ok) (t:TxD):∀x∈JN S t,x.ok:=by
 intro x a
 obtain⟨q,_,rfl⟩:=mem_map.1 a
 exact vI ok q
theorem zeW {t:TxD} (a:∀x∈t.outs,x.ok) (b:t.outs.length≤1000):∀c∈qF t,c.ok:=Vz (qC t) a (by omega)
theorem zft {S:List zr} {ps:List zE} (a:ps.Nodup) (b:ps.all (xJ S)=true):Y5 S ps=0∧JI S ps=qg S ps:=by
 have e:Y5 S ps=0:=by unfold Y5;rw[if_pos a,if_pos b]
 exact⟨e,by unfold JI;rw[if_pos e]⟩
theorem zfi {S:List zr} (b:qU S) {t:TxD} (h:(zZ t).all (xJ S)=true) (i:(zZ t).Nodup):jO (qg S (zZ t)) (j5 S t)=0∧JM (qg S (zZ t)) (j5 S t)=S:=by
 have f:∀c∈j5 S t,xJ (qg S (zZ t)) c.at_=false:=λc k=>by
  rw[Zz]
  intro d l e
  have:=(Jr.1 l).2
  rw[e] at this
  exact this ((zc1 b h).1 k).2
 have g:=zgp (by rw[zfv];exact i) f
 refine⟨g.1,?_⟩
 rw[g.2]
 refine qU.same (J4 (Yy b) (by rw[zfv];exact i) f) b (λx=>?_)
 rw[qL,Jr,zc1 b h]
 constructor
 ·rintro(⟨a,_⟩|⟨a,_⟩)<;>exact a
 ·intro j
  by_cases hp:x.at_∈zZ t
  ·exact .inr ⟨j,hp⟩
  ·exact .inl ⟨j,hp⟩
theorem VB {S l:List zr} (h:jO S l=0):(l.map (·.at_)).Nodup∧∀c∈l,xJ S c.at_=false:=by
 unfold jO at h
 split at h
 ·rename_i h1
  split at h
  ·cases h
  ·rename_i h2
   refine⟨h1,λc b=>?_⟩
   have a:l.any (λc=>xJ S c.at_)=false:=by simpa using h2
   simpa using List.any_eq_false.1 a c b
 ·cases h
theorem zdg {S l:List zr} (d:qU S) (h:jO S l=0):JI (jV S l) (l.map (·.at_))=S:=by
 obtain⟨i,g⟩:=VB h
 have k:(l.map (·.at_)).all (xJ (jV S l))=true:=all_eq_true.2 λq n=>by
  obtain⟨c,f,rfl⟩:=mem_map.1 n
  exact JY.2 ⟨c,qL.2 (.inr f),rfl⟩
 rw[(zft i k).2]
 refine qU.same (Yy (J4 d i g)) d (λx=>?_)
 rw[Jr,qL]
 constructor
 ·rintro⟨a|a,b⟩
  ·exact a
  ·exact absurd (mem_map.2 ⟨x,a,rfl⟩) b
 ·intro j
  refine⟨.inl j,λm=>?_⟩
  obtain⟨c,f,e⟩:=mem_map.1 m
  exact(Zz.1 (g c f)) x j e.symm
theorem sp0 {S:List zr} {t:TxD} (h:spE S t=0):(zZ t).all (xJ S)=true∧vB t (JN S t)=0∧jO (qg S (zZ t)) (qF t)=0:=by
 unfold spE at h
 split at h
 ·rename_i h1
  split at h
  ·rename_i h2
   split at h
   ·rename_i h3
    exact⟨h1,h2,h3⟩
   ·cases h
  ·rename_i h2
   exact absurd h h2
 ·cases h
theorem zlE {S:List zr} (c:qU S) (t:TxD):qU (spS S t):=by
 unfold spS
 split
 ·rename_i h
  obtain⟨_,_,d⟩:=sp0 h
  obtain⟨a,b⟩:=VB d
  exact J4 (Yy c) a b
 ·exact c
theorem zm8 {S:List zr} (ok:∀c∈S,c.ok) {t:TxD} (d:∀x∈t.outs,x.ok) (b:t.outs.length≤1000):∀c∈spS S t,c.ok:=by
 unfold spS
 split
 ·intro c a
  rcases qL.1 a with h|h
  ·exact ok c (Jr.1 h).1
  ·exact zeW d b c h
 ·exact ok
theorem zlD (S:List zr) (t:TxD):(spS S t).length≤S.length+t.outs.length:=by
 unfold spS
 split
 ·rw[(Zs _ _).length_eq,length_append,zat]
  have:(qg S (zZ t)).length≤S.length:=List.length_filter_le _ _
  omega
 ·omega
theorem zlF {S:List zr} (a:qU S) {t:TxD} (h:spE S t=0):JM (JI (spS S t) (spG S t).made) (spG S t).took=S:=by
 obtain⟨b,c,d⟩:=sp0 h
 have f:=Jl (zcN c)
 have e:spS S t=jV (qg S (zZ t)) (qF t):=by unfold spS;rw[if_pos h]
 rw[e]
 show JM (JI (jV (qg S (zZ t)) (qF t)) ((qF t).map (·.at_))) (j5 S t)=S
 rw[zdg (Yy a) d]
 exact(zfi a b f.2.2.2.1).2
structure StD where
 S:List zr
 ids:List zd
 chg:List YC
def txE (K:List zd) (s:StD) (t:TxD):Int:=if yC t=0 then(if idH t∈K∨idH t∈s.ids then 19 else spE s.S t) else yC t
def txS (s:StD) (t:TxD):StD:=⟨spS s.S t,s.ids++[idH t],s.chg++[spG s.S t]⟩
def runT (K:List zd):List TxD→StD→Int×StD
 |[],s=>(0,s)
 |t::l,s=>if txE K s t=0 then runT K l (txS s t) else(txE K s t,s)
theorem zaz {K:List zd} {t:TxD} {l:List TxD} {s:StD} (h:txE K s t=0):runT K (t::l) s=runT K l (txS s t):=by
 rw[runT,if_pos h]
theorem VH {K:List zd} {t:TxD} {l:List TxD} {s:StD} (h:txE K s t≠0):runT K (t::l) s=(txE K s t,s):=by
 rw[runT,if_neg h]
theorem tx0 {K:List zd} {s:StD} {t:TxD} (h:txE K s t=0):yC t=0∧idH t∉K∧idH t∉s.ids∧spE s.S t=0:=by
 unfold txE at h
 split at h
 ·rename_i h1
  split at h
  ·cases h
  ·rename_i h2
   exact⟨h1,λe=>h2 (.inl e),λe=>h2 (.inr e),h⟩
 ·rename_i h1
  exact absurd h h1
def st0 (S:List zr):StD:=⟨S,[],[]⟩
def doR (K:List zd) (S:List zr) (b:qs):DoR:=
 if(runT K b.txs (st0 S)).1=0 then
  (if jO (runT K b.txs (st0 S)).2.S (vK b)=0 then⟨0,jV (runT K b.txs (st0 S)).2.S (vK b),⟨b,(runT K b.txs (st0 S)).2.ids,(runT K b.txs (st0 S)).2.chg++[⟨[],(vK b).map (·.at_)⟩]⟩⟩
   else⟨10,(runT K b.txs (st0 S)).2.S,⟨b,(runT K b.txs (st0 S)).2.ids,(runT K b.txs (st0 S)).2.chg⟩⟩)
 else⟨(runT K b.txs (st0 S)).1,(runT K b.txs (st0 S)).2.S,⟨b,(runT K b.txs (st0 S)).2.ids,(runT K b.txs (st0 S)).2.chg⟩⟩
structure zcq (S0:List zr) (K:List zd) (n:Nat) (s:StD):Prop where
 srt:qU s.S
 ok:∀c∈s.S,c.ok
 len:s.S.length≤S0.length+8*n
 undo:xS s.chg s.S=S0
 il:s.ids.length=n
 cl:s.chg.length=n
 took:Jf s.chg≤16*n
 new:∀x∈s.ids,x∉K
 iok:∀x∈s.ids,zY x
theorem zck (l:List YC) (c:YC):Jf (l++[c])=Jf l+(c.took.length+c.made.length):=by simp[Jf]
theorem zcm (l:List YC) (c:YC) (S:List zr):xS (l++[c]) S=xS l (JM (JI S c.made) c.took):=by simp[xS,List.foldr_append]
theorem zcq.start {S:List zr} (a:qU S) (ok:∀c∈S,c.ok) (K:List zd):zcq S K 0 (st0 S):=
 ⟨a,ok,le_refl _,rfl,rfl,rfl,le_refl _,λx h=>(by cases h),λx h=>(by cases h)⟩
theorem zl6 {t:TxD} (h:qB t=true):t.ins.length≤8∧t.outs.length≤8:=⟨(yZ.1 h).2.1,(yZ.1 h).2.2⟩
theorem zcq.step {e:List zr} {K:List zd} {s:StD} (h:zcq e K n s) {t:TxD} (k:∀x∈t.outs,x.ok) (f:txE K s t=0):zcq e K (n+1) (txS s t):=by
 obtain⟨g,i,l,j⟩:=tx0 f
 have m:=zl6 (Jl g).1
 refine⟨zlE h.srt t,zm8 h.ok k (by omega),?_,?_,?_,?_,?_,?_,?_⟩
 ·have a:=zlD s.S t
  have b:=h.len
  show(spS s.S t).length≤_
  omega
 ·show xS (s.chg++[spG s.S t]) (spS s.S t)=e
  rw[zcm,zlF h.srt j]
  exact h.undo
 ·show(s.ids++[idH t]).length=_
  rw[length_append,h.il];rfl
 ·show(s.chg++[spG s.S t]).length=_
  rw[length_append,h.cl];rfl
 ·show Jf (s.chg++[spG s.S t])≤_
  rw[zck]
  have a:=h.took
  have b:(spG s.S t).took.length=t.ins.length:=Jv _ _
  have c:(spG s.S t).made.length=t.outs.length:=by show((qF t).map (·.at_)).length=_;rw[length_map,zat]
  omega
 ·intro x d
  rcases mem_append.1 d with d|d
  ·exact h.new x d
  ·simp at d;subst d;exact i
 ·intro x d
  rcases mem_append.1 d with d|d
  ·exact h.iok x d
  ·simp at d;subst d;exact qC t
theorem zhd {a:List zr} {K:List zd}:∀(l:List TxD) {n:Nat} {s:StD},zcq a K n s→(∀t∈l,∀x∈t.outs,x.ok)→∃m,m≤n+l.length∧zcq a K m (runT K l s).2
 |[],n,s,h,_=>⟨n,le_refl _,h⟩
 |t::l,n,s,h,ho=>by
  by_cases h0:txE K s t=0
  ·rw[zaz h0]
   obtain⟨m,d,b⟩:=zhd l (h.step (ho t (.head _)) h0) (λu c=>ho u (.tail _ c))
   exact⟨m,by simp only[length_cons];omega,b⟩
  ·rw[VH h0]
   exact⟨n,by omega,h⟩
theorem zf0 {K:List zd} {S:List zr} (e:qU S) (ok:∀c∈S,c.ok) {b:qs} (f:∀t∈b.txs,∀x∈t.outs,x.ok) (k:∀x∈b.pay,x.ok) (q:b.txs.length≤16) (i:b.pay.length≤8):
  qU (doR K S b).S∧(∀c∈(doR K S b).S,c.ok)∧(doR K S b).S.length≤S.length+136∧xS (doR K S b).d.chg (doR K S b).S=S∧(doR K S b).d.blk=b∧(doR K S b).d.ids.length≤16∧(doR K S b).d.chg.length≤17∧Jf (doR K S b).d.chg≤264∧(∀x∈(doR K S b).d.ids,x∉K)∧∀x∈(doR K S b).d.ids,zY x:=by
 obtain⟨m,r,h⟩:=zhd b.txs (zcq.start e ok K) f
 have j:m≤16:=by omega
 have l:=h.len
 have n:=h.il
 have o:=h.cl
 have p:=h.took
 unfold doR
 split
 ·split
  ·rename_i hz hput
   obtain⟨a,c⟩:=VB hput
   refine⟨J4 h.srt a c,?_,?_,?_,rfl,?_,?_,?_,h.new,h.iok⟩
   ·intro x d
    rcases qL.1 d with d|d
    ·exact h.ok x d
    ·exact Vz (za6 b) k (by omega) x d
   ·show(jV _ _).length≤_
    rw[(Zs _ _).length_eq,length_append,zb1]
    omega
   ·show xS (_++[_]) (jV _ _)=S
    rw[zcm]
    show xS _ (JM (JI (jV _ _) ((vK b).map (·.at_))) [])=S
    rw[zdg h.srt hput]
    rw[show JM (runT K b.txs (st0 S)).2.S []=(runT K b.txs (st0 S)).2.S from(zgp (by simp) (λc g=>by cases g)).2]
    exact h.undo
   ·dsimp only
    omega
   ·dsimp only
    rw[length_append]
    simp
    omega
   ·dsimp only
    rw[zck]
    simp only[length_nil,length_map,zb1]
    omega
  ·exact⟨h.srt,h.ok,(by dsimp only;omega),h.undo,rfl,(by dsimp only;omega),(by dsimp only;omega),(by dsimp only;omega),h.new,h.iok⟩
 ·exact⟨h.srt,h.ok,(by dsimp only;omega),h.undo,rfl,(by dsimp only;omega),(by dsimp only;omega),(by dsimp only;omega),h.new,h.iok⟩
def ji (K:List zd) (S:List zr) (bs:List yB) (b:qs):Int:=if 1024≤bs.length then 18 else if vE b=true then(if b.pay.any vX=true then 11 else(doR K S b).E) else 5
def Xi (K:List zd) (S:List zr) (bs:List yB) (b:qs):List zr:=if ji K S bs b=0 then(doR K S b).S else S
def Ym (K:List zd) (S:List zr) (bs:List yB) (b:qs):List yB:=if ji K S bs b=0 then bs++[(doR K S b).d] else bs
theorem zjg {K:List zd} {S:List zr} {a:List yB} {b:qs} (h:ji K S a b=0):a.length<1024∧vE b=true∧b.pay.any vX=false∧(doR K S b).E=0:=by
 unfold ji at h
 split at h
 ·cases h
 ·split at h
  ·split at h
   ·cases h
   ·exact⟨by omega,‹_›,by simpa using ‹¬(b.pay.any vX=true)›,h⟩
  ·cases h
theorem znz {K:List zd} {S:List zr} {b:qs} (h:(doR K S b).E=0):(runT K b.txs (st0 S)).1=0∧jO (runT K b.txs (st0 S)).2.S (vK b)=0∧(doR K S b).S=jV (runT K b.txs (st0 S)).2.S (vK b)∧(doR K S b).d=⟨b,(runT K b.txs (st0 S)).2.ids,(runT K b.txs (st0 S)).2.chg++[⟨[],(vK b).map (·.at_)⟩]⟩:=by
 unfold doR at h⊢
 split at h
 ·rename_i h1
  split at h
  ·rename_i h2
   rw[if_pos h1,if_pos h2]
   exact⟨h1,h2,rfl,rfl⟩
  ·cases h
 ·rename_i h1
  exact absurd h h1
def BOk (b:qs):Prop:=(∀t∈b.txs,(∀x∈t.ins,x.from_.ok)∧∀x∈t.outs,x.ok)∧∀x∈b.pay,x.ok
theorem Jz.oks {L:List TxD} (h:Jz w v L):∀t∈L,(∀x∈t.ins,x.from_.ok)∧∀x∈t.outs,x.ok:=λt b=>by
 obtain⟨i,hi⟩:=List.mem_iff_getElem?.1 b
 obtain⟨_,_,_,_,_,_,a⟩:=h.at_ hi
 exact a.oks
theorem jE.oks {b:qs} (h:jE w b cs):BOk b:=by
 obtain⟨_,_,_,_,_,_,a,c⟩:=h
 exact⟨c.oks,a.1⟩
def ye (bs:List yB):List zd:=bs.flatMap (·.ids)
theorem zbH (a:List yB) (d:yB):ye (a++[d])=ye a++d.ids:=by simp[ye]
inductive zaa (S0:List zr):List yB→List zr→Prop
 |nil:zaa S0 [] S0
 |snoc {bs:List yB} {S:List zr} {b:qs} (h:zaa S0 bs S) (hb:BOk b) (hc:ji (ye bs) S bs b=0):zaa S0 (bs++[(doR (ye bs) S b).d]) (doR (ye bs) S b).S
theorem zaa.last {g:List zr} {a:List yB} {d:yB} {S:List zr} (h:zaa g (a++[d]) S):∃c,zaa g a c∧BOk d.blk∧ji (ye a) c a d.blk=0∧d=(doR (ye a) c d.blk).d∧S=(doR (ye a) c d.blk).S:=by
 generalize i:a++[d]=l at h
 cases h with
 |nil=>simp at i
 |@snoc bs' c b h hb hc=>
  obtain⟨j,f⟩:=List.append_inj' i rfl
  simp only[List.cons.injEq,and_true] at f
  subst j
  have e:d.blk=b:=by
   rw[f]
   rw[(znz (zjg hc).2.2.2).2.2.2]
  exact⟨c,h,by rw[e];exact hb,by rw[e];exact hc,by rw[e];exact f,by rw[e]⟩
theorem XJ {b:qs} (h:vE b=true):b.pay.length≤8∧b.txs.length≤16∧∀t∈b.txs,qB t=true:=by
 simp only[vE,Bool.and_eq_true,decide_eq_true_eq,all_eq_true] at h
 exact⟨h.1,h.2.1,h.2.2⟩
structure HOk (S0:List zr) (bs:List yB) (S:List zr):Prop where
 srt:qU S
 ok:∀c∈S,c.ok
 len:S.length≤S0.length+136*bs.length
 ds:∀d∈bs,d.ids.length≤16∧d.chg.length≤17∧Jf d.chg≤264∧(∀x∈d.ids,zY x)∧BOk d.blk∧vE d.blk=true
theorem zaa.good {e:List zr} {f:List yB} {S:List zr} (h:zaa e f S) (i:qU e) (ok:∀c∈e,c.ok):HOk e f S:=by
 induction h with
 |nil=>exact⟨i,ok,by simp,λd h=>by cases h⟩
 |@snoc f S b h hb hc ih=>
  obtain⟨v,k,w,x⟩:=zjg hc
  obtain⟨r,s,y⟩:=XJ k
  obtain⟨l,m,u,-,j,n,o,p,-,g⟩:=zf0 (K:=ye f) ih.srt ih.ok (λt q=>(hb.1 t q).2) hb.2 s r
  refine⟨l,m,?_,λd a=>?_⟩
  ·have:=ih.len
   rw[length_append]
   simp only[length_cons,length_nil]
   omega
  ·rcases mem_append.1 a with a|a
   ·exact ih.ds d a
   ·simp at a
    subst a
    exact⟨n,o,p,g,by rw[j];exact hb,by rw[j];exact k⟩
theorem zaa.undo {b:List zr} {a:List yB} {d:yB} {S:List zr} (h:zaa b (a++[d]) S) (g:qU b) (ok:∀c∈b,c.ok):zaa b a (xS d.chg S)∧ji (ye a) (xS d.chg S) a d.blk=0∧d=(doR (ye a) (xS d.chg S) d.blk).d∧S=(doR (ye a) (xS d.chg S) d.blk).S∧BOk d.blk∧∀x∈d.ids,x∉ye a:=by
 obtain⟨n,k,f,l,e,j⟩:=h.last
 have m:=k.good g ok
 obtain⟨w,q,y,z⟩:=zjg l
 obtain⟨u,v,A⟩:=XJ q
 obtain⟨-,-,-,i,-,-,-,-,o,-⟩:=zf0 (K:=ye a) m.srt m.ok (λt r=>(f.1 t r).2) f.2 v u
 have p:xS d.chg S=n:=by rw[←e,←j] at i;exact i
 rw[p]
 exact⟨k,l,e,j,f,λx s=>o x (by rw[←e];exact s)⟩
theorem zdD {c:List yB} {d:yB} (h:∀x∈d.ids,x∉ye c):∀x,x∈(ye (c++[d])).filter (λx=> !decide (x∈d.ids))↔x∈ye c:=λx=>by
 rw[zbH]
 simp only[mem_filter,mem_append,Bool.not_eq_true',decide_eq_false_iff_not]
 constructor
 ·rintro⟨a|a,b⟩
  ·exact a
  ·exact absurd a b
 ·intro a
  exact⟨.inl a,λe=>h x e a⟩
def cnt (S:List zr) (p:zE):Int:=if xJ S p=true then 1 else 0
theorem zcG {l:List zE} (h:l.Nodup) (p:zE):(l.count p:Int)=if p∈l then 1 else 0:=by
 split
 ·rename_i hm
  have:=List.nodup_iff_count.1 h p
  have:=List.count_pos_iff.2 hm
  omega
 ·rename_i hm
  rw[List.count_eq_zero.2 hm];rfl
theorem zbF {S l:List zr} {p:zE}:xJ (jV S l) p=true↔xJ S p=true∨p∈l.map (·.at_):=by
 rw[JY,JY,mem_map]
 constructor
 ·rintro⟨c,a,e⟩
  rcases qL.1 a with h|h
  ·exact .inl ⟨c,h,e⟩
  ·exact .inr ⟨c,h,e⟩
 ·rintro(⟨c,a,e⟩|⟨c,a,e⟩)
  ·exact⟨c,qL.2 (.inl a),e⟩
  ·exact⟨c,qL.2 (.inr a),e⟩
theorem zan {S:List zr} {ps:List zE} {p:zE}:xJ (qg S ps) p=true↔xJ S p=true∧p∉ps:=by
 rw[JY,JY]
 constructor
 ·rintro⟨c,d,e⟩
  obtain⟨a,b⟩:=Jr.1 d
  exact⟨⟨c,a,e⟩,e▸b⟩
 ·rintro⟨⟨c,d,e⟩,h⟩
  exact⟨c,Jr.2 ⟨d,e▸h⟩,e⟩
theorem zgT {S l:List zr} (h:jO S l=0) (p:zE):cnt (jV S l) p=cnt S p+((l.map (·.at_)).count p:Int):=by
 obtain⟨a,b⟩:=VB h
 rw[zcG a]
 unfold cnt
 by_cases hp:p∈l.map (·.at_)
 ·have f:xJ S p=false:=by
   obtain⟨c,d,rfl⟩:=mem_map.1 hp
   exact b c d
  rw[if_pos (zbF.2 (.inr hp)),f,if_pos hp]
  rfl
 ·by_cases hs:xJ S p=true
  ·rw[if_pos (zbF.2 (.inl hs)),if_pos hs,if_neg hp];rfl
  ·rw[if_neg (λe=>(zbF.1 e).elim hs hp),if_neg hs,if_neg hp];rfl
theorem zje {S:List zr} {ps:List zE} (h:ps.all (xJ S)=true) (a:ps.Nodup) (p:zE):cnt (qg S ps) p=cnt S p-(ps.count p:Int):=by
 rw[zcG a]
 unfold cnt
 by_cases hp:p∈ps
 ·rw[if_neg (λe=>(zan.1 e).2 hp),if_pos (all_eq_true.1 h p hp),if_pos hp];rfl
 ·by_cases hs:xJ S p=true
  ·rw[if_pos (zan.2 ⟨hs,hp⟩),if_pos hs,if_neg hp];rfl
  ·rw[if_neg (λe=>hs (zan.1 e).1),if_neg hs,if_neg hp];rfl
theorem zmt {S:List zr} {t:TxD} (h:spE S t=0) (p:zE):cnt (spS S t) p=cnt S p-((zZ t).count p:Int)+(((qF t).map (·.at_)).count p:Int):=by
 obtain⟨a,b,c⟩:=sp0 h
 have d:=Jl (zcN b)
 have e:spS S t=jV (qg S (zZ t)) (qF t):=by unfold spS;rw[if_pos h]
 rw[e,zgT c,zje a d.2.2.2.1]
theorem zgU {K:List zd} (p:zE):∀(l:List TxD) (s:StD),(runT K l s).1=0→cnt (runT K l s).2.S p=cnt s.S p-((l.flatMap zZ).count p:Int)+((l.flatMap λt=>(qF t).map (·.at_)).count p:Int)
 |[],s,_=>by simp[runT]
 |t::l,s,h=>by
  by_cases h0:txE K s t=0
  ·rw[zaz h0] at h⊢
   rw[zgU p l (txS s t) h]
   have:cnt (txS s t).S p=_:=zmt (tx0 h0).2.2.2 p
   rw[this]
   simp only[List.flatMap_cons,List.count_append]
   omega
  ·rw[VH h0] at h
   exact absurd h h0
theorem zm9 {K:List zd} {S:List zr} {b:qs} (h:(doR K S b).E=0) (p:zE):cnt (doR K S b).S p=cnt S p-((b.txs.flatMap zZ).count p:Int)+(((vK b).map (·.at_)++b.txs.flatMap λt=>(qF t).map (·.at_)).count p:Int):=by
 obtain⟨a,c,d,e⟩:=znz h
 rw[d,zgT c,zgU p _ _ a,List.count_append]
 show cnt S p-_+_+_=_
 omega
theorem again {K:List zd} {S:List zr} {b:qs} {t:TxD} {l:List TxD} (c:b.txs=t::l) (d:yC t=0) (e:idH t∈K):(doR K S b).E=19:=by
 have a:txE K (st0 S) t=19:=by unfold txE;rw[if_pos d,if_pos (.inl e)]
 unfold doR
 rw[c,VH (by rw[a];decide),a,if_neg (show ¬((19:Int)=0) by decide)]
theorem zge {l:List zr} (h:w.ownsRow B 214 66 v l.length (l.flatMap yW)) (ok:∀x∈l,x.ok) (a:∀j,v.ownBlock=some j→¬V j):Kept V w (λw=>qY w v l):=
 λw' f=>⟨ok,(zb h f a).slice.arg⟩
def znt (w0 w:World) (s:Nat) (U:Nat→Prop) (S:List zr) (t:TxD) (e:Ending) (w':World):Prop:=
 ∃ta tn tc ma mn mc,e=.returned (.tuple #[.agg #[.slice ta tn tc,.slice ma mn mc],.int .i64 (spE S t)])∧CS w0 w' s U (spS S t)∧Fr U w w'∧(spE S t=0→∀V:Nat→Prop,(∀j,V j→j<w.heap.size)→Kept V w' (λw=>zdn w (spG S t) [.slice ta tn tc,.slice ma mn mc]))
theorem zgw {j w w':World} {S:List zr} {t:TxD} {E:Int} (h:spE S t=E) (a:E≠0) (k:CS j w' s U S) (f:Fr U w w') (d:Option Addr) (i g:Nat) (ma:Option Addr) (c b:Nat):znt j w s U S t (.returned (.tuple #[.agg #[.slice d i g,.slice ma c b],.int .i64 E])) w':=
 ⟨d,i,g,ma,c,b,by rw[h],by unfold spS;rw[if_neg (by rw[h];exact a)];exact k,f,λe=>absurd (h.symm.trans e) a⟩
theorem ze2 {a b:Value} (d:a.oneCell'=true) (e:b.oneCell'=true):∀u∈[a,b],u.oneCell'=true:=λu c=>by
 simp only[mem_cons,not_mem_nil,or_false] at c
 rcases c with rfl|rfl
 ·exact d
 ·exact e
def zmm (w2:World) (x:yI) (h:Bool) (s10 s11:Value) (wc:World):Prop:=
 ∃qo,s10=.pointer (some ⟨qo,0,none⟩)∧s11=.bool h∧w2.heap.size≤qo∧Fr No w2 wc∧wc.heap[qo]? =some (.cells (zJ x).toArray 103 (0,0))
def SpL (w1:World) (q6:Nat) (S:List zr) (t:TxD) (n:Nat) (pv:Value) (wr:World):Prop:=
 ∃tv,(∀q∈(zZ t).take n,xJ S q=true)∧wr.ownsRow w1.heap.size 103 33 pv n (((JN S t).take n).flatMap zJ)∧wr.heap[q6]? =some (.cells #[tv,.slice none 0 0] 250 (0,0))∧
  wr.ownsRow w1.heap.size 214 66 tv n (((j5 S t).take n).flatMap yW)∧(∀j,pv.ownBlock=some j→tv.ownBlock=some j→False)∧Fr (λj=>j=q6) w1 wr
theorem YT {α:Type} (f:α→List Value) {L:List α} {x:α} (h:L[n]? =some x):(L.take (n+1)).flatMap f=(L.take n).flatMap f++f x:=by
 rw[take_add_one,h]
 simp
theorem ziA {w0 w:World} (hg:q9 w) {p s:Nat} {bv mv:Value} {S:List zr} (bT:w.heap[p]? =some (.cells #[.pointer (some ⟨s,0,none⟩),bv,mv] 167 (0,0))) (bU:¬U p) (hs:CS w0 w s U S) {t:TxD} (ht:Kept U w (λw=>TxQ w t cs)) (hc:yC t=0) (hN:S.length≤90000):
  Calls prog 134 #[.pointer (some ⟨p,0,none⟩),.agg cs.toArray] w (znt w0 w s U S t):=by
 obtain⟨ia,ic,oa,oc,rfl⟩:=ht.now.form
 obtain⟨c1,c2,c3,c4,-,-⟩:=Jl hc
 have f8:=zl6 c1
 have ad:=J ht.now.oks
 obtain⟨dO,uO,rO⟩:=YJ
 obtain⟨dC,uC,rC⟩:=zbx
 obtain⟨dG,uG,rG⟩:=zgW
 have zG:=zho
 have zP:=vR
 have zO:=y9
 have zC:=zcp
 have f1:Fr No w (w.alloc (.cells #[.int .u32 t.ver,.slice ia t.ins.length ic,.slice oa t.outs.length oc] 34)):=(frN w).alloc _
 have f2:Fr No (w.alloc (.cells #[.int .u32 t.ver,.slice ia t.ins.length ic,.slice oa t.outs.length oc] 34)) ((w.alloc (.cells #[.int .u32 t.ver,.slice ia t.ins.length ic,.slice oa t.outs.length oc] 34)).alloc (.cells #[.slice none 0 0,.slice none 0 0] 250)):=(frN _).alloc _
 have f3:Fr No ((w.alloc (.cells #[.int .u32 t.ver,.slice ia t.ins.length ic,.slice oa t.outs.length oc] 34)).alloc (.cells #[.slice none 0 0,.slice none 0 0] 250)) (((w.alloc (.cells #[.int .u32 t.ver,.slice ia t.ins.length ic,.slice oa t.outs.length oc] 34)).alloc (.cells #[.slice none 0 0,.slice none 0 0] 250)).alloc (.cells #[.slice none 0 0,.slice none 0 0] 250)):=(frN _).alloc _
 have R0:=J (za (za (qW w t.ver (.slice ia t.ins.length ic) (.slice oa t.outs.length oc)).2.2.2 f2 _root_.id) f3 _root_.id)
 have B4:=J (f3.obj (yJ (w.alloc (.cells #[.int .u32 t.ver,.slice ia t.ins.length ic,.slice oa t.outs.length oc] 34)) (.cells #[.slice none 0 0,.slice none 0 0] 250) (n:=w.heap.size+1) (by simp)) _root_.id)
 have B6:=J (yJ ((w.alloc (.cells #[.int .u32 t.ver,.slice ia t.ins.length ic,.slice oa t.outs.length oc] 34)).alloc (.cells #[.slice none 0 0,.slice none 0 0] 250)) (.cells #[.slice none 0 0,.slice none 0 0] 250) (n:=w.heap.size+1+1) (by simp))
 have Z3:=@J ((((w.alloc (.cells #[.int .u32 t.ver,.slice ia t.ins.length ic,.slice oa t.outs.length oc] 34)).alloc (.cells #[.slice none 0 0,.slice none 0 0] 250)).alloc (.cells #[.slice none 0 0,.slice none 0 0] 250)).heap.size=w.heap.size+3) (by simp)
 have F3:=J ((f1.trans0 f2).trans0 f3)
 have cp:=J (ht.same F3.o.of0)
 have cH:=J (jd _ cp.o.now (by omega))
 have bJ:=J ht
 have bI:=@J (∀w',Fr U w w'→TxQ w' t [.int .u32 t.ver,.slice ia t.ins.length ic,.slice oa t.outs.length oc]) (λw' f=>ht w' f)
 have aq:=J bT
 have aN:=J bU
 have HS:=J hs
 have HG:=J hg
 have HF:=J c1
 have bB:=J c4
 have c0:=f8.1
 have c5:=f8.2
 have aM:=J hN
 have UL:=J hs.hi
 have ax:=J (vM t)
 clear f1 f2 f3 ht bT bU hs hg hc c1 c2 c3 c4 f8 hN
 show Calls prog 134 #[.pointer (some ⟨p,0,none⟩),.agg #[.int .u32 t.ver,.slice ia t.ins.length ic,.slice oa t.outs.length oc]] w _
 go_enter Tryz.func134,Tryz.ntmps134
 have⟨r,D⟩:=tZ2
 go_wp2_with ((first|((with_reducible refine zt ?_);clear r;refine zoa rfl rfl rfl R0.o rfl ?_;generalize (((w.alloc (.cells #[.int .u32 t.ver,.slice ia t.ins.length ic,.slice oa t.outs.length oc] 34)).alloc (.cells #[.slice none 0 0,.slice none 0 0] 250)).alloc (.cells #[.slice none 0 0,.slice none 0 0] 250))=w3 at*)|(clear D;go_at_call 33;refine cH.o.mono ?_;rintro e Z ⟨c8,rfl,o4,f4⟩;have O4:=J o4;have F4:=J f4;obtain⟨c9,da,cR⟩:=o4.slice.arg.form;subst cR;clear o4 f4));go_frame)
 obtain⟨d,bb⟩:∃q,q=w.heap.size+1+1:=⟨_,rfl⟩
 rw[←bb] at B6⊢
 obtain⟨Y,ba⟩:∃q,q=w.heap.size+1:=⟨_,rfl⟩
 rw[←ba] at B4⊢
 have H:=J ba
 have Q6:=@J (d=w.heap.size+2) (bb)
 clear ba bb
 have ab:=J (F3.o.trans0 F4.o)
 have bW:=J (F4.o.obj B4.o _root_.id)
 have aa:=J (F4.o.obj B6.o _root_.id)
 have cI:=J (za R0.o F4.o _root_.id)
 go_loopw [7,22] (λpv iv wr=>∃n:Nat,iv=.int .i64 n∧n≤t.ins.length∧SpL Z d S t n pv wr) (λ_ iv _=>t.ins.length-(intOf iv).toNat)
 case atStart=>exact⟨0,rfl,zero_le _,.slice none 0 0,(λq hq=>by simp at hq),World.ownsRow_nil _ _ _ 33,aa.o,World.ownsRow_nil _ _ _ 66,(λj e=>by cases e),Fr.refl _ _⟩
 case round=>
  obtain⟨n,rfl,hn,tv,aC,bh,bP,bj,aD,fr⟩:=hrel
  have FR:=J fr
  have aE:=J aC
  have ai:=J bh
  have aI:=J bP
  have aV:=J bj
  have bt:=J aD
  obtain⟨pa,pc,cQ⟩:=bh.slice.arg.form
  subst cQ
  obtain⟨u,v,cT⟩:=bj.slice.arg.form
  subst cT
  have FW:=@J (Fr No w wr) (ab.o.trans fr (λj a e=>by have:=Q6.o;omega))
  have ah:=J (HS.o.fr0 FW.o)
  have aB:=J (FW.o.obj aq.o _root_.id)
  have aG:=J (fr.obj bW.o (λe=>by have:=H.o;have:=Q6.o;omega))
  have aw:=J (za cI.o fr (λe=>by have:=Q6.o;omega))
  clear aC bh bP bj aD fr
  by_cases hlt:n<t.ins.length
  ·have i1:(n:Int)<(t.ins.length:Int):=by omega
   obtain⟨q,E⟩:∃x,(zZ t)[n]? =some x:=⟨_,getElem?_eq_getElem (by rw[ax.o];exact hlt)⟩
   have HX:=J E
   have aj:=@J (q.ok) (by
    obtain⟨x,cV,cW⟩:=mem_map.1 (mem_of_getElem? E)
    rw[←cW]
    exact ad.o.1 x cV)
   have o:=J (z6 aj.o)
   obtain⟨g,cP,hv,hr,-⟩:=JF (f:=zn) (k:=33) (L:=zZ t) (by decide) (λx E=>by
    obtain⟨y,bf,bg⟩:=mem_map.1 E
    rw[←bg]
    exact z6 (ad.o.1 y bf)) (zb O4.o FR.o (λj a e=>by have:=(O4.o.lt j a).1;have:=Q6.o;have:=Z3.o;omega)) E
   cases hv
   have R1:=J hr
   have FA:=J ((frN wr).alloc (.cells (zn q).toArray 95))
   have RQ:=J (zy wr (zn q) 95)
   have QA:=@J ((wr.alloc (.cells (zn q).toArray 95)).heap.size=wr.heap.size+1) (by simp)
   have aY:=J (vI ah.o.ok q)
   have XL:=J (yz aY.o)
   clear E hr
   have⟨r,D⟩:=tZ2
   go_wp2_with ((first|((with_reducible refine zt ?_);clear r;refine zod rfl rfl rfl R1.o o.o ?_)|((with_reducible refine zv ?_);clear D;refine zom (w:=wr) (cs:=zn q) rfl rfl rfl rfl o.o yK ?_;generalize wr.alloc (.cells (zn q).toArray 95)=wA at*));go_frame)
   have b8:=@J (wA.cell? ⟨p,0,none⟩=some (.pointer (some ⟨s,0,none⟩))) (by have:=zq (FA.o.obj aB.o _root_.id) 0 _ rfl;simpa using this)
   have ck:=J (ah.o.fr0 FA.o)
   go_cut [10,11] from 26 to 34 (λcX cY wc=>zmm wA (yl S q) (xJ S q) cX cY wc)
   case first=>
    have FD:=J (frN wA).drew
    have F:=J (FD.o.cell b8.o _root_.id)
    have I:=J (za RQ.o FD.o _root_.id)
    have bH:=J (ck.o.fr0 FD.o)
    have ZD:=@J (wA.drew.heap.size=wA.heap.size) (rfl)
    refine vQ 12 [0,1,2,3,4,5,6,7,8,9,10,11] (λw'=>w'.cell? ⟨p,0,none⟩=some (.pointer (some ⟨s,0,none⟩))∧w'.rangeAt wr.heap.size 0 (zn q)) (by kernel_rfl) (by kernel_rfl) (by kernel_rfl) (by kernel_rfl) ?_ (λK hK=>?_)
    ·exact⟨F.o,I.o⟩
    generalize wA.drew=w5 at*
    (((first|(refine zV 0 (by kernel_rfl) rfl rfl ?_;apply Exists.intro;refine⟨?_,?_⟩;(focus(first|exact zof rfl (λw h=>h.2) o.o|(intro w' hS;obtain⟨N,O⟩:=hS;exact goS))))|(refine zW 0 (by kernel_rfl) rfl rfl ?_));try simp only[Act.put,pA,pB,pC]);((first|(refine zV 1 (by kernel_rfl) rfl rfl ?_;apply Exists.intro;refine⟨?_,?_⟩;(focus(first|exact zof rfl (λw h=>h.2) o.o|(intro w' hS;obtain⟨N,O⟩:=hS;exact goS))))|(refine zW 1 (by kernel_rfl) rfl rfl ?_));try simp only[Act.put,pA,pB,pC]);((first|(refine zV 2 (by kernel_rfl) rfl rfl ?_;apply Exists.intro;refine⟨?_,?_⟩;(focus(first|exact zof rfl (λw h=>h.2) o.o|(intro w' hS;obtain⟨N,O⟩:=hS;exact goS))))|(refine zW 2 (by kernel_rfl) rfl rfl ?_));try simp only[Act.put,pA,pB,pC]);((first|(refine zV 3 (by kernel_rfl) rfl rfl ?_;apply Exists.intro;refine⟨?_,?_⟩;(focus(first|exact zof rfl (λw h=>h.2) o.o|(intro w' hS;obtain⟨N,O⟩:=hS;exact goS))))|(refine zW 3 (by kernel_rfl) rfl rfl ?_));try simp only[Act.put,pA,pB,pC]);((first|(refine zV 4 (by kernel_rfl) rfl rfl ?_;apply Exists.intro;refine⟨?_,?_⟩;(focus(first|exact zof rfl (λw h=>h.2) o.o|(intro w' hS;obtain⟨N,O⟩:=hS;exact goS))))|(refine zW 4 (by kernel_rfl) rfl rfl ?_));try simp only[Act.put,pA,pB,pC]))
    refine J0 5 9 (by kernel_rfl) rfl rfl rfl rfl (λK' hK'=>?_) (λK' hK'=>?_)
    ·go_simp
     refine(zf8 bH.o aj.o).mono ?_
     rintro e A ⟨rfl,f6⟩
     have F6:=J f6
     clear f6
     refine nXt hK' ?_ λhS=>?_
     ·exact⟨F6.o.cell F.o _root_.id,za I.o F6.o _root_.id⟩
     try simp only[Act.put,pA,pB,pC]
     (((first|(refine zV 6 (by kernel_rfl) rfl rfl ?_;apply Exists.intro;refine⟨?_,?_⟩;(focus(first|(intro w' hS;obtain⟨N,O⟩:=hS;exact goS))))|(refine zW 6 (by kernel_rfl) rfl rfl ?_));try simp only[Act.put,pA,pB,pC]);((first|(refine zV 7 (by kernel_rfl) rfl rfl ?_;apply Exists.intro;refine⟨?_,?_⟩;(focus(first|(intro w' hS;obtain⟨N,O⟩:=hS;exact goS))))|(refine zW 7 (by kernel_rfl) rfl rfl ?_));try simp only[Act.put,pA,pB,pC]);((first|(refine zV 8 (by kernel_rfl) rfl rfl ?_;apply Exists.intro;refine⟨?_,?_⟩;(focus(first|(intro w' hS;obtain⟨N,O⟩:=hS;exact goS))))|(refine zW 8 (by kernel_rfl) rfl rfl ?_));try simp only[Act.put,pA,pB,pC]))
     refine yE 9 (by kernel_rfl) rfl rfl (λK' hK'=>?_)
     refine yg (yw rfl (y9 _)) ?_
     have B:=J ((frN A).alloc (.cells (zJ y6).toArray 103))
     refine nXt hK' ?_ λhS=>?_
     ·exact⟨B.o.cell (F6.o.cell F.o _root_.id) _root_.id,za (za I.o F6.o _root_.id) B.o _root_.id⟩
     try simp only[Act.put,pA,pB,pC]
     refine yE 10 (by kernel_rfl) rfl rfl (λK' hK'=>?_)
     refine yN (zj (w:=A) (ty:=103) (cs:=zJ (yl S q)) rfl rfl rfl (by rw[XL.o];rfl) (by rw[XL.o];exact yG) yf) ?_
     have aK:=J ((frN A).alloc (.cells (zJ (yl S q)).toArray 103))
     refine nXt hK' ?_ λhS=>?_
     ·exact⟨aK.o.cell (F6.o.cell F.o _root_.id) _root_.id,za (za I.o F6.o _root_.id) aK.o _root_.id⟩
     try simp only[Act.put,pA,pB,pC]
     (((first|(refine zV 11 (by kernel_rfl) rfl rfl ?_;apply Exists.intro;refine⟨?_,?_⟩;(focus(first|(intro w' hS;obtain⟨N,O⟩:=hS;exact goS))))|(refine zW 11 (by kernel_rfl) rfl rfl ?_));try simp only[Act.put,pA,pB,pC]))
     refine vn (hK.out _ _ ?_)
     go_wp2_with fail
     go_meet
     case rel=>exact⟨A.heap.size,rfl,rfl,by have:=F6.o.size;have:=ZD.o;omega,FD.o.trans0 (F6.o.trans0 aK.o),yj A (.cells (zJ (yl S q)).toArray 103)⟩
    ·refine yg (yw rfl (y9 _)) ?_
     have B:=J ((frN w5).alloc (.cells (zJ y6).toArray 103))
     have B7:=J (yj w5 (.cells (zJ y6).toArray 103))
     generalize w5.alloc (.cells (zJ y6).toArray 103)=A at*
     generalize bc:w5.heap.size=qo at*
     refine nXt hK' ?_ λhS=>?_
     ·exact⟨B.o.cell F.o _root_.id,za I.o B.o _root_.id⟩
     try simp only[Act.put,pA,pB,pC]
     refine yE 5 (by kernel_rfl) rfl rfl (λK' hK'=>?_)
     go_simp
     refine(zf8 (bH.o.fr0 B.o) aj.o).mono ?_
     rintro e w7 ⟨rfl,f7⟩
     have aJ:=J (B.o.trans0 f7)
     have bo:=J (f7.obj B7.o _root_.id)
     clear f7
     refine nXt hK' ?_ λhS=>?_
     ·exact⟨aJ.o.cell F.o _root_.id,za I.o aJ.o _root_.id⟩
     try simp only[Act.put,pA,pB,pC]
     (((first|(refine zV 6 (by kernel_rfl) rfl rfl ?_;apply Exists.intro;refine⟨?_,?_⟩;(focus(first|(intro w' hS;obtain⟨N,O⟩:=hS;exact goS))))|(refine zW 6 (by kernel_rfl) rfl rfl ?_));try simp only[Act.put,pA,pB,pC]);((first|(refine zV 7 (by kernel_rfl) rfl rfl ?_;apply Exists.intro;refine⟨?_,?_⟩;(focus(first|(intro w' hS;obtain⟨N,O⟩:=hS;exact goS))))|(refine zW 7 (by kernel_rfl) rfl rfl ?_));try simp only[Act.put,pA,pB,pC]);((first|(refine zV 8 (by kernel_rfl) rfl rfl ?_;apply Exists.intro;refine⟨?_,?_⟩;(focus(first|(intro w' hS;obtain⟨N,O⟩:=hS;exact goS))))|(refine zW 8 (by kernel_rfl) rfl rfl ?_));try simp only[Act.put,pA,pB,pC]))
     refine yE 10 (by kernel_rfl) rfl rfl (λK' hK'=>?_)
     refine yN (zK (ty:=103) (b:=qo) (off:=0) (cs:=zJ (yl S q)) rfl rfl rfl (by rw[XL.o];exact zX bo.o (Nat.le_of_eq yA.symm)) (by rw[XL.o];exact yG) yf) ?_
     have W:=@J (Fr No w5 (w7.setCells qo 0 (zJ (yl S q)))) (aJ.o.trans (zu _ _ _ _) (λi hi e=>by omega))
     refine nXt hK' ?_ λhS=>?_
     ·exact⟨W.o.cell F.o _root_.id,za I.o W.o _root_.id⟩
     try simp only[Act.put,pA,pB,pC]
     (((first|(refine zV 11 (by kernel_rfl) rfl rfl ?_;apply Exists.intro;refine⟨?_,?_⟩;(focus(first|(intro w' hS;obtain⟨N,O⟩:=hS;exact goS))))|(refine zW 11 (by kernel_rfl) rfl rfl ?_));try simp only[Act.put,pA,pB,pC]))
     refine vn (hK.out _ _ ?_)
     go_wp2_with fail
     go_meet
     case rel=>exact⟨qo,rfl,rfl,by have:=ZD.o;omega,FD.o.trans0 W.o,Yj (cs:=zJ (yl S q)) bo.o (by rw[XL.o,yz Zn])⟩
   case rest=>
    rename World=>wc
    obtain⟨qo,rfl,rfl,bc,fc,bQ⟩:=hcut
    have FC:=J (FA.o.trans0 fc)
    have RO:=J (zq bQ)
    have cN:=J (za RQ.o fc _root_.id)
    have bq:=J (FC.o.obj aI.o _root_.id)
    have au:=J (zb ai.o FC.o (λ_ _=>_root_.id))
    have av:=J (zb aV.o FC.o (λ_ _=>_root_.id))
    have cm:=J (ah.o.fr0 FC.o)
    have BZ:=J (FC.o.obj aG.o _root_.id)
    have QO:=J bc
    clear fc bQ bc
    by_cases hq:xJ S q=true
    rotate_left
    ·have c6:xJ S q=false:=by simpa using hq
     have HE:=@J (spE S t=15) (by
      unfold spE
      rw[if_neg]
      intro h
      exact hq (all_eq_true.1 h q (mem_of_getElem? HX.o)))
     have R6:=J (zq bq.o)
     clear hq
     have⟨r,D⟩:=tZ2
     go_wp2_with ((first|((with_reducible refine zt ?_);clear r;refine zg rfl (z7 (ty:=250) rfl rfl R6.o uG rG vD) ?_)|((with_reducible refine zv ?_);clear D;refine zi rfl (zK (ty:=250) (b:=Y) (off:=0) (cs:=[.slice u n v,.slice none 0 0]) rfl rfl rfl (zX BZ.o (le_refl 2)) vD (ze2 rfl rfl)) ?_));go_frame)
     have fE:=zu Y [.slice u n v,.slice none 0 0] 0 wc
     refine bodyPost_ret (ym (P:=prog) (fn:=Tryz.f134) rfl _ rfl (yx BZ.o rfl) uG rG vD rfl) rfl (zgw HE.o (by decide) ((cm.o.frV fE (λj a e=>by have:=UL.o j a;have:=H.o;omega) (λj e=>by have:=HS.o.fr.size;have:=H.o;omega))) ((FW.o.trans0 FC.o).of0.trans fE (λj a e=>by have:=H.o;omega)) _ _ _ _ _ _)
    ·have cr:=@J ((JN S t)[n]? =some (yl S q)) (by simp[JN,HX.o])
     have ct:=@J ((j5 S t)[n]? =some ⟨q,yl S q⟩) (by simp[j5,HX.o])
     have ao:=@J ((⟨q,yl S q⟩:zr).ok) (⟨aj.o,aY.o⟩)
     have CL:=J (jT ao.o)
     obtain⟨v5,w5,a1,a2,a3,-,a5⟩:=yY (P:=prog) wc Z.heap.size 22 22 103 33 40 _ qN JD (by rw[←yA];rfl) (by decide) au.o (zJ (yl S q)) XL.o yf (by omega) (by unfold maxLen;omega) (by have:=FR.o.size;have:=FC.o.size;omega)
     obtain⟨Q,R,bd⟩:=a2.slice.arg.form
     subst bd
     have A1:=J a1
     have O5:=@J (w5.ownsRow Z.heap.size 103 33 (.slice Q (n+1) R) (n+1) (((JN S t).take (n+1)).flatMap zJ)) (by rw[YT zJ cr.o];exact a2)
     have NB:=@J (∀j,(Value.slice pa n pc).ownBlock=some j→Z.heap.size≤j∧j<wc.heap.size∧j≠d) (λj a=>⟨(au.o.lt j a).1,(au.o.lt j a).2,λe=>by have:=(au.o.lt j a).1;have:=yF aa.o;omega⟩)
     have NT:=@J (∀j,(Value.slice u n v).ownBlock=some j→Z.heap.size≤j∧j<wc.heap.size∧j≠d) (λj a=>⟨(av.o.lt j a).1,(av.o.lt j a).2,λe=>by have:=(av.o.lt j a).1;have:=yF aa.o;omega⟩)
     have F5:=J a3
     have bw:=@J (Fr (λj=>j=d) Z w5) ((FR.o.trans0 FC.o).trans a3 (λj a e=>by have:=(NB.o j e).1;omega))
     have bm:=J (a3.obj bq.o (λe=>(NB.o _ e).2.2 rfl))
     have cD:=J (zb av.o a3 (λj a e=>bt.o j e a))
     have cL:=J (za RO.o a3 (λe=>by
      have h1:=(ai.o.lt _ e).2
      have:=QO.o
      have:=QA.o
      omega))
     have cM:=J (za cN.o a3 (λe=>by
      have h1:wr.heap.size<wr.heap.size:=(ai.o.lt _ e).2
      omega))
     have az:=@J (∀j,(Value.slice Q (n+1) R).ownBlock=some j→(Value.slice u n v).ownBlock=some j→False) (λj h1 h2=>(a5 j h1).elim (λh=>bt.o j h h2) (λh=>by have:=(NT.o j h2).2.1;omega))
     clear a1 a2 a3 a5
     obtain⟨v6,A,b1,b2,b3,-,b5⟩:=yY (P:=prog) w5 Z.heap.size 145 145 214 66 80 _ VY zaq (by show(yW zcF).toArray.size=66;rfl) (by decide) cD.o (yW ⟨q,yl S q⟩) CL.o Zo (by omega) (by unfold maxLen;omega) (by have:=bw.o.size;omega)
     obtain⟨al,an,cU⟩:=b2.slice.arg.form
     subst cU
     have B1:=J b1
     have O6:=@J (A.ownsRow Z.heap.size 214 66 (.slice al (n+1) an) (n+1) (((j5 S t).take (n+1)).flatMap yW)) (by rw[YT yW ct.o];exact b2)
     have ca:=@J (Fr (λj=>j=d) Z A) (bw.o.trans b3 (λj a e=>by have:=(NT.o j e).1;omega))
     have ae:=J (b3.obj bm.o (λe=>(NT.o _ e).2.2 rfl))
     have cy:=J (zb O5.o b3 (λj a e=>az.o j a e))
     have bu:=@J (∀j,(Value.slice Q (n+1) R).ownBlock=some j→(Value.slice al (n+1) an).ownBlock=some j→False) (λj h1 h2=>(b5 j h2).elim (λh=>az.o j h1 h) (λh=>by have:=(O5.o.lt j h1).2;omega))
     have cv:=@J (∀j,(Value.slice al (n+1) an).ownBlock=some j→j≠d) (λj a e=>by have:=(O6.o.lt j a).1;have:=yF aa.o;omega)
     have aR:=@J (∀j,(Value.slice Q (n+1) R).ownBlock=some j→j≠d) (λj a e=>by have:=(O5.o.lt j a).1;have:=yF aa.o;omega)
     have cA:w5.cell? ⟨d,0,none⟩=some (.slice u n v):=by have:=zq bm.o 0 _ rfl;simpa using this
     have cB:A.cell? ⟨d,0,none⟩=some (.slice u n v):=by have:=zq ae.o 0 _ rfl;simpa using this
     have fB:=yn (i:=0) ae.o
     have bY:=J (heap_setCell_same A d 0 _ _ (.slice al (n+1) an) ae.o)
     have fs:Fr (λj=>j=d) A (A.setCell ⟨d,0,none⟩ (.slice al (n+1) an)):=(Fr.refl (λj=>j=d) A).setCell ⟨d,0,none⟩ (.inr rfl) _
     have FS:=J fs
     have bk:=@J (∀y∈(zZ t).take (n+1),xJ S y=true) (λy hy=>by
      rw[take_add_one,HX.o] at hy
      rcases mem_append.1 hy with hy|hy
      ·exact aE.o y hy
      ·simp at hy;subst hy;exact hq)
     clear b1 b2 b3 b5 fs
     have⟨r,D,K2,K3,K4,K5,K6,K7⟩:=tZ8
     go_wp2_with (((with_reducible refine zt ?_);first|(clear r;refine zg rfl (z7 (ty:=103) rfl rfl RO.o uO rO (by rw[List.toList_toArray,XL.o];exact yG)) ?_)|(clear D;refine zg rfl (zS (t:=22) rfl rfl qN Jp (by rw[←yA];rfl) (by decide) (by decide) XL.o) ?_)|(clear K2;at_builtin;refine zQ rfl rfl rfl rfl A1.o ?_)|(clear K3;refine zod rfl rfl rfl cM.o o.o ?_)|(clear K4;refine zg rfl (z7 (ty:=103) rfl rfl cL.o uO rO (by rw[List.toList_toArray,XL.o];exact yG)) ?_)|(clear K5;refine zg rfl (yQ (t:=214) (vs:=[(0,.agg (zn q).toArray),(1,.agg (zJ (yl S q)).toArray)]) rfl rfl zb3 (zdA aj.o aY.o) (zbZ _ _) (by rw[CL.o])) ?_)|(clear K6;refine zg rfl (zS (t:=145) rfl rfl VY zgc (by show(yW zcF).toArray.size=66;rfl) (by decide) (by decide) CL.o) ?_)|(clear K7;at_builtin;refine zQ rfl rfl rfl rfl B1.o ?_));go_frame)
     go_roundw
     case rel=>exact⟨n+1,by go_num,by omega,_,bk.o,zb cy.o FS.o (λj a e=>aR.o j a e),bY.o,zb O6.o FS.o (λj a e=>cv.o j a e),bu.o,ca.o.trans FS.o (λ_ _ e=>e)⟩
     case measure=>simp[intOf];omega
  ·have a7:n=t.ins.length:=by omega
   subst a7
   clear hlt hn
   have i1:¬(t.ins.length:Int)<(t.ins.length:Int):=by omega
   have C:=@J ((zZ t).all (xJ S)=true) (all_eq_true.2 (λq hq=>aE.o q (by rw[←ax.o,take_length];exact hq)))
   have cz:=@J (wr.ownsRow Z.heap.size 103 33 (.slice pa t.ins.length pc) t.ins.length ((JN S t).flatMap zJ)) (by have:=ai.o;rw[←X8 S t,take_length,X8 S t] at this;exact this)
   have bN:=@J (wr.ownsRow Z.heap.size 214 66 (.slice u t.ins.length v) t.ins.length ((j5 S t).flatMap yW)) (by have:=aV.o;rw[←Jv S t,take_length,Jv S t] at this;exact this)
   have cq:=J (bJ.o.same FW.o.of0)
   have GR:=J (HG.o.keep0 FW.o)
   have cw:=@J (xu wr (.slice pa t.ins.length pc) (JN S t)) (⟨zj7 HS.o.ok t,by rw[X8];exact cz.o.slice.arg⟩)
   have bx:=J (Zp GR.o cq.o.now cw.o (by rw[X8];omega))
   have NT:=@J (∀j,(Value.slice u t.ins.length v).ownBlock=some j→Z.heap.size≤j∧j<wr.heap.size) (λj a=>bN.o.lt j a)
   have m:=@J (Y<d∧d<Z.heap.size∧w.heap.size<Y) (⟨by have:=H.o;have:=Q6.o;omega,yF aa.o,by have:=H.o;omega⟩)
   clear ai aV aE bJ
   by_cases hfe:vB t (JN S t)=0
   rotate_left
   ·have HE:=@J (spE S t=vB t (JN S t)) (by unfold spE;rw[if_pos C.o,if_neg hfe])
    have cd:=J hfe
    have e0:(vB t (JN S t)==0)=false:=by simpa using hfe
    have e1:(vB t (JN S t) !=0)=true:=by simpa using hfe
    clear hfe i1
    have⟨r,D,K2,K3⟩:=tZ4
    go_wp2_with ((first|((with_reducible refine zt ?_);first|(clear r;refine zoa rfl rfl rfl aw.o rfl ?_)|(clear K2;refine zg rfl (z7 (ty:=250) rfl rfl R6.o uG rG vD) ?_))|(clear D;go_at_call 77;refine bx.o.mono ?_;rintro e w5 ⟨rfl,f5⟩;have F5:=J f5;have R6:=J (zq (f5.obj aI.o _root_.id));have BZ:=J (f5.obj aG.o _root_.id);clear f5)|((with_reducible refine zv ?_);clear K3;refine zi rfl (zK (ty:=250) (b:=Y) (off:=0) (cs:=[.slice u t.ins.length v,.slice none 0 0]) rfl rfl rfl (zX BZ.o (le_refl 2)) vD (ze2 rfl rfl)) ?_));go_frame)
    have fE:=zu Y [.slice u t.ins.length v,.slice none 0 0] 0 w5
    refine bodyPost_ret (ym (P:=prog) (fn:=Tryz.f134) rfl _ rfl (yx BZ.o rfl) uG rG vD rfl) rfl (zgw HE.o cd.o (((ah.o.fr0 F5.o).frV fE (λj a e=>by have:=UL.o j a;have:=H.o;omega) (λj e=>by have:=HS.o.fr.size;have:=H.o;omega))) ((FW.o.trans0 F5.o).of0.trans fE (λj a e=>by have:=H.o;omega)) _ _ _ _ _ _)
   ·have bA:=J hfe
    have e0:(vB t (JN S t)==0)=true:=by simpa using hfe
    have e1:(vB t (JN S t) !=0)=false:=by simpa using hfe
    clear hfe i1
    have ar:=J (zeW ad.o.2 (by omega))
    have ML:=J (zat t)
    have b6:=J (λ(w':World) (f:Fr No w w')=>zhC (HG.o.keep0 f) (bI.o w' f.of0))
    have⟨r,D,K2,K3⟩:=tZ4
    go_wp2_with ((first|((with_reducible refine zt ?_);first|(clear r;refine zoa rfl rfl rfl aw.o rfl ?_)|(clear K2;refine zoa rfl rfl rfl cJ.o rfl ?_))|(clear D;go_at_call 77;refine bx.o.mono ?_;rintro e w5 ⟨rfl,f5⟩;have F5:=J f5;have cJ:=J (za aw.o f5 _root_.id);clear f5)|(clear K3;go_at_call 165;refine(b6.o w5 (FW.o.trans0 F5.o)).mono ?_;rintro e A ⟨mv,rfl,f6,hm⟩;rw[if_pos HF.o] at hm;obtain⟨ma,mc,a6⟩:=hm.slice.arg.form;subst a6;have F6:=J f6;have aT:=J hm;clear f6 hm));go_frame)
    have G:=J ((F5.o.trans0 F6.o).trans0 (frN A).drew)
    have bz:=J (FW.o.trans0 G.o)
    have ch:=J (ah.o.fr0 G.o)
    have bC:=J (G.o.obj aB.o _root_.id)
    have br:=@J (A.drew.cell? ⟨p,0,none⟩=some (.pointer (some ⟨s,0,none⟩))) (by have:=zq bC.o 0 _ rfl;simpa using this)
    have aX:=J (za aw.o G.o _root_.id)
    have ae:=J (G.o.obj aI.o _root_.id)
    have bX:=J (G.o.obj aG.o _root_.id)
    have bK:=J (zb aT.o (frN A).drew (λ_ _=>_root_.id))
    have cE:=J (zb bN.o G.o (λ_ _=>_root_.id))
    have cO:=J (bI.o A.drew bz.o.of0)
    refine wrLx [ff,ff,ff,ff,ff,tt,tt] (λw'=>w'.cell? ⟨p,0,none⟩=some (.pointer (some ⟨s,0,none⟩))∧w'.rangeAt w.heap.size 0 [.int .u32 t.ver,.slice ia t.ins.length ic,.slice oa t.outs.length oc]) ?_ (λK hK=>?_)
    ·exact⟨br.o,aX.o⟩
    generalize A.drew=z at*
    repeat((first|(refine zl rfl ?_;constructor;constructor;(focus(first|exact zoh rfl (λw h=>h.2) rfl|(rintro w' ⟨N,O⟩;exact goS))))|(refine zm rfl ?_));try simp only[Act.put,pA,pB,pC])
    (refine zF rfl (λK' hK'=>?_))
    go_simp
    refine(jd z cO.o (by omega)).mono ?_
    rintro e w7 ⟨qv,rfl,o7,f7⟩
    have B:=J f7
    have cG:=@J (xL w7 qv (zZ t)) (⟨λx E=>by
     obtain⟨y,bf,bg⟩:=mem_map.1 E
     rw[←bg]
     exact ad.o.1 y bf,by rw[ax.o];exact o7.slice.arg⟩)
    obtain⟨qa,qc,cS⟩:=o7.slice.arg.form
    subst cS
    clear f7 o7
    refine nXt hK' ?_ λhS=>?_
    ·exact⟨B.o.cell br.o _root_.id,za aX.o B.o _root_.id⟩
    try simp only[Act.put,pA,pB,pC]
    repeat((first|(refine zl rfl ?_;constructor;constructor;(focus(first|(rintro w' ⟨N,O⟩;exact goS))))|(refine zm rfl ?_));try simp only[Act.put,pA,pB,pC])
    (refine zF rfl (λK' hK'=>?_))
    go_simp
    have TA:=J (zft bB.o C.o)
    refine(zkq (ch.o.fr0 B.o) cG.o (by rw[ax.o];have:=aM.o;omega)).mono ?_
    rintro e w8 ⟨x8,rfl,-,aZ,f8⟩
    rw[TA.o.2] at aZ
    have cj:=J aZ
    have aL:=@J (Fr U w w8) ((bz.o.trans0 B.o).of0.trans f8 (λ_ _ e=>e))
    have X:=@J (∀j,w.heap.size≤j→¬U j) (λj a e=>by have:=UL.o j e;omega)
    have bD:=J (aL.o.obj aq.o aN.o)
    have bs:=@J (w8.cell? ⟨p,0,none⟩=some (.pointer (some ⟨s,0,none⟩))) (by have:=zq bD.o 0 _ rfl;simpa using this)
    have bn:=J (f8.obj (B.o.obj ae.o _root_.id) (X.o d (by have:=m.o;omega)))
    have bl:=J (f8.obj (B.o.obj bX.o _root_.id) (X.o Y (by have:=m.o;omega)))
    have bL:=J (zb (zb bK.o B.o (λ_ _=>_root_.id)) f8 (λj a=>X.o j (by have:=(aT.o.lt j a).1;have:=FW.o.size;have:=F5.o.size;omega)))
    have bM:=J (zb (zb cE.o B.o (λ_ _=>_root_.id)) f8 (λj a=>X.o j (by have:=(NT.o j a).1;have:=ab.o.size;omega)))
    have cK:=J (za (za aX.o B.o _root_.id) f8 (X.o _ (le_refl _)))
    clear aZ f8
    refine nXt hK' ?_ λhS=>?_
    ·exact⟨bs.o,cK.o⟩
    try simp only[Act.put,pA,pB,pC]
    refine zL (hK.out _ _ ?_)
    have b4:=@J (qY w8 (.slice ma t.outs.length mc) (qF t)) (⟨ar.o,by rw[ML.o];exact bL.o.slice.arg⟩)
    have TL:=@J ((qg S (zZ t)).length≤S.length) (List.length_filter_le _ _)
    have bO:=J (zhb cj.o b4.o (by rw[ML.o];have:=TL.o;have:=aM.o;omega))
    have bR:=bs.o
    by_cases hpe:jO (qg S (zZ t)) (qF t)=0
    rotate_left
    ·have HE:=@J (spE S t=10) (by unfold spE;rw[if_pos C.o,if_pos bA.o,if_neg hpe])
     have j0:(jO (qg S (zZ t)) (qF t)==0)=false:=by simpa using hpe
     have j1:(jO (qg S (zZ t)) (qF t) !=0)=true:=by simpa using hpe
     have PS:=@J (JM (qg S (zZ t)) (qF t)=qg S (zZ t)) (by unfold JM;rw[if_neg hpe])
     have PB:=J (zfi HS.o.srt C.o bB.o)
     clear hpe
     have r:=tru
     go_wp2_with (clear r;go_at_call 135;refine bO.o.mono ?_;rintro e w9 ⟨rfl,M,f9⟩;rw[PS.o] at M;have aP:=J M;have W:=J f9;clear M f9;go_frame)
     clear bR
     have FD:=J (frN w9).drew
     have ag:=@J (Fr U w w9.drew) ((aL.o.trans W.o (λ_ _ e=>e)).trans0 FD.o)
     have bE:=J (ag.o.obj aq.o aN.o)
     have b7:=@J (w9.drew.cell? ⟨p,0,none⟩=some (.pointer (some ⟨s,0,none⟩))) (by have:=zq bE.o 0 _ rfl;simpa using this)
     have af:=J (FD.o.obj (W.o.obj bn.o (X.o d (by have:=m.o;omega))) _root_.id)
     have aF:=J (FD.o.obj (W.o.obj bl.o (X.o Y (by have:=m.o;omega))) _root_.id)
     have b0:=@J (w9.drew.cell? ⟨d,0,none⟩=some (.slice u t.ins.length v)) (by have:=zq af.o 0 _ rfl;simpa using this)
     have aU:=J (zb (zb bM.o W.o (λj a=>X.o j (by have:=(NT.o j a).1;have:=ab.o.size;omega))) FD.o (λ_ _=>_root_.id))
     have bG:=J (aP.o.fr0 FD.o)
     refine wrLx [ff,ff,ff,ff,ff,ff,tt] (λw'=>w'.cell? ⟨p,0,none⟩=some (.pointer (some ⟨s,0,none⟩))∧w'.cell? ⟨d,0,none⟩=some (.slice u t.ins.length v)) ?_ (λK hK=>?_)
     ·exact⟨b7.o,b0.o⟩
     generalize w9.drew=z9 at*
     repeat((first|(refine zl rfl ?_;constructor;constructor;(focus(first|(rintro w' ⟨N,O⟩;exact goS))))|(refine zm rfl ?_));try simp only[Act.put,pA,pB,pC])
     (refine zF rfl (λK' hK'=>?_))
     go_simp
     refine(zhb (l:=j5 S t) bG.o ⟨zfw HS.o.ok ad.o.1,by rw[Jv];exact aU.o.slice.arg⟩ (by rw[Jv];have:=TL.o;have:=aM.o;omega)).mono ?_
     rintro e bV ⟨rfl,ak,ay⟩
     rw[PB.o.2] at ak
     have bF:=J ak
     have aA:=@J (Fr U w bV) (ag.o.trans ay (λ_ _ e=>e))
     have bZ:=J (ay.obj af.o (X.o d (by have:=m.o;omega)))
     have BZ:=J (ay.obj aF.o (X.o Y (by have:=m.o;omega)))
     have R6:=J (zq bZ.o)
     clear ak ay
     refine nXt hK' ?_ λhS=>?_
     ·exact⟨by have:=zq (aA.o.obj aq.o aN.o) 0 _ rfl;simpa using this,by have:=R6.o 0 _ rfl;simpa using this⟩
     try simp only[Act.put,pA,pB,pC]
     refine zL (hK.out _ _ ?_)
     have⟨r,D⟩:=tZ2
     go_wp2_with ((first|((with_reducible refine zt ?_);clear r;refine zg rfl (z7 (ty:=250) rfl rfl R6.o uG rG vD) ?_)|((with_reducible refine zv ?_);clear D;refine zi rfl (zK (ty:=250) (b:=Y) (off:=0) (cs:=[.slice u t.ins.length v,.slice none 0 0]) rfl rfl rfl (zX BZ.o (le_refl 2)) vD (ze2 rfl rfl)) ?_));go_frame)
     have fE:=zu Y [.slice u t.ins.length v,.slice none 0 0] 0 bV
     refine bodyPost_ret (ym (P:=prog) (fn:=Tryz.f134) rfl _ rfl (yx BZ.o rfl) uG rG vD rfl) rfl (zgw HE.o (by decide) (bF.o.frV fE (λj a e=>by have:=UL.o j a;have:=H.o;omega) (λj e=>by have:=HS.o.fr.size;have:=H.o;omega)) (aA.o.trans fE (λj a e=>by have:=H.o;omega)) _ _ _ _ _ _)
    ·have cZ:=J hpe
     have HE:=@J (spE S t=0) (by unfold spE;rw[if_pos C.o,if_pos bA.o,if_pos hpe])
     have j0:(jO (qg S (zZ t)) (qF t)==0)=true:=by simpa using hpe
     have j1:(jO (qg S (zZ t)) (qF t) !=0)=false:=by simpa using hpe
     have PS:=@J (JM (qg S (zZ t)) (qF t)=spS S t) (by unfold JM spS;rw[if_pos hpe,if_pos HE.o])
     clear hpe
     have r:=tru
     go_wp2_with (clear r;go_at_call 135;refine bO.o.mono ?_;rintro e w9 ⟨rfl,M,f9⟩;rw[PS.o] at M;have aP:=J M;have W:=J f9;clear M f9;go_frame)
     clear bR
     have ag:=@J (Fr U w w9) (aL.o.trans W.o (λ_ _ e=>e))
     have af:=J (W.o.obj bn.o (X.o d (by have:=m.o;omega)))
     have aF:=J (W.o.obj bl.o (X.o Y (by have:=m.o;omega)))
     have aU:=J (zb bM.o W.o (λj a=>X.o j (by have:=(NT.o j a).1;have:=ab.o.size;omega)))
     have NM:=@J (∀j,(Value.slice ma t.outs.length mc).ownBlock=some j→Z.heap.size≤j) (λj a=>by have:=(aT.o.lt j a).1;have:=FR.o.size;have:=F5.o.size;omega)
     have cx:=J (zb bL.o W.o (λj a=>X.o j (by have:=NM.o j a;have:=ab.o.size;omega)))
     have aQ:=J (yF af.o)
     go_loopw [91] (λiv wq=>∃(n:Nat) (mv:Value),iv=.int .i64 n∧n≤t.outs.length∧wq.heap[d]? =some (.cells #[.slice u t.ins.length v,mv] 250 (0,0))∧wq.ownsRow w9.heap.size 95 33 mv n ((((qF t).map (·.at_)).take n).flatMap zn)∧Fr (λj=>j=d) w9 wq) (λiv _=>t.outs.length-(intOf iv).toNat)
     case atStart=>exact⟨0,.slice none 0 0,rfl,zero_le _,af.o,World.ownsRow_nil _ _ _ 33,Fr.refl _ _⟩
     case round=>
      obtain⟨n,c7,rfl,hn,bS,a8,fr⟩:=hrel
      rename World=>wq
      have FQ:=J fr
      have BQ:=J bS
      have OR:=J a8
      obtain⟨na,nc,a6⟩:=a8.slice.arg.form
      subst a6
      clear fr bS a8
      by_cases hlt:n<t.outs.length
      ·have i1:(n:Int)<(t.outs.length:Int):=by omega
       obtain⟨c,E⟩:∃x,(qF t)[n]? =some x:=⟨_,getElem?_eq_getElem (by rw[ML.o];exact hlt)⟩
       have ao:=J (ar.o c (mem_of_getElem? E))
       have CL:=J (jT ao.o)
       have aW:=J (z6 ao.o.1)
       obtain⟨g,cP,hv,hr,-⟩:=JF (f:=yW) (k:=66) (L:=qF t) (by decide) (λx E=>jT (ar.o x E)) (zb cx.o FQ.o (λj a e=>by have:=NM.o j a;have:=m.o;omega)) E
       cases hv
       have R1:=J hr
       have FB:=J ((frN wq).alloc (.cells (yW c).toArray 214))
       have RP:=J (zdu (zy wq (yW c) 214))
       have cf:=@J (((qF t).map (·.at_))[n]? =some c.at_) (by simp[E])
       have bp:=J (FB.o.obj BQ.o _root_.id)
       obtain⟨v5,T,a1,a2,a3,a4,a5⟩:=yY (P:=prog) (wq.alloc (.cells (yW c).toArray 214)) w9.heap.size 91 91 95 33 36 _ YA QP (by show(zn xN).toArray.size=33;rfl) (by decide) (zb OR.o FB.o (λ_ _=>_root_.id)) (zn c.at_) aW.o yK (by omega) (by unfold maxLen;omega) (le_trans FQ.o.size FB.o.size)
       have A1:=J a1
       have aS:=@J (T.ownsRow w9.heap.size 95 33 v5 (n+1) ((((qF t).map (·.at_)).take (n+1)).flatMap zn)) (by rw[YT zn cf.o];exact a2)
       have cu:=@J (∀j,(Value.slice na n nc).ownBlock=some j→j≠d) (λj a e=>by have:=(OR.o.lt j a).1;have:=aQ.o;omega)
       have aR:=@J (∀j,v5.ownBlock=some j→j≠d) (λj a e=>by have:=(aS.o.lt j a).1;have:=aQ.o;omega)
       have aH:=J (a3.obj bp.o (λe=>cu.o _ e rfl))
       have b9:=@J (Fr (λj=>j=d) w9 T) ((FQ.o.trans0 FB.o).trans a3 (λj a e=>by have:=(OR.o.lt j e).1;omega))
       have cA:(wq.alloc (.cells (yW c).toArray 214)).cell? ⟨d,1,none⟩=some (.slice na n nc):=by have:=zq bp.o 1 _ rfl;simpa using this
       have cB:T.cell? ⟨d,1,none⟩=some (.slice na n nc):=by have:=zq aH.o 1 _ rfl;simpa using this
       have fB:=yn (i:=1) aH.o
       clear hr a1 a2 a3 a4 a5
       obtain⟨Q,R,bd⟩:=aS.o.slice.arg.form
       subst bd
       have cg:=J (heap_setCell_same T d 1 _ _ (.slice Q (n+1) R) aH.o)
       have fs:Fr (λj=>j=d) T (T.setCell ⟨d,1,none⟩ (.slice Q (n+1) R)):=(Fr.refl (λj=>j=d) T).setCell ⟨d,1,none⟩ (.inr rfl) _
       have cb:=J (b9.o.trans fs (λ_ _ e=>e))
       have cC:=J (zb aS.o fs (λj a e=>aR.o j a e))
       clear fs
       have⟨r,D,K2,K3,K4⟩:=tZ5
       go_wp2_with ((first|((with_reducible refine zt ?_);first|(clear r;refine zg rfl (z7 (ty:=214) rfl rfl R1.o uC rC (by rw[CL.o];exact JZ)) ?_)|(clear K2;refine zod rfl rfl rfl RP.o aW.o ?_)|(clear K3;refine zg rfl (zS (t:=91) rfl rfl YA zaO rfl (by decide) (by decide) aW.o) ?_)|(clear K4;at_builtin;refine zQ rfl rfl rfl rfl A1.o ?_))|((with_reducible refine zv ?_);clear D;refine zi rfl (zj (w:=wq) (ty:=214) (cs:=yW c) rfl rfl rfl (by rw[CL.o];rfl) (by rw[CL.o];exact JZ) Zo) ?_;generalize wq.alloc (.cells (yW c).toArray 214)=wA at*));go_frame)
       go_roundw
       case rel=>exact⟨n+1,_,by go_num,by omega,cg.o,cC.o,cb.o⟩
       case measure=>simp[intOf];omega
      ·have a7:n=t.outs.length:=by omega
       subst a7
       clear hlt hn
       have i1:¬(t.outs.length:Int)<(t.outs.length:Int):=by omega
       have aO:=@J (wq.ownsRow w9.heap.size 95 33 (.slice na t.outs.length nc) t.outs.length (((qF t).map (·.at_)).flatMap zn)) (by
        have:=OR.o
        rw[List.take_of_length_le (by rw[length_map,ML.o];exact le_refl _)] at this
        exact this)
       have R6:=J (zq BQ.o)
       have BZ:=J (FQ.o.obj aF.o (λe=>by have:=m.o;omega))
       have cF:=J (zb aU.o FQ.o (λj a e=>by have:=(NT.o j a).1;have:=m.o;omega))
       have cn:=J (aP.o.frV FQ.o (λj a e=>by have:=UL.o j a;have:=m.o;omega) (λj e=>by have:=HS.o.fr.size;have:=m.o;omega))
       have cc:=@J (Fr U w wq) (ag.o.trans FQ.o (λj a e=>by have:=m.o;omega))
       have⟨r,D⟩:=tZ2
       go_wp2_with ((first|((with_reducible refine zt ?_);clear r;refine zg rfl (z7 (ty:=250) rfl rfl R6.o uG rG vD) ?_)|((with_reducible refine zv ?_);clear D;refine zi rfl (zK (ty:=250) (b:=Y) (off:=0) (cs:=[.slice u t.ins.length v,.slice na t.outs.length nc]) rfl rfl rfl (zX BZ.o (le_refl 2)) vD (ze2 rfl rfl)) ?_));go_frame)
       have fE:=zu Y [.slice u t.ins.length v,.slice na t.outs.length nc] 0 wq
       have FE:=J fE
       refine bodyPost_ret (ym (P:=prog) (fn:=Tryz.f134) rfl _ rfl (yx BZ.o rfl) uG rG vD rfl) rfl ⟨u,t.ins.length,v,na,t.outs.length,nc,by rw[HE.o];rfl,cn.o.frV fE (λj a e=>by have:=UL.o j a;have:=H.o;omega) (λj e=>by have:=HS.o.fr.size;have:=H.o;omega),cc.o.trans fE (λj a e=>by have:=H.o;omega),λ_ V hV w' f=>?_⟩
       have k1:=zge (l:=j5 S t) (V:=V) (by rw[Jv];exact zb cF.o FE.o (λj a e=>by have:=(NT.o j a).1;have:=m.o;omega)) (zfw HS.o.ok ad.o.1) (λj a e=>by have:=hV j e;have:=(NT.o j a).1;have:=ab.o.size;omega) w' f
       have k2:=zaP (l:=(qF t).map (·.at_)) (V:=V) (by rw[length_map,ML.o];exact zb aO.o FE.o (λj a e=>by have:=(aO.o.lt j a).1;have:=aQ.o;have:=m.o;omega)) (λx E=>by
        obtain⟨y,hy,rfl⟩:=mem_map.1 E
        exact(ar.o y hy).1) (λj a e=>by have:=hV j e;have:=(aO.o.lt j a).1;have:=ag.o.size;omega) w' f
       refine⟨u,v,na,nc,?_,(by show qY w' (.slice u (j5 S t).length v) (j5 S t);rw[Jv];exact k1),(by show xL w' (.slice na ((qF t).map (·.at_)).length nc) ((qF t).map (·.at_));rw[length_map,ML.o];exact k2)⟩
       show _=[Value.slice u (j5 S t).length v,Value.slice na ((qF t).map (·.at_)).length nc]
       rw[Jv,length_map,ML.o]
theorem TxQ.len3' {t:TxD} (h:TxQ w t cs):cs.length=3:=by
 obtain⟨_,_,_,_,rfl,_⟩:=h
 rfl
theorem zhw {b:qs} {c g:Option Addr} {d i:Nat} (h:Kept V w (λw=>jE w b [.int .u64 b.tag,.slice c b.pay.length d,.slice g b.txs.length i])):Kept V w (λw=>xu w (.slice c b.pay.length d) b.pay)∧Kept V w (λw=>Jz w (.slice g b.txs.length i) b.txs):=by
 have a:∀w',jE w' b [.int .u64 b.tag,.slice c b.pay.length d,.slice g b.txs.length i]→xu w' (.slice c b.pay.length d) b.pay∧Jz w' (.slice g b.txs.length i) b.txs:=by
  rintro w' ⟨n,o,p,q,e,_,l,m⟩
  simp only[zhv,List.cons.injEq,and_true] at e
  obtain⟨-,j,k⟩:=e
  injection j with e11 _ e13
  injection k with e21 _ e23
  subst e11;subst e13;subst e21;subst e23
  exact⟨l,m⟩
 exact⟨λw' f=>(a w' (h w' f)).1,λw' f=>(a w' (h w' f)).2⟩
theorem zaj {b:qs} {bcs:List Value} {a:List zd} {c:List YC} {o m:Value} {h:List (List Value)} (s:Kept V w (λw=>jE w b bcs)) (hi:w.ownsRow B 41 32 o a.length (a.flatMap zf)) (l:∀x∈a,zY x)
  {V':Nat→Prop} (i:jR B 250 2 zdn V' w m c h) (r:∀j,V j→V' j) (n:∀j,V j→j<B) (y:c.length≤1000):Kept V w (λw=>jF w ⟨b,a,c⟩ (bcs++[o,m])):=by
 obtain⟨u,v,g⟩:=hi.slice.arg.form
 obtain⟨p,q,d⟩:=i.form
 have t:=i.rows (U:=V) (by decide) (by unfold maxLen;omega) (λj _ e=>r j e) (λj k e=>by have:=(i.lt j k).1;have:=n j e;omega)
 intro w' f
 refine⟨bcs,u,v,p,q,by rw[g,d],s w' f,⟨l,?_⟩,?_⟩
 ·rw[←g]
  exact(zb hi f (λj k e=>by have:=(hi.lt j k).1;have:=n j e;omega)).slice.arg
 ·have:=t w' f
  rw[d] at this
  exact this
theorem zh0 {ma:Option Addr} {a:Nat} {l:List zE} (h:w.ownsRow B 95 33 (.slice ma n a) n (l.flatMap zn)) (c:l.length=n) (ok:∀x∈l,x.ok) (b:∀j,(Value.slice ma n a).ownBlock=some j→¬V j):Kept V w (λw=>zdn w ⟨[],l⟩ [.slice none 0 0,.slice ma n a]):=by
 subst c
 exact λw' f=>⟨none,0,ma,a,rfl,⟨(λx d=>by cases d),.inl (.inl ⟨rfl,rfl,rfl⟩)⟩,zaP h ok b w' f⟩
theorem zkV {K:List zd} {S:List zr} {b:qs} {E:Int} {a:StD} (h:runT K b.txs (st0 S)=(E,a)) (c:E≠0):doR K S b=⟨E,a.S,⟨b,a.ids,a.chg⟩⟩:=by
 unfold doR
 rw[h]
 exact if_neg c
theorem zgY {K:List zd} {S:List zr} {b:qs} {a:StD} (h:runT K b.txs (st0 S)=(0,a)):doR K S b=if jO a.S (vK b)=0 then⟨0,jV a.S (vK b),⟨b,a.ids,a.chg++[⟨[],(vK b).map (·.at_)⟩]⟩⟩ else⟨10,a.S,⟨b,a.ids,a.chg⟩⟩:=by
 unfold doR
 rw[h]
 exact if_pos rfl
def DoP (w0 w:World) (p s mi:Nat) (U:Nat→Prop) (bv:Value) (css:List (List Value)) (D:ChD) (dq:Nat) (T:Nat→Prop) (b:qs) (R:DoR) (e:Ending) (w':World):Prop:=
 ∃M',zee D.bs.length D.M M' R.d.ids∧znq w0 w p s mi U bv css D dq T b R.E R.S M' R.d e w'
def DoL (w0 w:World) (p s mi:Nat) (U:Nat→Prop) (bv:Value) (css:List (List Value)) (D:ChD) (dq:Nat) (T:Nat→Prop) (b:qs) (x0 x1 x2:Value) (K:List zd) (n:Nat) (wr:World):Prop:=
 ∃(st:StD) (M:List (zd×Int)) (iv cv:Value) (ccs:List (List Value)),runT K b.txs (st0 D.S)=runT K (b.txs.drop n) st∧zcq D.S K n st∧zee D.bs.length D.M M st.ids∧M.length≤D.M.length+n∧
  qS w0 wr p s U mi bv css ⟨st.S,D.bs,M⟩∧wr.heap[dq]? =some (.cells #[x0,x1,x2,iv,cv] 207 (0,0))∧wr.ownsRow w.heap.size 41 32 iv n (st.ids.flatMap zf)∧
  jR w.heap.size 250 2 zdn (λj=>(chV p U mi bv j∨T j)∨iv.ownBlock=some j) wr cv st.chg ccs∧(∀j,iv.ownBlock=some j→cv.ownBlock=some j→False)∧Fr (λj=>chV p U mi bv j∨j=dq) w wr
theorem zmA {w0 w:World} (hg:q9 w0) {p s O:Nat} {bv:Value} {css:List (List Value)} {D:ChD} (h:qS w0 w p s U O bv css D) {KI:List zd} (hK:∀x,x∈KI↔∃v,(x,v)∈D.M) (aY:∀x v,(x,v)∈D.M→0<v) {o:Nat} {b:qs} {bcs:List Value}
  (hq:w.heap[o]? =some (.cells (bcs++[Value.slice none 0 0,Value.slice none 0 0]).toArray 207 (0,0))) (cD:¬chV p U O bv o) (cy:w0.heap.size≤o)
  {T:Nat→Prop} (hT:T o) (ct:∀j,T j→j<w.heap.size) (hb:Kept (λj=>chV p U O bv j∨T j) w (λw=>jE w b bcs)) (hok:vE b=true) (cI:qU D.S) (hN:D.S.length≤80000) (cp:D.bs.length≤100000) (cr:D.M.length≤1000000)
  (cx:∀(i:Nat) (d:yB) (cs:List Value),D.bs[i]? =some d→css[i]? =some cs→Kept (λj=>chV p U O bv j∨j=o) w (λw=>jF w d cs)):
  Calls prog 96 #[.pointer (some ⟨p,0,none⟩),.pointer (some ⟨o,0,none⟩)] w
   (DoP w0 w p s O U bv css D o T b (doR KI D.S b)):=by
 obtain⟨pa,pc,ta,tc,rfl⟩:=hb.now.form
 obtain⟨p8,dB,-⟩:=XJ hok
 have bW:=J hb.now.oks
 obtain⟨a7,a8⟩:=zhw hb
 have b8:=J a7
 have cc:=J a8
 have HB:=J hb
 have HQ:=@J (w.heap[o]? =some (.cells #[.int .u64 b.tag,.slice pa b.pay.length pc,.slice ta b.txs.length tc,.slice none 0 0,.slice none 0 0] 207 (0,0))) (hq)
 obtain⟨dC,uC,rC⟩:=zbx
 obtain⟨dG,uG,rG⟩:=zgW
 have zH:=yS
 have zG:=zho
 have zC:=zcp
 have zT:=jZ
 have HC:=J h
 have G0:=J hg
 have NQ:=J cD
 have LQ:=J cy
 have aH:=J hK
 have b0:=J aY
 have S:=J h.hi
 have QL:=J (yF hq)
 have QT:=@J (∀j,j=o→T j) (λj e=>e▸hT)
 have TL:=J ct
 have c0:=J hok
 have dp:=J (zcq.start cI h.set.ok KI)
 have aI:=J (And.intro hN (And.intro cp cr))
 have HK:=J cx
 have bV:=J h.fr
 have c2:=(VD (zq hq)).2.2.1
 clear h hg hq cD cy hb hT ct hok cx hK aY a7 a8 cI hN cp cr
 go_enter Tryz.func96,Tryz.ntmps96
 go_wp2_with fail
 clear c2
 go_loopw [25] (λiv wr=>∃n:Nat,iv=.int .i64 n∧n≤b.txs.length∧DoL w0 w p s O U bv css D o T b (.int .u64 b.tag) (.slice pa b.pay.length pc) (.slice ta b.txs.length tc) KI n wr) (λiv _=>b.txs.length-(intOf iv).toNat)
 case atStart=>exact⟨0,rfl,zero_le _,st0 D.S,D.M,.slice none 0 0,.slice none 0 0,[],rfl,dp.o,⟨λx v=>by simp[st0],λx hx=>by simp[st0] at hx⟩,le_refl _,HC.o,HQ.o,World.ownsRow_nil _ _ _ 32,jR.nil _ _ _ _ _ _,(λj e=>by cases e),Fr.refl _ _⟩
 case round=>
  obtain⟨n,rfl,hn,q,M,iv,cv,ds,aZ,bB,R,cC,bx,aE,aO,aN,aW,fr⟩:=hrel
  have FR:=J fr
  have bw:=J aZ
  have F:=J bB
  have Z:=J R
  have cd:=J cC
  have CH:=J bx
  have BQ:=J aE
  have OI:=J aO
  have KR:=J aN
  have bf:=J aW
  obtain⟨W,X,du⟩:=aO.slice.arg.form
  subst du
  obtain⟨G,H,cu⟩:=aN.form
  rw[bB.cl] at cu
  subst cu
  have NI:=@J (∀j,(Value.slice W n X).ownBlock=some j→w.heap.size≤j∧j<wr.heap.size) (λj m=>aO.lt j m)
  have NC:=@J (∀j,(Value.slice G n H).ownBlock=some j→w.heap.size≤j∧j<wr.heap.size) (λj m=>aN.lt j m)
  have GW:=J (G0.o.keep0 bx.fr)
  clear fr aZ bB R cC bx aE aO aN aW
  by_cases aq:n<b.txs.length
  ·have i1:(n:Int)<(b.txs.length:Int):=by omega
   obtain⟨t,hx⟩:∃x,b.txs[n]? =some x:=⟨_,getElem?_eq_getElem aq⟩
   have HX:=J hx
   have bP:=@J (b.txs.drop n=t::b.txs.drop (n+1)) (by rw[List.drop_eq_getElem_cons aq,(List.getElem?_eq_some_iff.1 hx).2])
   obtain⟨bb,off,dr,ts,dx,-,cE,aM⟩:=VF (by decide) (λ_ _ _ h=>TxQ.len3' h) (cc.o.same (FR.o.mono (λj e=>e.imp_right (QT.o j)))) hx
   cases dx
   obtain⟨ja,jc,ka,kc,rfl⟩:=cE.form
   have bY:=J aM
   have R1:=J aM.now.1
   have FA:=J ((frN wr).alloc (.cells #[.int .u32 t.ver,.slice ja t.ins.length jc,.slice ka t.outs.length kc] 34))
   have RA:=J (qW wr t.ver (.slice ja t.ins.length jc) (.slice ka t.outs.length kc)).2.2.2
   have QA:=@J ((wr.alloc (.cells #[.int .u32 t.ver,.slice ja t.ins.length jc,.slice ka t.outs.length kc] 34)).heap.size=wr.heap.size+1) (by simp)
   have CK:=J (XK _ (show TxQ (wr.alloc (.cells #[.int .u32 t.ver,.slice ja t.ins.length jc,.slice ka t.outs.length kc] 34)) t [.int .u32 t.ver,.slice ja t.ins.length jc,.slice ka t.outs.length kc] from(aM _ FA.o.of0).2))
   have bh:=@J (∀E,txE KI q t=E→E≠0→∀w',qS w0 w' p s U O bv css ⟨q.S,D.bs,M⟩→Fr U wr w'→DoP w0 w p s O U bv css D o T b (doR KI D.S b) (.returned (.int .i64 E)) w') (λE hE cq w' hc f=>by
    have hr:runT KI b.txs (st0 D.S)=(E,q):=by rw[bw.o,bP.o,VH (by rw[hE];exact cq),hE]
    rw[zkV hr cq]
    have hU:∀j,U j→j<w.heap.size:=λj m=>S.o j (.inr (.inl m))
    refine⟨M,Z.o,rfl,hc,FR.o.trans f (λj _ e=>.inl (.inr (.inl e))),rfl,_,f.obj BQ.o (λe=>NQ.o (.inr (.inl e))),?_⟩
    exact zaj (bcs:=[_,_,_]) (HB.o.same ((FR.o.trans f (λj _ e=>.inl (.inr (.inl e)))).mono (λj e=>e.imp_right (QT.o j)))) (by rw[F.o.il];exact zb OI.o f (λj m e=>by have:=(NI.o j m).1;have:=hU j e;omega)) F.o.iok (KR.o.fr f (λj _ e=>.inl (.inl (.inr (.inl e)))) (λj m e=>by have:=(NC.o j m).1;have:=hU j e;omega)) (λj e=>.inl e) (λj e=>e.elim (λe=>S.o j e) (λe=>TL.o j e)) (by rw[F.o.cl];omega))
   have c7:=J (λ(w':World) (f:Fr No wr w')=>Xq (GW.o.keep0 f) (show TxQ w' t [.int .u32 t.ver,.slice ja t.ins.length jc,.slice ka t.outs.length kc] from(bY.o _ f.of0).2))
   clear cE aM hx
   by_cases hck:yC t=0
   rotate_left
   ·have e0:(yC t==0)=false:=by simpa using hck
    have e1:(yC t !=0)=true:=by simpa using hck
    have ah:=J (λ(w':World) (f:Fr No wr w')=>bh.o (yC t) (by unfold txE;rw[if_neg hck]) hck w' (CH.o.fr0 f) f.of0)
    clear hck
    have⟨K0,K1,K2,K3⟩:=tZ4
    go_wp2_with ((first|((with_reducible refine zt ?_);first|(clear K0;refine zoa rfl rfl rfl R1.o rfl ?_)|(clear K2;refine zoa rfl rfl rfl RA.o rfl ?_))|((with_reducible refine zv ?_);clear K1;refine zi rfl (zj (w:=wr) (ty:=34) (cs:=[.int .u32 t.ver,.slice ja t.ins.length jc,.slice ka t.outs.length kc]) rfl rfl rfl rfl y5 (qM rfl rfl rfl)) ?_;generalize wr.alloc (.cells #[.int .u32 t.ver,.slice ja t.ins.length jc,.slice ka t.outs.length kc] 34)=wA at*)|(clear K3;go_at_call 32;refine CK.o.mono ?_;rintro e wB ⟨rfl,f2⟩;have FB:=J (FA.o.trans0 f2);clear f2));go_frame)
    go_ret
    exact ah.o _ FB.o
   have e0:(yC t==0)=true:=by simpa using hck
   have e1:(yC t !=0)=false:=by simpa using hck
   have bk:=J hck
   have HL:=J (zx (qC t))
   clear hck
   have⟨K0,K1,K2,K3,K4,K5,K6⟩:=tZ7
   go_wp2_with ((first|((with_reducible refine zt ?_);first|(clear K0;refine zoa rfl rfl rfl R1.o rfl ?_)|(clear K2;refine zoa rfl rfl rfl RA.o rfl ?_)|(clear K4;refine zoa rfl rfl rfl RB.o rfl ?_))|((with_reducible refine zv ?_);first|(clear K1;refine zi rfl (zj (w:=wr) (ty:=34) (cs:=[.int .u32 t.ver,.slice ja t.ins.length jc,.slice ka t.outs.length kc]) rfl rfl rfl rfl y5 (qM rfl rfl rfl)) ?_;generalize wr.alloc (.cells #[.int .u32 t.ver,.slice ja t.ins.length jc,.slice ka t.outs.length kc] 34)=wA at*)|(clear K6;refine zol (w:=wC) (cs:=zf (idH t)) rfl rfl rfl rfl HL.o zU ?_;generalize wC.alloc (.cells (zf (idH t)).toArray 41)=wD at*;generalize dA:wC.heap.size=q8 at*))|(clear K3;go_at_call 32;refine CK.o.mono ?_;rintro e wB ⟨rfl,f2⟩;have FB:=J (FA.o.trans0 f2);have RB:=J (za RA.o f2 _root_.id);have S2:=J f2.size;clear f2)|(clear K5;go_at_call 15;refine(c7.o wB FB.o).mono ?_;rintro e wC ⟨rfl,f3⟩;have FC:=J (FB.o.trans0 f3);have RC:=J (za RB.o f3 _root_.id);have S3:=J f3.size;clear f3;have bS:=J ((frN wC).alloc (.cells (zf (idH t)).toArray 41));have cL:=J (yj wC (.cells (zf (idH t)).toArray 41))));go_frame)
   have FE:=J ((FC.o.trans0 bS.o).trans0 (frN wD).drew)
   have RE:=J (za (za RC.o bS.o _root_.id) (frN wD).drew _root_.id)
   have B8:=J ((frN wD).drew.obj cL.o _root_.id)
   have R8:=@J (wD.drew.rangeAt q8 0 (zf (idH t))) (by have:=zq B8.o;simpa using this)
   have Y:=J (CH.o.fr0 FE.o)
   have Q8:=@J (wr.heap.size<q8∧q8<wD.drew.heap.size) (⟨by have:=QA.o;have:=S2.o;have:=S3.o;omega,yF B8.o⟩)
   obtain⟨v,hv1,hv2⟩:∃v:Int,(Instr.lookup 120 (.map (some O)) (y7 (idH t)) false).run prog wD.drew=.ok (.int .i64 v) wD.drew∧(0<v↔idH t∈KI∨idH t∈q.ids):=by
    by_cases Q:∃v,(idH t,v)∈M
    ·obtain⟨v,hm⟩:=Q
     have:=Y.o.map.look xR.keyed Zt (λ_ _=>y3) YB (yu (qC t)) false (r:=some v) (λv'=>⟨λe=>by rw[←Option.some.inj e];exact hm,λh'=>by rw[Y.o.map.uniq hm h']⟩)
     refine⟨v,by simpa using this,?_⟩
     rcases(Z.o.1 _ _).1 hm with h|⟨h,e⟩
     ·exact⟨λ_=>.inl ((aH.o _).2 ⟨v,h⟩),λ_=>b0.o _ _ h⟩
     ·exact⟨λ_=>.inr h,λ_=>by omega⟩
    ·have:=Y.o.map.look xR.keyed Zt (λ_ _=>y3) YB (yu (qC t)) false (r:=none) (λv'=>⟨λe=>(by cases e),λh'=>absurd ⟨v',h'⟩ Q⟩)
     refine⟨0,by simpa using this,⟨λe=>(by omega),λe=>?_⟩⟩
     exfalso
     apply Q
     rcases e with e|e
     ·obtain⟨v,hv⟩:=(aH.o _).1 e
      exact⟨v,(Z.o.1 _ _).2 (.inl hv)⟩
     ·exact⟨_,(Z.o.1 _ _).2 (.inr ⟨e,rfl⟩)⟩
   have LK:=J hv1
   have bm:=J hv2
   have cQ:=J Y.o.cells.2.2
   clear hv1 hv2
   refine wrLx [ff,ff,ff,ff,ff,ff,ff] (λw'=>w'.cell? ⟨p,2,none⟩=some (.map (some O))∧w'.rangeAt q8 0 (zf (idH t))∧(Instr.lookup 120 (.map (some O)) (y7 (idH t)) false).run prog w'=.ok (.int .i64 v) w') ?_ (λK hK=>?_)
   ·exact⟨cQ.o,R8.o,LK.o⟩
   generalize wD.drew=z8 at*
   repeat((first|(refine zl rfl ?_;constructor;constructor;(focus(first|exact zog rfl (λw h=>h.2.1) HL.o|exact λw' h=>zM (t:=120) rfl rfl rfl h.2.2|(rintro w' ⟨s1,s2,s3⟩;exact goS))))|(refine zm rfl ?_));try simp only[Act.put,pA,pB,pC])
   refine zL (hK.out _ _ ?_)
   by_cases Q:idH t∈KI∨idH t∈q.ids
   ·have j3:0<v:=bm.o.2 Q
    have ah:=J (bh.o 19 (by unfold txE;rw[if_pos bk.o,if_pos Q]) (by decide) z8 Y.o FE.o.of0)
    clear Q
    go_wp2_with fail
    go_ret
    exact ah.o
   have j3:¬0<v:=λe=>Q (bm.o.1 e)
   have bp:=@J (idH t∉KI∧idH t∉q.ids) (⟨λe=>Q (.inl e),λe=>Q (.inr e)⟩)
   have cm:=@J (txE KI q t=spE q.S t) (by unfold txE;rw[if_pos bk.o,if_neg Q])
   clear Q LK bm
   have SL:=@J (q.S.length≤90000) (by have:=F.o.len;have:=aI.o.1;omega)
   have SP:=J (ziA (GW.o.keep0 FE.o) Y.o.obj Y.o.up Y.o.set (t:=t) (cs:=[.int .u32 t.ver,.slice ja t.ins.length jc,.slice ka t.outs.length kc]) (λw' f=>(bY.o w' (FE.o.of0.trans f (λj _ e=>.inl (.inr (.inl e))))).2) bk.o SL.o)
   by_cases R:spE q.S t=0
   rotate_left
   ·have ah:=@J (∀w',CS w0 w' s U (spS q.S t)→Fr U z8 w'→DoP w0 w p s O U bv css D o T b (doR KI D.S b) (.returned (.int .i64 (spE q.S t))) w') (λw' hc f=>by
     have e:spS q.S t=q.S:=by unfold spS;rw[if_neg R]
     rw[e] at hc
     exact bh.o (spE q.S t) cm.o R w' (Y.o.setS hc f) (FE.o.of0.trans f (λ_ _ e=>e)))
    have e2:(spE q.S t==0)=false:=by simpa using R
    have e3:(spE q.S t !=0)=true:=by simpa using R
    clear R
    have⟨K0,K1,K2⟩:=tZ3
    go_wp2_with ((first|((with_reducible refine zt ?_);clear K0;refine zoa rfl rfl rfl RE.o rfl ?_)|(clear K1;go_at_call 134;refine SP.o.mono ?_;rintro e wE ⟨sa,sn,sc,ma,mn,mc,rfl,aD,f9,-⟩;have bl:=J aD;have F9:=J f9;clear aD f9)|((with_reducible refine zv ?_);clear K2;refine zi rfl (zj (w:=wE) (ty:=250) (cs:=[.slice sa sn sc,.slice ma mn mc]) rfl rfl rfl rfl vD (ze2 rfl rfl)) ?_));go_frame)
    go_ret
    exact ah.o _ (bl.o.fr0 ((frN wE).alloc _)) (F9.o.trans0 ((frN wE).alloc _))
   have e2:(spE q.S t==0)=true:=by simpa using R
   have e3:(spE q.S t !=0)=false:=by simpa using R
   have b6:=J R
   clear R
   have⟨K0,K1,K2⟩:=tZ3
   go_wp2_with ((first|((with_reducible refine zt ?_);clear K0;refine zoa rfl rfl rfl RE.o rfl ?_)|(clear K1;go_at_call 134;refine SP.o.mono ?_;rintro e wE ⟨sa,sn,sc,ma,mn,mc,rfl,aD,f9,cw⟩;have bl:=J aD;have F9:=J f9;have cY:=J (cw b6.o (λj=>j<z8.heap.size) (λ_ h=>h));clear aD f9 cw;have FF:=J ((frN wE).alloc (.cells [.slice sa sn sc,.slice ma mn mc].toArray 250));have BF:=J (yj wE (.cells [.slice sa sn sc,.slice ma mn mc].toArray 250)))|((with_reducible refine zv ?_);clear K2;refine zi rfl (zj (w:=wE) (ty:=250) (cs:=[.slice sa sn sc,.slice ma mn mc]) rfl rfl rfl rfl vD (ze2 rfl rfl)) ?_;generalize wE.alloc (.cells [.slice sa sn sc,.slice ma mn mc].toArray 250)=wF at*;generalize cF:wE.heap.size=al at*));go_frame)
   have cn:=@J (txE KI q t=0) (cm.o.trans b6.o)
   have UV:=@J (∀j,U j→j<w.heap.size) (λj m=>S.o j (.inr (.inl m)))
   have FZ:=J (FF.o.trans0 (frN wF).drew)
   have bU:=@J (Fr U wr wF.drew) ((FE.o.of0.trans F9.o (λ_ _ e=>e)).trans0 FZ.o)
   have ad:=J ((Y.o.setS bl.o F9.o).fr0 FZ.o)
   have W8:=@J (w.heap.size≤wr.heap.size) (FR.o.size)
   have aU:=J (za (za R8.o F9.o (λe=>by have:=UV.o _ e;have:=Q8.o.1;have:=W8.o;omega)) FZ.o _root_.id)
   have bF:=J ((frN wF).drew.obj BF.o _root_.id)
   have dh:=@J (wF.drew.rangeAt al 0 [.slice sa sn sc,.slice ma mn mc]) (by have:=zq bF.o;simpa using this)
   have aL:=@J (z8.heap.size≤al∧al<wF.drew.heap.size) (⟨by rw[←cF];exact F9.o.size,yF bF.o⟩)
   have cR:=@J (∃ba bc,bv=.slice ba D.bs.length bc) (ad.o.row.slice.arg.form)
   obtain⟨ba,bc,dt⟩:=cR.o
   have cP:=@J (wF.drew.cell? ⟨p,1,none⟩=some (.slice ba D.bs.length bc)) (by rw[←dt];exact ad.o.cells.2.1)
   have bO:=J ad.o.cells.2.2
   obtain⟨wG,M',cH,cz,a6,bC,aX⟩:=ad.o.map.upd xR.keyed Zt (λ_ _=>y3) (yu (qC t)) (by unfold maxLen;show M.length<_;have:=cd.o;have:=aI.o.2.2;omega) ((D.bs.length:Int)+1)
   have b7:=J cH
   have cN:=@J (qS w0 wG p s U O bv css ⟨spS q.S t,D.bs,M'⟩) (ad.o.setM cz bC.fr)
   have FG:=J bC.fr
   have dn:=@J (zee D.bs.length D.M M' (q.ids++[idH t])) (⟨λx v=>by
    rw[a6 x v]
    simp only[mem_append,mem_singleton]
    constructor
    ·rintro(⟨e1,e2⟩|⟨e1,e2⟩)
     ·exact .inr ⟨.inr e1,e2⟩
     ·exact((Z.o.1 x v).1 e2).imp_right (λ⟨a,b⟩=>⟨.inl a,b⟩)
    ·rintro(e|⟨e1|e1,e2⟩)
     ·refine .inr ⟨λex=>?_,(Z.o.1 x v).2 (.inl e)⟩
      subst ex
      exact bp.o.1 ((aH.o _).2 ⟨v,e⟩)
     ·refine .inr ⟨λex=>?_,(Z.o.1 x v).2 (.inr ⟨e1,e2⟩)⟩
      subst ex
      exact bp.o.2 e1
     ·exact .inl ⟨e1,e2⟩,λx hx v hm=>by
    rcases mem_append.1 hx with hx|hx
    ·exact Z.o.2 x hx v hm
    ·simp at hx;subst hx;exact bp.o.1 ((aH.o _).2 ⟨v,hm⟩)⟩)
   have c9:=@J (M'.length≤D.M.length+(n+1)) (by have h1:M'.length≤M.length+1:=aX;have:=cd.o;omega)
   clear cH cz a6 bC aX
   unfold y7 zkj at b7
   have WR:=@J (IntKind.i64.wrap ((D.bs.length:Int)+1)=(D.bs.length:Int)+1) (IntWalk.i64_in _ (by have:=aI.o.2.1;omega))
   have dy:=WR.o
   refine yp [ff,ff,ff,ff,ff,ff,ff,ff,ff,ff,ff,tt] (λw'=>w'.cell? ⟨p,2,none⟩=some (.map (some O))∧w'.rangeAt q8 0 (zf (idH t))∧w'.cell? ⟨p,1,none⟩=some (.slice ba D.bs.length bc)) (by kernel_rfl) (by kernel_rfl) 11 (by kernel_rfl) (by kernel_rfl) ?_ (λK hK=>?_)
   ·exact⟨bO.o,aU.o,cP.o⟩
   generalize wF.drew=dE at*
   repeat((first|(refine yb rfl ?_;constructor;constructor;(focus(first|exact zog rfl (λw h=>h.2.1) HL.o|(rintro w' ⟨s1,s2,s3⟩;exact goS))))|(refine yc rfl ?_));try simp only[Act.put,pA,pB,pC])
   (refine ya rfl (λK' hK'=>?_))
   refine yN (y4 rfl rfl rfl rfl b7.o) ?_
   refine hK'.out _ _ (λh=>absurd rfl h) (λhS=>?_)
   refine xA (hK.out _ _ ?_)
   clear dy
   go_wp2_with fail
   have MI:=@J (O<w.heap.size) (S.o O (.inr (.inr (.inl rfl))))
   have ab:=J (frN wG).drew
   have FX:=@J (Fr (λj=>U j∨j=O) wr wG.drew) (((bU.o.mono (λj e=>.inl e)).trans FG.o (λj _ e=>.inr e)).trans0 ab.o)
   have XW:=@J (∀j,(U j∨j=O)→j<w.heap.size∧chV p U O bv j) (λj e=>e.elim (λe=>⟨UV.o j e,.inr (.inl e)⟩) (λe=>by rw[e];exact⟨MI.o,.inr (.inr (.inl rfl))⟩))
   have aP:=J (FX.o.obj BQ.o (λe=>NQ.o (XW.o _ e).2))
   have cg:=J (zb OI.o FX.o (λj m e=>by have:=(NI.o j m).1;have:=(XW.o j e).1;omega))
   have b9:=J (KR.o.fr FX.o (λj _ e=>.inl (.inl (XW.o j e).2)) (λj m e=>by have:=(NC.o j m).1;have:=(XW.o j e).1;omega))
   have aB:=J (za (za aU.o FG.o (λe=>by have:=MI.o;have:=W8.o;have:=Q8.o.1;omega)) ab.o _root_.id)
   have bt:=J (za (za dh.o FG.o (λe=>by have:=MI.o;have:=W8.o;have:=Q8.o;have:=aL.o.1;omega)) ab.o _root_.id)
   have bM:=J (cN.o.fr0 ab.o)
   have dj:=@J (z8.heap.size≤wE.heap.size∧wE.heap.size≤wG.drew.heap.size) (⟨F9.o.size,by have:=FZ.o.size;have:=FG.o.size;have:=ab.o.size;omega⟩)
   have aQ:=@J (wG.drew.cell? ⟨o,3,none⟩=some (.slice W n X)) (by have:=zq aP.o 3 _ rfl;simpa using this)
   refine yp [ff,ff,ff,ff,ff,ff,tt,tt,ff,ff,tt] (λw'=>w'.cell? ⟨o,3,none⟩=some (.slice W n X)∧w'.rangeAt q8 0 (zf (idH t))) (by kernel_rfl) (by kernel_rfl) 10 (by kernel_rfl) (by kernel_rfl) ?_ (λK hK=>?_)
   ·exact⟨aQ.o,aB.o⟩
   generalize wG.drew=an at*
   have aV:=@J (w.heap.size≤an.heap.size) (by have:=FX.o.size;have:=W8.o;omega)
   obtain⟨v5,C,a1,a2,a3,-,a5⟩:=yY (P:=prog) an w.heap.size 38 38 41 32 32 _ xP qm (by show(zf yR).toArray.size=32;rfl) (by decide) cg.o (zf (idH t)) HL.o zU (by omega) (by unfold maxLen;omega) aV.o
   obtain⟨A,B,bD⟩:=a2.slice.arg.form
   subst bD
   have A1:=J a1
   have O5:=@J (C.ownsRow w.heap.size 41 32 (.slice A (n+1) B) (n+1) ((q.ids++[idH t]).flatMap zf)) (by rw[flatMap_append];simpa using a2)
   have A5:=J a5
   have av:=J (a3.obj aP.o (λe=>by have:=(NI.o _ e).1;have:=QL.o;omega))
   have C5:=@J (C.cell? ⟨o,3,none⟩=some (.slice W n X)) (by have:=zq av.o 3 _ rfl;simpa using this)
   have di:=J (za aB.o a3 (λe=>by have h1:q8<wr.heap.size:=(NI.o _ e).2;have:=Q8.o.1;omega))
   have ch:=J (za bt.o a3 (λe=>by have h1:al<wr.heap.size:=(NI.o _ e).2;have:=aL.o.1;have:=Q8.o;omega))
   have fz:=yn (i:=3) av.o
   have fs:Fr (λj=>j=o) C (C.setCell ⟨o,3,none⟩ (.slice A (n+1) B)):=(Fr.refl (λj=>j=o) C).setCell ⟨o,3,none⟩ (.inr rfl) _
   have bR:=@J (Fr (λj=>(Value.slice W n X).ownBlock=some j∨j=o) an (C.setCell ⟨o,3,none⟩ (.slice A (n+1) B))) ((a3.mono (λj e=>.inl e)).trans fs (λj _ e=>.inr e))
   have dc:=J (zb O5.o fs (λj m e=>by have:=(O5.o.lt j m).1;have:=QL.o;omega))
   have bG:=@J ((C.setCell ⟨o,3,none⟩ (.slice A (n+1) B)).heap[o]? =some (.cells #[.int .u64 b.tag,.slice pa b.pay.length pc,.slice (some ⟨bb,off,none⟩) b.txs.length tc,.slice A (n+1) B,.slice G n H] 207 (0,0))) (by have:=heap_setCell_same C o 3 _ _ (.slice A (n+1) B) av.o;simpa using this)
   have bu:=J (za ch.o fs (λe=>by have:=aL.o.1;have:=Q8.o;have:=QL.o;have:=W8.o;omega))
   have NV:=@J (∀j,j<an.heap.size→(Value.slice A (n+1) B).ownBlock=some j→(Value.slice W n X).ownBlock=some j) (λj m e=>(A5.o j e).resolve_right (by omega))
   have ca:=@J (jR w.heap.size 250 2 zdn (λj=>(chV p U O bv j∨T j)∨(Value.slice A (n+1) B).ownBlock=some j) (C.setCell ⟨o,3,none⟩ (.slice A (n+1) B)) (.slice G n H) q.chg ds) (by
    have k1:=b9.o.vary (V':=λj=>(chV p U O bv j∨T j)∨(Value.slice W n X).ownBlock=some j∨(Value.slice A (n+1) B).ownBlock=some j) (λj m e=>e.imp_right (λe=>e.elim id (NV.o j m)))
    have k2:=k1.fr bR.o (λj _ e=>e.elim (λe=>.inr (.inl e)) (λe=>.inl (.inr (QT.o j e)))) (λj m e=>e.elim (λe=>bf.o j e m) (λe=>by have:=(NC.o j m).1;have:=QL.o;omega))
    exact k2.vary (λj _ e=>e.imp_right .inr))
   have ay:=@J (∀j,(Value.slice A (n+1) B).ownBlock=some j→(Value.slice G n H).ownBlock=some j→False) (λj h1 h2=>(A5.o j h1).elim (λh=>bf.o j h h2) (λh=>by have:=(NC.o j h2).2;have:=FX.o.size;omega))
   have KS:=@J (∀w',Fr No an w'→w'.cell? ⟨o,3,none⟩=some (.slice W n X)∧w'.rangeAt q8 0 (zf (idH t))) (λw' f=>⟨f.cell aQ.o _root_.id,za aB.o f _root_.id⟩)
   clear a1 a2 a3 a5 fs
   repeat((first|(refine yb rfl ?_;constructor;constructor;(focus(first|exact zog rfl (λw h=>h.2) HL.o|(rintro w' ⟨s1,s2⟩;exact goS))))|(refine yc rfl ?_));try simp only[Act.put,pA,pB,pC])
   (refine ya rfl (λK' hK'=>?_))
   refine yg (zS (t:=38) rfl rfl xP qK rfl (by decide) (by decide) HL.o) ?_
   refine hK'.out _ _ (λ_=>?_) (λhS=>?_)
   ·exact KS.o _ ((frN an).alloc _)
   try simp only[Act.put,pA,pB,pC]
   (refine ya rfl (λK' hK'=>?_))
   refine yr rfl rfl rfl A1.o ?_
   refine hK'.out _ _ (λ_=>?_) (λhS=>?_)
   ·exact⟨C5.o,di.o⟩
   try simp only[Act.put,pA,pB,pC]
   repeat((first|(refine yb rfl ?_;constructor;constructor;(focus(first|(rintro w' ⟨s1,s2⟩;exact goS))))|(refine yc rfl ?_));try simp only[Act.put,pA,pB,pC])
   (refine ya rfl (λK' hK'=>?_))
   go_simp
   refine hK'.out _ _ (λh=>absurd rfl h) (λhS=>?_)
   refine xA (hK.out _ _ ?_)
   clear fz
   generalize C.setCell ⟨o,3,none⟩ (.slice A (n+1) B)=bE at*
   go_wp2_with fail
   have ae:=J (frN bE).drew
   have ar:=J (ae.o.obj bG.o _root_.id)
   have aR:=@J (bE.drew.cell? ⟨o,4,none⟩=some (.slice G n H)) (by have:=zq ar.o 4 _ rfl;simpa using this)
   have aj:=J (za bu.o ae.o _root_.id)
   have cb:=J (ca.o.fr0 ae.o)
   have cf:=J (zb dc.o ae.o (λ_ _=>_root_.id))
   refine yp [ff,ff,ff,ff,ff,ff,tt,tt,ff,ff,tt] (λw'=>w'.cell? ⟨o,4,none⟩=some (.slice G n H)∧w'.rangeAt al 0 [.slice sa sn sc,.slice ma mn mc]) (by kernel_rfl) (by kernel_rfl) 10 (by kernel_rfl) (by kernel_rfl) ?_ (λK hK=>?_)
   ·exact⟨aR.o,aj.o⟩
   generalize bE.drew=aF at*
   have bj:=J (bR.o.trans0 ae.o)
   have bT:=@J (Fr (λj=>j<z8.heap.size) wE aF) (((FZ.o.of0.trans FG.o (λj _ e=>by rw[e];have:=MI.o;have:=W8.o;have:=Q8.o;omega)).trans0 ab.o).trans bj.o (λj _ e=>by
    have:=Q8.o
    rcases e with e|e
    ·have:=(NI.o j e).2;omega
    ·rw[e];have:=QL.o;have:=W8.o;omega))
   have KC:=@J (Kept (λj=>((chV p U O bv j∨T j)∨(Value.slice A (n+1) B).ownBlock=some j)∨(Value.slice G n H).ownBlock=some j) aF (λw=>zdn w (spG q.S t) [.slice sa sn sc,.slice ma mn mc])) (cY.o.step bT.o (λj m e=>by
    have:=Q8.o
    have:=W8.o
    rcases e with((e|e)|e)|e
    ·have:=S.o j e;omega
    ·have:=TL.o j e;omega
    ·have:=(NI.o j (NV.o j (by have:=dj.o.2;omega) e)).2;omega
    ·have:=(NC.o j e).2;omega))
   have dk:=@J (w.heap.size≤aF.heap.size) (by have:=aV.o;have:=bj.o.size;omega)
   obtain⟨v6,w6,b1,b2,b3,b5⟩:=cb.o.append (P:=prog) (t:=205) (ty2:=205) (bytes:=48) zbk zeJ rfl (by decide) KC.o rfl (ze2 rfl rfl) (by rw[F.o.cl];omega) (by rw[F.o.cl];unfold maxLen;omega) dk.o
   obtain⟨I,N,ak⟩:=b2.form
   rw[length_append,F.o.cl] at ak
   simp only[length_singleton] at ak
   subst ak
   have B1:=J b1
   have B5:=J b5
   have K6:=J b2
   have ag:=J (b3.obj ar.o (λe=>by have:=(NC.o _ e).1;have:=QL.o;omega))
   have C6:=@J (w6.cell? ⟨o,4,none⟩=some (.slice G n H)) (by have:=zq ag.o 4 _ rfl;simpa using this)
   have cj:=J (za aj.o b3 (λe=>by have h1:al<wr.heap.size:=(NC.o _ e).2;have:=aL.o.1;have:=Q8.o;omega))
   have fz:=yn (i:=4) ag.o
   have fs:Fr (λj=>j=o) w6 (w6.setCell ⟨o,4,none⟩ (.slice I (n+1) N)):=(Fr.refl (λj=>j=o) w6).setCell ⟨o,4,none⟩ (.inr rfl) _
   have bq:=J (zb (zb cf.o b3 (λj m e=>ay.o j m e)) fs (λj m e=>by have:=(O5.o.lt j m).1;have:=QL.o;omega))
   have au:=@J ((w6.setCell ⟨o,4,none⟩ (.slice I (n+1) N)).heap[o]? =some (.cells #[.int .u64 b.tag,.slice pa b.pay.length pc,.slice (some ⟨bb,off,none⟩) b.txs.length tc,.slice A (n+1) B,.slice I (n+1) N] 207 (0,0))) (by have:=heap_setCell_same w6 o 4 _ _ (.slice I (n+1) N) ag.o;simpa using this)
   have bn:=J (K6.o.fr fs (λj _ e=>.inl (.inr (QT.o j e))) (λj m e=>by have:=(K6.o.lt j m).1;have:=QL.o;omega))
   have bg:=@J (∀j,(Value.slice A (n+1) B).ownBlock=some j→(Value.slice I (n+1) N).ownBlock=some j→False) (λj h1 h2=>(B5.o j h2).elim (λh=>ay.o j h1 h) (λh=>by have:=(cf.o.lt j h1).2;omega))
   have az:=@J (Fr (λj=>(Value.slice W n X).ownBlock=some j∨(Value.slice G n H).ownBlock=some j∨j=o) an (w6.setCell ⟨o,4,none⟩ (.slice I (n+1) N))) (((bj.o.mono (λj e=>e.elim .inl (λe=>.inr (.inr e)))).trans b3 (λj _ e=>.inr (.inl e))).trans fs (λj _ e=>.inr (.inr e)))
   have aa:=@J (Fr (λj=>chV p U O bv j∨j=o) w (w6.setCell ⟨o,4,none⟩ (.slice I (n+1) N))) ((FR.o.trans FX.o (λj _ e=>.inl (XW.o j e).2)).trans az.o (λj m e=>by
    rcases e with e|e|e
    ·have:=(NI.o j e).1;omega
    ·have:=(NC.o j e).1;omega
    ·exact .inr e))
   have ax:=J (bM.o.frV az.o (λj m e=>by
    have:=S.o j m
    rcases e with e|e|e
    ·have:=(NI.o j e).1;omega
    ·have:=(NC.o j e).1;omega
    ·exact NQ.o (e▸m)) (λj e=>by
    have:=bV.o.size
    rcases e with e|e|e
    ·have:=(NI.o j e).1;omega
    ·have:=(NC.o j e).1;omega
    ·rw[e];exact LQ.o) (λi d cs h1 h2 w' f=>HK.o i d cs h1 h2 w' (aa.o.trans (f.mono (λj m=>.inl m)) (λ_ _ h=>h))))
   have bo:=@J (∀w',Fr No aF w'→w'.cell? ⟨o,4,none⟩=some (.slice G n H)∧w'.rangeAt al 0 [.slice sa sn sc,.slice ma mn mc]) (λw' f=>⟨f.cell aR.o _root_.id,za aj.o f _root_.id⟩)
   clear b1 b2 b3 b5 fs
   repeat((first|(refine yb rfl ?_;constructor;constructor;(focus(first|exact xB (ty:=250) rfl (λw h=>h.2) uG rG vD|(rintro w' ⟨s1,s2⟩;exact goS))))|(refine yc rfl ?_));try simp only[Act.put,pA,pB,pC])
   (refine ya rfl (λK' hK'=>?_))
   refine yg (zS (t:=205) rfl rfl zbk zcV rfl (by decide) (by decide) rfl) ?_
   refine hK'.out _ _ (λ_=>?_) (λhS=>?_)
   ·exact bo.o _ ((frN aF).alloc _)
   try simp only[Act.put,pA,pB,pC]
   (refine ya rfl (λK' hK'=>?_))
   refine yr rfl rfl rfl B1.o ?_
   refine hK'.out _ _ (λ_=>?_) (λhS=>?_)
   ·exact⟨C6.o,cj.o⟩
   try simp only[Act.put,pA,pB,pC]
   repeat((first|(refine yb rfl ?_;constructor;constructor;(focus(first|(rintro w' ⟨s1,s2⟩;exact goS))))|(refine yc rfl ?_));try simp only[Act.put,pA,pB,pC])
   (refine ya rfl (λK' hK'=>?_))
   go_simp
   refine hK'.out _ _ (λh=>absurd rfl h) (λhS=>?_)
   refine xA (hK.out _ _ ?_)
   clear fz
   generalize w6.setCell ⟨o,4,none⟩ (.slice I (n+1) N)=dD at*
   go_wp2_with fail
   go_roundw
   case rel=>exact⟨n+1,by go_num,by omega,txS q t,M',.slice A (n+1) B,.slice I (n+1) N,_,by rw[bw.o,bP.o,zaz cn.o],F.o.step (bW.o.1 t (mem_of_getElem? HX.o)).2 cn.o,dn.o,c9.o,ax.o,au.o,bq.o,bn.o,bg.o,aa.o⟩
   case measure=>simp[intOf];omega
  ·have bz:n=b.txs.length:=by omega
   subst bz
   clear aq hn
   have i1:¬(b.txs.length:Int)<(b.txs.length:Int):=by omega
   have RF:=@J (runT KI b.txs (st0 D.S)=(0,q)) (by rw[bw.o,List.drop_length];rfl)
   have UV:=@J (∀j,U j→j<w.heap.size) (λj m=>S.o j (.inr (.inl m)))
   have RB:=@J (wr.rangeAt o 0 [.int .u64 b.tag,.slice pa b.pay.length pc,.slice ta b.txs.length tc]) (λj v m=>by
    refine zq BQ.o j v ?_
    match j,m with
    |0,m=>exact m
    |1,m=>exact m
    |2,m=>exact m)
   have GE:=J (Vg c0.o)
   have ID:=J (zag GW.o (HB.o wr (FR.o.mono (λj e=>e.imp_right (QT.o j)))))
   rw[GE.o.1] at ID
   have HH:=J (za6 b)
   have bX:=J (zx HH.o)
   have aJ:=J (zb1 b)
   have aK:=@J (∀c∈vK b,c.ok) (Vz HH.o bW.o.2 (by omega))
   have df:=@J (((vK b).map (·.at_)).Nodup) (QR _ _)
   have PE:=@J (vK b=ZJ (ZS b) b.pay) (rfl)
   have dm:=@J (q.S.length≤90000) (by have:=F.o.len;have:=aI.o.1;omega)
   have aT:=@J (jO q.S (vK b)≠0→∀w',qS w0 w' p s U O bv css ⟨q.S,D.bs,M⟩→Fr U wr w'→DoP w0 w p s O U bv css D o T b (doR KI D.S b) (.returned (.int .i64 10)) w') (λhE w' hc f=>by
    rw[zgY RF.o,if_neg hE]
    refine⟨M,Z.o,rfl,hc,FR.o.trans f (λj _ e=>.inl (.inr (.inl e))),rfl,_,f.obj BQ.o (λe=>NQ.o (.inr (.inl e))),?_⟩
    exact zaj (bcs:=[_,_,_]) (HB.o.same ((FR.o.trans f (λj _ e=>.inl (.inr (.inl e)))).mono (λj e=>e.imp_right (QT.o j)))) (by rw[F.o.il];exact zb OI.o f (λj m e=>by have:=(NI.o j m).1;have:=UV.o j e;omega)) F.o.iok (KR.o.fr f (λj _ e=>.inl (.inl (.inr (.inl e)))) (λj m e=>by have:=(NC.o j m).1;have:=UV.o j e;omega)) (λj e=>.inl e) (λj e=>e.elim (λe=>S.o j e) (λe=>TL.o j e)) (by rw[F.o.cl];omega))
   have⟨K0,K1,K2⟩:=tZ3
   go_wp2_with ((first|((with_reducible refine zt ?_);clear K0;refine zoe rfl rfl rfl RB.o rfl ?_)|(clear K1;go_at_call 94;refine ID.o.mono ?_;rintro e w2 ⟨rfl,f2⟩;have F2:=J f2;clear f2)|((with_reducible refine zv ?_);clear K2;refine zol (w:=w2) (cs:=zf (ZS b)) rfl rfl rfl rfl bX.o zU ?_;have F3:=J (F2.o.trans0 ((frN w2).alloc (.cells (zf (ZS b)).toArray 41)));have B3:=J (yj w2 (.cells (zf (ZS b)).toArray 41));generalize w2.alloc (.cells (zf (ZS b)).toArray 41)=w3 at*;generalize dz:w2.heap.size=q3 at*));go_frame)
   have FD:=J (F3.o.trans0 (frN w3).drew)
   have bK:=J (FD.o.obj BQ.o _root_.id)
   have cM:=J (VD (zq bK.o)).2.1
   have ck:=J (za (zq B3.o) (frN w3).drew _root_.id)
   have cZ:=@J (xu w3.drew (.slice pa b.pay.length pc) b.pay) (b8.o _ ((FR.o.trans0 FD.o).mono (λj e=>e.imp_right (QT.o j))))
   refine wrLx [ff,ff,ff,ff,ff,ff,tt,ff] (λw'=>w'.cell? ⟨o,1,none⟩=some (.slice pa b.pay.length pc)∧w'.rangeAt q3 0 (zf (ZS b))) ?_ (λK hK=>?_)
   ·exact⟨cM.o,ck.o⟩
   generalize w3.drew=w4 at*
   repeat((first|(refine zl rfl ?_;constructor;constructor;(focus(first|exact zog rfl (λw h=>h.2) bX.o|(rintro w' ⟨s1,s2⟩;exact goS))))|(refine zm rfl ?_));try simp only[Act.put,pA,pB,pC])
   (refine zF rfl (λK' hK'=>?_))
   go_simp
   refine(VA w4 HH.o cZ.o (by omega)).mono ?_
   rintro e w5 ⟨pv,rfl,o5,f5⟩
   rw[←PE.o] at o5
   have F5:=J (FD.o.trans0 f5)
   have av:=J (f5.obj bK.o _root_.id)
   have O5:=J o5
   have cK:=J (za ck.o f5 _root_.id)
   obtain⟨va,vc,dw⟩:=o5.slice.arg.form
   subst dw
   clear o5 f5
   refine nXt hK' ?_ λhS=>?_
   ·exact⟨(VD (zq av.o)).2.1,cK.o⟩
   try simp only[Act.put,pA,pB,pC]
   repeat((first|(refine zl rfl ?_;constructor;constructor;(focus(first|(rintro w' ⟨s1,s2⟩;exact goS))))|(refine zm rfl ?_));try simp only[Act.put,pA,pB,pC])
   refine zL (hK.out _ _ ?_)
   have aG:=J (CH.o.fr0 F5.o)
   have P5:=aG.o.cells.1
   have CI:=@J (qY w5 (.slice va b.pay.length vc) (vK b)) (⟨aK.o,by rw[aJ.o];exact O5.o.slice.arg⟩)
   have ao:=J (zhb aG.o.set CI.o (by rw[aJ.o];have:=dm.o;show _+q.S.length≤_;omega))
   by_cases hE:jO q.S (vK b)=0
   rotate_left
   ·have bQ:=@J (jO q.S (vK b)=10) (by
     unfold jO at hE⊢
     rw[if_pos df.o] at hE⊢
     split<;>simp_all)
    have dg:=@J (JM q.S (vK b)=q.S) (by unfold JM;rw[if_neg hE])
    have ah:=J (aT.o hE)
    have ai:=@J (Calls prog 135 #[.pointer (some ⟨s,0,none⟩),.slice va b.pay.length vc] w5 λe w'=>e=.returned (.int .i64 10)∧CS w0 w' s U q.S∧Fr U w5 w') (by have:=ao.o;rw[show jO (ChD.mk q.S D.bs M).S (vK b)=10 from bQ.o,show JM (ChD.mk q.S D.bs M).S (vK b)=q.S from dg.o] at this;exact this)
    clear hE ao bQ
    go_wp2_with (go_at_call 135;refine ai.o.mono ?_;rintro e w6 ⟨rfl,aC,f6⟩;have bd:=J (aG.o.setS aC f6);have F6:=J (F5.o.of0.trans f6 (λ_ _ e=>e));clear aC f6)
    go_ret
    exact ah.o _ bd.o F6.o
   ·have cX:=J hE
    have ai:=@J (Calls prog 135 #[.pointer (some ⟨s,0,none⟩),.slice va b.pay.length vc] w5 λe w'=>e=.returned (.int .i64 0)∧CS w0 w' s U (jV q.S (vK b))∧Fr U w5 w') (by have:=ao.o;rw[show jO (ChD.mk q.S D.bs M).S (vK b)=0 from hE,show JM (ChD.mk q.S D.bs M).S (vK b)=jV q.S (vK b) from by unfold JM;rw[if_pos (show jO (ChD.mk q.S D.bs M).S (vK b)=0 from hE)]] at this;exact this)
    clear hE ao aT
    have H4:=@J (w.heap.size≤wr.heap.size∧wr.heap.size≤w4.heap.size) (⟨FR.o.size,FD.o.size⟩)
    go_wp2_with (first|(go_at_call 135;refine ai.o.mono ?_;rintro e w6 ⟨rfl,aC,f6⟩;have bd:=J (aG.o.setS aC f6);have F6:=J (F5.o.of0.trans f6 (λ_ _ e=>e));have O6:=J (zb O5.o f6 (λj m hu=>by have:=(O5.o.lt j m).1;have:=UV.o j hu;have:=H4.o;omega));have L6:=J (le_trans F5.o.size f6.size);clear aC f6))
    have FA:=J ((frN w6).alloc (.cells #[.slice none 0 0,.slice none 0 0] 250))
    have BA:=J (yj w6 (.cells #[.slice none 0 0,.slice none 0 0] 250))
    have QA:=@J ((w6.alloc (.cells #[.slice none 0 0,.slice none 0 0] 250)).heap.size=w6.heap.size+1) (by simp)
    generalize w6.alloc (.cells #[.slice none 0 0,.slice none 0 0] 250)=w7 at*
    generalize cG:w6.heap.size=u at*
    have cV:=J (F6.o.trans0 FA.o)
    have O7:=J (zb O6.o FA.o (λ_ _=>_root_.id))
    have OL:=@J (∀j,(Value.slice va b.pay.length vc).ownBlock=some j→j<u) (λj m=>by rw[←cG];exact(O6.o.lt j m).2)
    go_loopw [112] (λiv wq=>∃(n:Nat) (mv:Value),iv=.int .i64 n∧n≤b.pay.length∧wq.heap[u]? =some (.cells #[.slice none 0 0,mv] 250 (0,0))∧wq.ownsRow w7.heap.size 95 33 mv n ((((vK b).map (·.at_)).take n).flatMap zn)∧Fr (λj=>j=u) w7 wq) (λiv _=>b.pay.length-(intOf iv).toNat)
    case atStart=>exact⟨0,.slice none 0 0,rfl,zero_le _,BA.o,World.ownsRow_nil _ _ _ 33,Fr.refl _ _⟩
    case round=>
     obtain⟨n,mv,rfl,hn,aE,bA,fr⟩:=hrel
     rename World=>wq
     have FQ:=J fr
     have bJ:=J aE
     have OR:=J bA
     obtain⟨ma,mc,dv⟩:=bA.slice.arg.form
     subst dv
     clear fr aE bA
     by_cases aq:n<b.pay.length
     ·have i1:(n:Int)<(b.pay.length:Int):=by omega
      obtain⟨c,hx⟩:∃x,(vK b)[n]? =some x:=⟨_,getElem?_eq_getElem (by rw[aJ.o];exact aq)⟩
      have bN:=J (aK.o c (mem_of_getElem? hx))
      have CL:=J (jT bN.o)
      have PL:=J (z6 bN.o.1)
      obtain⟨g,dr,hv,hr,-⟩:=JF (f:=yW) (k:=66) (L:=vK b) (by decide) (λx hx=>jT (aK.o x hx)) (show wq.ownsRow w4.heap.size 214 66 (.slice va b.pay.length vc) b.pay.length ((vK b).flatMap yW) from zb O7.o FQ.o (λj m e=>by have:=OL.o j m;omega)) hx
      cases hv
      have R1:=J hr
      have FB:=J ((frN wq).alloc (.cells (yW c).toArray 214))
      have RP:=J (zdu (zy wq (yW c) 214))
      have c4:=@J (((vK b).map (·.at_))[n]? =some c.at_) (by simp[hx])
      have bI:=J (FB.o.obj bJ.o _root_.id)
      obtain⟨v5,C,a1,a2,a3,a4,a5⟩:=yY (P:=prog) (wq.alloc (.cells (yW c).toArray 214)) w7.heap.size 91 91 95 33 36 _ YA QP (by show(zn xN).toArray.size=33;rfl) (by decide) (zb OR.o FB.o (λ_ _=>_root_.id)) (zn c.at_) PL.o yK (by omega) (by unfold maxLen;omega) (le_trans FQ.o.size FB.o.size)
      have A1:=J a1
      have br:=@J (C.ownsRow w7.heap.size 95 33 v5 (n+1) ((((vK b).map (·.at_)).take (n+1)).flatMap zn)) (by rw[YT zn c4.o];exact a2)
      have da:=@J (∀j,(Value.slice ma n mc).ownBlock=some j→j≠u) (λj m e=>by have:=(OR.o.lt j m).1;have:=QA.o;omega)
      have aw:=J (a3.obj bI.o (λe=>da.o _ e rfl))
      have cS:=@J (Fr (λj=>j=u) w7 C) ((FQ.o.trans0 FB.o).trans a3 (λj m e=>by have:=(OR.o.lt j e).1;omega))
      have db:=@J (∀j,v5.ownBlock=some j→j≠u) (λj m e=>by have:=(br.o.lt j m).1;have:=QA.o;omega)
      have cA:(wq.alloc (.cells (yW c).toArray 214)).cell? ⟨u,1,none⟩=some (.slice ma n mc):=by have:=zq bI.o 1 _ rfl;simpa using this
      have cB:C.cell? ⟨u,1,none⟩=some (.slice ma n mc):=by have:=zq aw.o 1 _ rfl;simpa using this
      have fB:=yn (i:=1) aw.o
      clear hr a1 a2 a3 a4 a5
      obtain⟨A,B,bD⟩:=br.o.slice.arg.form
      subst bD
      have c6:=J (heap_setCell_same C u 1 _ _ (.slice A (n+1) B) aw.o)
      have cU:=@J (Fr (λj=>j=u) w7 (C.setCell ⟨u,1,none⟩ (.slice A (n+1) B))) (cS.o.setCell _ (.inr rfl) _)
      have de:=J (zb br.o (show Fr (λj=>j=u) C (C.setCell ⟨u,1,none⟩ (.slice A (n+1) B)) from(Fr.refl (λj=>j=u) C).setCell ⟨u,1,none⟩ (.inr rfl) _) (λj m e=>db.o j m e))
      have⟨K0,K1,K2,K3,K4⟩:=tZ5
      go_wp2_with ((first|((with_reducible refine zt ?_);first|(clear K0;refine zg rfl (z7 (ty:=214) rfl rfl R1.o uC rC (by rw[CL.o];exact JZ)) ?_)|(clear K2;refine zod rfl rfl rfl RP.o PL.o ?_)|(clear K3;refine zg rfl (zS (t:=91) rfl rfl YA zaO rfl (by decide) (by decide) PL.o) ?_)|(clear K4;at_builtin;refine zQ rfl rfl rfl rfl A1.o ?_))|((with_reducible refine zv ?_);clear K1;refine zi rfl (zj (w:=wq) (ty:=214) (cs:=yW c) rfl rfl rfl (by rw[CL.o];rfl) (by rw[CL.o];exact JZ) Zo) ?_;generalize wq.alloc (.cells (yW c).toArray 214)=wA at*));go_frame)
      go_roundw
      case rel=>exact⟨n+1,_,by go_num,by omega,c6.o,de.o,cU.o⟩
      case measure=>simp[intOf];omega
     ·have bz:n=b.pay.length:=by omega
      subst bz
      clear aq hn i1
      have i1:¬(b.pay.length:Int)<(b.pay.length:Int):=by omega
      have bZ:=@J (((vK b).map (·.at_)).length=b.pay.length) (by rw[length_map,aJ.o])
      have c3:=@J (∀x∈(vK b).map (·.at_),x.ok) (λx hx=>by
       obtain⟨y,hy,rfl⟩:=mem_map.1 hx
       exact(aK.o y hy).1)
      have b4:=@J (wq.ownsRow w7.heap.size 95 33 (.slice ma b.pay.length mc) b.pay.length (((vK b).map (·.at_)).flatMap zn)) (by
       have:=OR.o
       rw[List.take_of_length_le (by rw[bZ.o];exact le_refl _)] at this
       exact this)
      have QW:=@J (wr.heap.size≤u) (L6.o)
      have aA:=@J (Fr U wr wq.drew) ((cV.o.trans FQ.o (λj m e=>by have:=QW.o;omega)).trans0 (frN wq).drew)
      have NU:=@J (∀j,w.heap.size≤j→¬U j) (λj m e=>by have:=UV.o j e;omega)
      have cT:=@J (Fr No w6 wq.drew) ((FA.o.trans FQ.o (λj m e=>by omega)).trans0 (frN wq).drew)
      have cO:=J (bd.o.fr0 cT.o)
      have bH:=J (aA.o.obj BQ.o (λe=>NQ.o (.inr (.inl e))))
      have cJ:=J ((frN wq).drew.obj bJ.o _root_.id)
      have c5:=J (zb b4.o (frN wq).drew (λ_ _=>_root_.id))
      have GR:=@J (wq.drew.rangeAt u 0 [.slice none 0 0,.slice ma b.pay.length mc]) (by have:=zq cJ.o;simpa using this)
      have dd:=J (zb OI.o aA.o (λj m e=>NU.o j (NI.o j m).1 e))
      have c8:=J (KR.o.fr aA.o (λj _ e=>.inl (.inl (.inr (.inl e)))) (λj m e=>NU.o j (NC.o j m).1 e))
      have bL:=@J (wq.drew.cell? ⟨o,4,none⟩=some (.slice G b.txs.length H)) (by have:=zq bH.o 4 _ rfl;simpa using this)
      go_wp2_with fail
      refine yp [ff,ff,ff,ff,ff,ff,tt,tt,ff,ff,tt] (λw'=>w'.cell? ⟨o,4,none⟩=some (.slice G b.txs.length H)∧w'.rangeAt u 0 [.slice none 0 0,.slice ma b.pay.length mc]) (by kernel_rfl) (by kernel_rfl) 10 (by kernel_rfl) (by kernel_rfl) ?_ (λK hK=>?_)
      ·exact⟨bL.o,GR.o⟩
      generalize wq.drew=z at*
      have KC:=J (zh0 (n:=b.pay.length) (l:=(vK b).map (·.at_)) (V:=λj=>((chV p U O bv j∨T j)∨(Value.slice W b.txs.length X).ownBlock=some j)∨(Value.slice G b.txs.length H).ownBlock=some j) c5.o bZ.o c3.o (λj m hv=>by
       have h1:=(b4.o.lt j m).1
       have:=QA.o
       have:=QW.o
       have:=H4.o
       rcases hv with((e|e)|e)|e
       ·have:=S.o j e;omega
       ·have:=TL.o j e;omega
       ·have:=(NI.o j e).2;omega
       ·have:=(NC.o j e).2;omega))
      obtain⟨v6,af,b1,b2,b3,b5⟩:=c8.o.append (P:=prog) (t:=205) (ty2:=205) (bytes:=48) zbk zeJ rfl (by decide) KC.o rfl (ze2 rfl rfl) (by rw[F.o.cl];omega) (by rw[F.o.cl];unfold maxLen;omega) (by have:=aA.o.size;have:=H4.o;omega)
      obtain⟨I,N,ak⟩:=b2.form
      rw[length_append,F.o.cl] at ak
      simp only[length_singleton] at ak
      subst ak
      have B1:=J b1
      have K6:=J b2
      have ag:=J (b3.obj bH.o (λe=>by have:=(NC.o _ e).1;have:=QL.o;omega))
      have C6:=@J (af.cell? ⟨o,4,none⟩=some (.slice G b.txs.length H)) (by have:=zq ag.o 4 _ rfl;simpa using this)
      have cW:=J (za GR.o b3 (λe=>by have h1:u<wr.heap.size:=(NC.o _ e).2;have:=QW.o;omega))
      have fz:=yn (i:=4) ag.o
      have fs:Fr (λj=>j=o) af (af.setCell ⟨o,4,none⟩ (.slice I (b.txs.length+1) N)):=(Fr.refl (λj=>j=o) af).setCell ⟨o,4,none⟩ (.inr rfl) _
      have bq:=J (zb (zb dd.o b3 (λj m e=>bf.o j m e)) fs (λj m e=>by have:=(NI.o j m).1;have:=QL.o;omega))
      have au:=@J ((af.setCell ⟨o,4,none⟩ (.slice I (b.txs.length+1) N)).heap[o]? =some (.cells #[.int .u64 b.tag,.slice pa b.pay.length pc,.slice ta b.txs.length tc,.slice W b.txs.length X,.slice I (b.txs.length+1) N] 207 (0,0))) (by have:=heap_setCell_same af o 4 _ _ (.slice I (b.txs.length+1) N) ag.o;simpa using this)
      have bn:=J (K6.o.fr fs (λj _ e=>.inl (.inr (QT.o j e))) (λj m e=>by have:=(K6.o.lt j m).1;have:=QL.o;omega))
      have aS:=@J (Fr (λj=>(Value.slice G b.txs.length H).ownBlock=some j∨j=o) z (af.setCell ⟨o,4,none⟩ (.slice I (b.txs.length+1) N))) ((b3.mono (λj e=>.inl e)).trans fs (λj _ e=>.inr e))
      have aa:=@J (Fr (λj=>chV p U O bv j∨j=o) w (af.setCell ⟨o,4,none⟩ (.slice I (b.txs.length+1) N))) ((FR.o.trans aA.o (λj _ e=>.inl (.inr (.inl e)))).trans aS.o (λj m e=>by
       rcases e with e|e
       ·have:=(NC.o j e).1;omega
       ·exact .inr e))
      have ax:=J (cO.o.frV aS.o (λj m e=>by
       have:=S.o j m
       rcases e with e|e
       ·have:=(NC.o j e).1;omega
       ·exact NQ.o (e▸m)) (λj e=>by
       have:=bV.o.size
       rcases e with e|e
       ·have:=(NC.o j e).1;omega
       ·rw[e];exact LQ.o) (λi d cs h1 h2 w' f=>HK.o i d cs h1 h2 w' (aa.o.trans (f.mono (λj m=>.inl m)) (λ_ _ h=>h))))
      have bo:=@J (∀w',Fr No z w'→w'.cell? ⟨o,4,none⟩=some (.slice G b.txs.length H)∧w'.rangeAt u 0 [.slice none 0 0,.slice ma b.pay.length mc]) (λw' f=>⟨f.cell bL.o _root_.id,za GR.o f _root_.id⟩)
      clear b1 b2 b3 b5 fs
      repeat((first|(refine yb rfl ?_;constructor;constructor;(focus(first|exact xB (ty:=250) rfl (λw h=>h.2) uG rG vD|(rintro w' ⟨s1,s2⟩;exact goS))))|(refine yc rfl ?_));try simp only[Act.put,pA,pB,pC])
      (refine ya rfl (λK' hK'=>?_))
      refine yg (zS (t:=205) rfl rfl zbk zcV rfl (by decide) (by decide) rfl) ?_
      refine hK'.out _ _ (λ_=>?_) (λhS=>?_)
      ·exact bo.o _ ((frN z).alloc _)
      try simp only[Act.put,pA,pB,pC]
      (refine ya rfl (λK' hK'=>?_))
      refine yr rfl rfl rfl B1.o ?_
      refine hK'.out _ _ (λ_=>?_) (λhS=>?_)
      ·exact⟨C6.o,cW.o⟩
      try simp only[Act.put,pA,pB,pC]
      repeat((first|(refine yb rfl ?_;constructor;constructor;(focus(first|(rintro w' ⟨s1,s2⟩;exact goS))))|(refine yc rfl ?_));try simp only[Act.put,pA,pB,pC])
      (refine ya rfl (λK' hK'=>?_))
      go_simp
      refine hK'.out _ _ (λh=>absurd rfl h) (λhS=>?_)
      refine xA (hK.out _ _ ?_)
      clear fz
      go_wp2_with fail
      go_ret
      rw[zgY RF.o,if_pos cX.o]
      refine⟨M,Z.o,rfl,ax.o,aa.o,rfl,_,au.o,?_⟩
      exact zaj (bcs:=[_,_,_]) (HB.o.same (aa.o.mono (λj e=>e.imp_right (QT.o j)))) (by rw[F.o.il];exact bq.o) F.o.iok bn.o (λj e=>.inl e) (λj e=>e.elim (λe=>S.o j e) (λe=>TL.o j e)) (by rw[length_append,F.o.cl];simp;omega)
structure Gd (w0 w:World) (p:Nat) (V:Nat→Prop) (S0:List zr) (S:List zr) (bs:List yB):Prop where
 hist:zaa S0 bs S
 srt0:qU S0
 ok0:∀c∈S0,c.ok
 len0:S0.length≤300
 cn:Cn w0 w p V S bs (ye bs)
section
variable {w0 w w':World} {p:Nat} {V:Nat→Prop} {S0 S:List zr} {bs:List yB}
theorem Gd.hok (h:Gd w0 w p V S0 S bs):HOk S0 bs S:=h.hist.good h.srt0 h.ok0
theorem Gd.fr (h:Gd w0 w p V S0 S bs):Fr No w0 w:=h.cn.fr
theorem Gd.hi (h:Gd w0 w p V S0 S bs):∀j,V j→j<w.heap.size:=h.cn.hi
theorem Gd.lo (h:Gd w0 w p V S0 S bs):∀j,V j→w0.heap.size≤j:=h.cn.lo
theorem Gd.slen (h:Gd w0 w p V S0 S bs) (a:bs.length≤200):S.length≤30000:=by
 have:=h.hok.len
 have:=h.len0
 omega
theorem zhQ {bs:List yB} (h:∀d∈bs,d.ids.length≤16):(ye bs).length≤16*bs.length:=by
 induction bs with
 |nil=>simp[ye]
 |cons d l ih=>
  have b:=ih (λx a=>h x (.tail _ a))
  have c:=h d (.head _)
  have e:ye (d::l)=d.ids++ye l:=by simp[ye]
  rw[e,length_append,length_cons]
  omega
def GdX (w0 w:World) (p:Nat) (V:Nat→Prop) (S0 S:List zr) (bs:List yB) (css:List (List Value)):Prop:=
 zaa S0 bs S∧∃s U mi bv M,qS w0 w p s U mi bv css ⟨S,bs,M⟩∧V=chV p U mi bv∧(∀x,x∈ye bs↔∃v,(x,v)∈M)∧∀x v,(x,v)∈M→0<v
theorem Gd.x (h:Gd w0 w p V S0 S bs):∃css,GdX w0 w p V S0 S bs css:=by
 obtain⟨M,⟨s,U,f,c,css,e,d⟩,b,a⟩:=h.cn
 exact⟨css,h.hist,s,U,f,c,M,e,d,b,a⟩
theorem GdX.gd {css:List (List Value)} (h:GdX w0 w p V S0 S bs css) (d:qU S0) (ok:∀c∈S0,c.ok) (j:S0.length≤300):Gd w0 w p V S0 S bs:=by
 obtain⟨i,s,U,k,e,M,g,f,b,a⟩:=h
 exact⟨i,d,ok,j,M,⟨s,U,k,e,css,g,f⟩,b,a⟩
theorem GdX.cl {css:List (List Value)} (h:GdX w0 w p V S0 S bs css):css.length=bs.length:=by
 obtain⟨f,s,U,g,d,M,b,e,c,a⟩:=h
 exact b.cl
theorem GdX.fr0 {css:List (List Value)} (h:GdX w0 w p V S0 S bs css) (f:Fr No w w'):GdX w0 w' p V S0 S bs css:=by
 obtain⟨g,s,U,i,c,M,e,d,b,a⟩:=h
 exact⟨g,s,U,i,c,M,e.fr0 f,d,b,a⟩
theorem GdX.frV {css:List (List Value)} (h:GdX w0 w p V S0 S bs css) {W:Nat→Prop} (f:Fr W w w') (g:∀j,V j→¬W j) (e:∀j,W j→w0.heap.size≤j) (m:∀(i:Nat) (d:yB) (cs:List Value),bs[i]? =some d→css[i]? =some cs→Kept V w' (λw=>jF w d cs)):GdX w0 w' p V S0 S bs css:=by
 obtain⟨n,s,U,o,c,M,l,k,b,a⟩:=h
 subst k
 exact⟨n,s,U,o,c,M,l.frV f g e m,rfl,b,a⟩
structure CX (w0 w:World) (p:Nat) (V X:Nat→Prop) (S0 S:List zr) (bs:List yB) (css:List (List Value)):Prop where
 gd:GdX w0 w p V S0 S bs css
 srt0:qU S0
 ok0:∀c∈S0,c.ok
 len0:S0.length≤300
 data:∀(i:Nat) (d:yB) (cs:List Value),bs[i]? =some d→css[i]? =some cs→Kept (λj=>V j∨X j) w (λw=>jF w d cs)
theorem CX.g {css:List (List Value)} (h:CX w0 w p V X S0 S bs css):Gd w0 w p V S0 S bs:=h.gd.gd h.srt0 h.ok0 h.len0
theorem CX.frV {X X':Nat→Prop} {css:List (List Value)} (h:CX w0 w p V X S0 S bs css) {W:Nat→Prop} (f:Fr W w w') (k:∀j,V j→¬W j) (g:∀j,W j→w0.heap.size≤j) (c:∀j,W j→X j) (l:∀j,j<w.heap.size→X' j→X j):CX w0 w' p V X' S0 S bs css:=
 {h with
  gd:=h.gd.frV f k g (λi d cs a b=>(h.data i d cs a b).step (f.mono (λj e=>.inr (c j e))) (λj _ e=>.inl e))
  data:=λi d cs a b=>(h.data i d cs a b).step (f.mono (λj e=>.inr (c j e))) (λj m e=>e.imp_right (l j m))}
def znm (X:Nat→Prop) (css:List (List Value)) (w0 w:World) (p:Nat) (V:Nat→Prop) (S0:List zr) (S:List zr) (bs:List yB) (b:qs) (e:Ending) (w':World):Prop:=
 e=.returned (.int .i64 (ji (ye bs) S bs b))∧Fr V w w'∧∃V' css',(∀j,V' j→V j∨w.heap.size≤j)∧GdX w0 w' p V' S0 (Xi (ye bs) S bs b) (Ym (ye bs) S bs b) css'∧
  ((Ym (ye bs) S bs b=bs∧css'=css)∨∃d csd,Ym (ye bs) S bs b=bs++[d]∧css'=css++[csd]∧Kept (λj=>V' j∨X j) w' (λw=>jF w d csd))
theorem zmv (hg:q9 w0) {css:List (List Value)} (h:GdX w0 w p V S0 S bs css) (u:qU S0) (T:∀c∈S0,c.ok) (r:S0.length≤300) (hX:∀j,X j→j<w.heap.size) (hB:bs.length≤200) {b:qs} (hb:jE w b cs):
  Calls prog 51 #[.pointer (some ⟨p,0,none⟩),.agg cs.toArray] w (znm X css w0 w p V S0 S bs b):=by
 have hok:=(h.gd u T r).hok
 have aj:=(h.gd u T r).slen hB
 have ab:=h
 obtain⟨W,s,U,Q,Z,M,hc,hV,m,i⟩:=h
 by_cases hpre:Xa ⟨S,bs,M⟩ b=0
 ·have o:¬1024≤bs.length∧vE b=true∧b.pay.any vX=false:=by
   unfold Xa at hpre
   dsimp only at hpre
   split at hpre
   ·cases hpre
   ·rename_i I
    split at hpre
    ·rename_i C
     split at hpre
     ·cases hpre
     ·rename_i L
      exact⟨I,C,by simpa using L⟩
    ·cases hpre
  obtain⟨I,C,L⟩:=o
  have D:ji (ye bs) S bs b=(doR (ye bs) S b).E:=by
   unfold ji
   rw[if_neg I,if_pos C,L,if_neg (by decide)]
  obtain⟨p1,p2,p3⟩:=XJ C
  have z:=hb.oks
  obtain⟨a1,a2,a3,a4,a5,a6,a7,a8,a9,ah⟩:=zf0 (K:=ye bs) hok.srt hok.ok (λt ht=>(z.1 t ht).2) z.2 p2 p1
  have ai:M.length≤1000000:=by
   have ag:(M.map (·.1)).Nodup:=hc.map.nodup
   have h5:=(VT (B:=ye bs) ag (λx k=>by
    obtain⟨y,hy,rfl⟩:=mem_map.1 k
    exact(m _).2 ⟨y.2,hy⟩)).1
   have h6:=zhQ (λd hd=>(hok.ds d hd).1)
   rw[length_map] at h5
   omega
  refine(zdv hg hc hb hpre (R:=doR (ye bs) S b) (λw cs Y=>zlg w Y (by omega) (by omega) (λt ht=>?_)) hX (λw' dq bcs h' Y hn hl k hk P hd=>(zmA hg h' m i Y hn hl (.inl rfl) (λj n=>n.elim (λe=>by rw[e];exact yF Y) (k j)) hk P hok.srt (by show S.length≤_;omega) (by show bs.length≤_;omega) (by show M.length≤_;omega) hd).mono λe ak W=>W) ⟨by omega,by omega,by omega⟩).mono λe w' ⟨he,hf,A,N⟩=>?_
  ·obtain⟨q1,q2,q3⟩:=yZ.1 (p3 t ht)
   exact⟨by omega,by omega,λx k=>by have:=q1 x k;omega⟩
  ·have g:∀j,chV p U Q Z j↔V j:=λj=>by rw[hV]
   refine⟨by rw[he,D],hf.mono (λj n=>(g j).1 n),?_⟩
   by_cases hz:(doR (ye bs) S b).E=0
   ·obtain⟨E,F,M',l,q,ae,aa,ad,af⟩:=A hz
    have a:ji (ye bs) S bs b=0:=by rw[D];exact hz
    refine⟨chV p U Q E,F,λj n=>?_,?_⟩
    ·rcases n with e|e|e|e
     ·exact .inl ((g j).1 (.inl e))
     ·exact .inl ((g j).1 (.inr (.inl e)))
     ·exact .inl ((g j).1 (.inr (.inr (.inl e))))
     ·exact(ae j e).imp_left (λe=>(g j).1 (.inr (.inr (.inr e))))
    ·have G:Xi (ye bs) S bs b=(doR (ye bs) S b).S:=by unfold Xi;rw[if_pos a]
     have H:Ym (ye bs) S bs b=bs++[(doR (ye bs) S b).d]:=by unfold Ym;rw[if_pos a]
     rw[G,H]
     refine⟨⟨.snoc W z a,s,U,Q,E,M',l,rfl,λx=>?_,λx v k=>?_⟩,.inr ⟨_,aa,rfl,ad,af⟩⟩
     ·rw[zbH,mem_append,m]
      constructor
      ·rintro(⟨v,hv⟩|k)
       ·exact⟨v,(q.1 x v).2 (.inl hv)⟩
       ·exact⟨_,(q.1 x _).2 (.inr ⟨k,rfl⟩)⟩
      ·rintro⟨v,hv⟩
       exact((q.1 x v).1 hv).imp (λh=>⟨v,h⟩) (λh=>h.1)
     ·rcases(q.1 x v).1 k with h|⟨_,h⟩
      ·exact i x v h
      ·rw[h];show(0:Int)<(bs.length:Int)+1;omega
   ·obtain⟨M',l,O⟩:=N hz
    have a:ji (ye bs) S bs b≠0:=by rw[D];exact hz
    have G:Xi (ye bs) S bs b=S:=by unfold Xi;rw[if_neg a]
    have H:Ym (ye bs) S bs b=bs:=by unfold Ym;rw[if_neg a]
    rw[a4] at l
    refine⟨chV p U Q Z,css,λj n=>.inl ((g j).1 n),?_⟩
    rw[G,H]
    exact⟨⟨W,s,U,Q,Z,M',l,rfl,λx=>by rw[m];simp only[O],λx v k=>i x v ((O x v).1 k)⟩,.inl ⟨rfl,rfl⟩⟩
 ·have D:ji (ye bs) S bs b=Xa ⟨S,bs,M⟩ b:=by
   unfold Xa at hpre⊢
   unfold ji
   dsimp only at hpre⊢
   split
   ·rfl
   ·rename_i I
    rw[if_neg I] at hpre
    split
    ·rename_i C
     rw[if_pos C] at hpre
     split
     ·rfl
     ·rename_i L
      rw[if_neg L] at hpre
      exact absurd rfl hpre
    ·rfl
  have a:ji (ye bs) S bs b≠0:=by rw[D];exact hpre
  refine(zeo hg hc hb (by show bs.length≤_;omega) hpre).mono λe w' ⟨he,f⟩=>⟨by rw[he,D],f.of0,V,css,λj n=>.inl n,?_⟩
  have G:Xi (ye bs) S bs b=S:=by unfold Xi;rw[if_neg a]
  have H:Ym (ye bs) S bs b=bs:=by unfold Ym;rw[if_neg a]
  rw[G,H]
  exact⟨ab.fr0 f,.inl ⟨rfl,rfl⟩⟩
theorem zmu (B:q9 w0) {css:List (List Value)} {X X':Nat→Prop} (h:CX w0 w p V X S0 S bs css) (x:∀j,X' j→j<w.heap.size) (o:∀j,X' j→X j) (v:bs.length≤200) {b:qs} (y:jE w b cs):
  Calls prog 51 #[.pointer (some ⟨p,0,none⟩),.agg cs.toArray] w λe w'=>e=.returned (.int .i64 (ji (ye bs) S bs b))∧Fr V w w'∧∃V' a,(∀j,V' j→V j∨w.heap.size≤j)∧CX w0 w' p V' X' S0 (Xi (ye bs) S bs b) (Ym (ye bs) S bs b) a:=by
 have g:=h.gd.cl
 refine(zmv B h.gd h.srt0 h.ok0 h.len0 x v y).mono λe w' ⟨A,s,V',a,t,q,z⟩=>⟨A,s,V',a,t,q,h.srt0,h.ok0,h.len0,?_⟩
 have k:∀(i:Nat) (d:yB) (cs:List Value),bs[i]? =some d→css[i]? =some cs→Kept (λj=>V' j∨X' j) w' (λw=>jF w d cs):=λi d cs c f=>
  (h.data i d cs c f).step (s.mono (λ_ e=>.inl e)) (λj D e=>e.imp (λe=>(t j e).resolve_right (by omega)) (o j))
 rcases z with⟨m,n⟩|⟨d,u,m,n,C⟩
 ·rw[m,n]
  exact k
 ·rw[m,n]
  intro i d' l c f
  by_cases hi:i<bs.length
  ·rw[List.getElem?_append_left hi] at c
   rw[List.getElem?_append_left (by rw[g];exact hi)] at f
   exact k i d' l c f
  ·have r:i=bs.length:=by have:=(List.getElem?_eq_some_iff.1 c).1;simp only[length_append,length_singleton] at this;omega
   subst r
   rw[List.getElem?_append_right (le_refl _),Nat.sub_self] at c
   rw[List.getElem?_append_right (by rw[g];exact le_refl _),g,Nat.sub_self] at f
   simp at c f
   subst c
   subst f
   exact C
def znp (w0 w:World) (p:Nat) (V:Nat→Prop) (S0:List zr) (S:List zr) (bs:List yB) (d:yB) (css:List (List Value)) (e:Ending) (w':World):Prop:=
 ∃bcs V' css' tl,e=.returned (.tuple #[.agg bcs.toArray,.int .i64 0])∧Fr V w w'∧(∀j,V' j→V j)∧GdX w0 w' p V' S0 (xS d.chg S) bs css'∧Kept V w' (λw=>jE w d.blk bcs)∧css=css'++[bcs++tl]
theorem zmy {d:yB} {css:List (List Value)} (h:GdX w0 w p V S0 S (bs++[d]) css) (g:qU S0) (r:∀c∈S0,c.ok) (E:S0.length≤300) (X:bs.length≤200):
  Calls prog 53 #[.pointer (some ⟨p,0,none⟩)] w (znp w0 w p V S0 S bs d css):=by
 have hok:=h.1.good g r
 have N:S.length≤30000:=by
  have:=hok.len
  rw[length_append] at this
  simp only[length_cons,length_nil] at this
  omega
 obtain⟨l,C,R,T,W,G⟩:=h.1.undo g r
 have Y:=hok.ds d (by simp)
 obtain⟨Z,s,U,t,F,M,H,D,z,q⟩:=h
 refine(zjo H rfl (by omega) (by show S.length+_≤_;omega) (by omega) (by omega)).mono λe w' ⟨bcs,i,k,M',I,y,A,L,K,u,P,B⟩=>?_
 have m:∀j,chV p U t i j↔V j:=λj=>by rw[D];unfold chV;rw[u]
 have n:∀j,chV p U t F j↔V j:=λj=>by rw[D]
 refine⟨bcs,chV p U t i,k,P,I,K.mono (λj o=>(n j).1 o),λj o=>(m j).1 o,⟨l,s,U,t,i,M',y,rfl,λx=>?_,λx v O=>q x v ((A x v).1 O).2⟩,λQ f=>L Q (f.mono (λj o=>(m j).2 o)),B⟩
 have:=zdD G x
 rw[←this]
 simp only[mem_filter,Bool.not_eq_true',decide_eq_false_iff_not]
 rw[z]
 constructor
 ·rintro⟨⟨v,l⟩,C⟩
  exact⟨v,(A x v).2 ⟨C,l⟩⟩
 ·rintro⟨v,l⟩
  obtain⟨a,b⟩:=(A x v).1 l
  exact⟨⟨v,b⟩,a⟩
theorem zmz {d:yB} {css:List (List Value)} (h:CX w0 w p V X S0 S (bs++[d]) css) (v:bs.length≤200):
  Calls prog 53 #[.pointer (some ⟨p,0,none⟩)] w λe w'=>∃bcs V' a,e=.returned (.tuple #[.agg bcs.toArray,.int .i64 0])∧Fr V w w'∧(∀j,V' j→V j)∧CX w0 w' p V' X S0 (xS d.chg S) bs a∧Kept (λj=>V j∨X j) w' (λw=>jE w d.blk bcs):=by
 have g:=h.gd.cl
 rw[length_append,length_singleton] at g
 refine(zmy h.gd h.srt0 h.ok0 h.len0 v).mono λe w' ⟨bcs,V',a,B,x,k,r,c,y,f⟩=>⟨bcs,V',a,x,k,r,⟨c,h.srt0,h.ok0,h.len0,λi d' cs n o=>?_⟩,?_⟩
 ·have hi:=(List.getElem?_eq_some_iff.1 n).1
  have l:=(List.getElem?_eq_some_iff.1 o).1
  exact(h.data i d' cs (by rw[List.getElem?_append_left hi];exact n) (by rw[f,List.getElem?_append_left l];exact o)).step (k.mono (λ_ e=>.inl e)) (λj _ e=>e.imp_left (r j))
 ·have z:a.length=bs.length:=c.cl
  have A:=h.data bs.length d (bcs++B) (by simp) (by rw[f,←z];simp)
  have m:∀w,jE w d.blk bcs→bcs.length=3:=λw ⟨_,_,_,_,e,_⟩=>by rw[e];rfl
  refine(A.step (k.mono (λ_ e=>.inl e)) (λ_ _ e=>e)).imp (λH E ⟨b,F,G,C,D,e,q,_⟩=>?_)
  have t:=m _ y.now
  have u:b.length=3:=by obtain⟨_,_,_,_,s,_⟩:=q;rw[s];rfl
  have:=(List.append_inj e (by rw[t,u])).1
  rw[this]
  exact q
theorem zma (w:World) {l:List yI} (b:xu w v l) (d:l.length≤256):
  Calls prog 35 #[v] w λe w'=>∃p,e=.returned (.tuple #[.pointer (some ⟨p,0,none⟩),.int .i64 0])∧∃V,Gd w w' p V (jV [] (ZJ yR l)) (jV [] (ZJ yR l)) []:=by
 refine(zjT w b d).mono λe w' ⟨p,f,V,h⟩=>⟨p,f,V,.nil,?_,λc a=>?_,?_,h⟩
 ·exact J4 List.Pairwise.nil (QR _ _) (λc a=>rfl)
 ·rcases qL.1 a with a|a
  ·cases a
  ·exact Vz xM b.1 (by omega) c a
 ·rw[(Zs _ _).length_eq,nil_append,Jd]
  omega
end
section
section
variable {α:Type}
inductive Rch (E:α→List α) (I:α→Prop):α→α→Prop
 |refl {x:α}:I x→Rch E I x x
 |step {x y z:α}:I x→y∈E x→Rch E I y z→Rch E I x z
variable {E E':α→List α} {I J:α→Prop}
theorem Rch.left {x y:α} (h:Rch E I x y):I x:=by cases h<;>assumption
theorem Rch.right {x y:α} (h:Rch E I x y):I y:=by
 induction h with
 |refl h=>exact h
 |step _ _ _ ih=>exact ih
theorem Rch.trans {x y z:α} (h:Rch E I x y) (a:Rch E I y z):Rch E I x z:=by
 induction h with
 |refl _=>exact a
 |step h1 h3 _ ih=>exact .step h1 h3 (ih a)
theorem Rch.snoc {x y z:α} (h:Rch E I x y) (a:z∈E y) (i:I z):Rch E I x z:=h.trans (.step h.right a (.refl i))
theorem Rch.flip (a:∀x y,I x→I y→y∈E x→x∈E' y) {x y:α} (h:Rch E I x y):Rch E' I y x:=by
 induction h with
 |refl h=>exact .refl h
 |step h1 h2 h3 ih=>exact ih.snoc (a _ _ h1 h3.left h2) h1
theorem Rch.mono (a:∀x,I x→J x) (b:∀x y,I x→I y→y∈E x→y∈E' x) {x y:α} (h:Rch E I x y):Rch E' J x y:=by
 induction h with
 |refl h=>exact .refl (a _ h)
 |step h1 h2 h3 ih=>exact .step (a _ h1) (b _ _ h1 h3.left h2) ih
structure Wl (E:α→List α) (I:α→Prop) (l todo vis:List α):Prop where
 sub:∀x∈vis,I x
 snd:∀x∈vis,∃a∈l,Rch E I a x
 td:∀x∈todo,I x→∃a∈l,Rch E I a x
 start:∀a∈l,I a→a∈vis∨a∈todo
 clos:∀x∈vis,∀y∈E x,I y→y∈vis∨y∈todo
theorem Wl.init (l:List α):Wl E I l l []:=⟨by simp,by simp,λx c hi=>⟨x,c,.refl hi⟩,λa b _=>.inr b,by simp⟩
theorem Wl.skip {l todo vis:List α} {x:α} (h:Wl E I l (todo++[x]) vis) (b:¬I x∨x∈vis):Wl E I l todo vis:=by
 refine⟨h.sub,h.snd,λy c=>h.td y (by simp[c]),λa d hi=>?_,λy c z e hi=>?_⟩
 ·rcases h.start a d hi with h1|h1
  ·exact .inl h1
  ·rcases mem_append.1 h1 with h2|h2
   ·exact .inr h2
   ·obtain rfl:=mem_singleton.1 h2
    rcases b with b|b
    ·exact absurd hi b
    ·exact .inl b
 ·rcases h.clos y c z e hi with h1|h1
  ·exact .inl h1
  ·rcases mem_append.1 h1 with h2|h2
   ·exact .inr h2
   ·obtain rfl:=mem_singleton.1 h2
    rcases b with b|b
    ·exact absurd hi b
    ·exact .inl b
theorem Wl.visit {l todo vis:List α} {x:α} (h:Wl E I l (todo++[x]) vis) (hi:I x):Wl E I l (todo++E x) (x::vis):=by
 obtain⟨a,e,f⟩:=h.td x (by simp) hi
 refine⟨λy c=>?_,λy c=>?_,λy c d=>?_,λb i d=>?_,λy c z g d=>?_⟩
 ·rcases mem_cons.1 c with rfl|c
  ·exact hi
  ·exact h.sub y c
 ·rcases mem_cons.1 c with rfl|c
  ·exact⟨a,e,f⟩
  ·exact h.snd y c
 ·rcases mem_append.1 c with c|c
  ·exact h.td y (by simp[c]) d
  ·exact⟨a,e,f.snoc c d⟩
 ·rcases h.start b i d with h1|h1
  ·exact .inl (by simp[h1])
  ·rcases mem_append.1 h1 with h2|h2
   ·exact .inr (by simp[h2])
   ·exact .inl (by simp[mem_singleton.1 h2])
 ·rcases mem_cons.1 c with rfl|c
  ·exact .inr (by simp[g])
  ·rcases h.clos y c z g d with h1|h1
   ·exact .inl (by simp[h1])
   ·rcases mem_append.1 h1 with h2|h2
    ·exact .inr (by simp[h2])
    ·exact .inl (by simp[mem_singleton.1 h2])
theorem Wl.done {l vis:List α} (h:Wl E I l [] vis) (x:α):x∈vis↔∃a∈l,Rch E I a x:=by
 refine⟨h.snd x,λ⟨a,e,d⟩=>?_⟩
 have c:∀y z,Rch E I y z→y∈vis→z∈vis:=by
  intro y z b
  induction b with
  |refl _=>exact id
  |step h1 h2 h3 ih=>exact λf=>ih ((h.clos _ f _ h2 h3.left).elim id (λh=>by simp at h))
 exact c a x d ((h.start a e d.left).elim id (λh=>by simp at h))
variable [DecidableEq α]
def wlW (E:α→List α) (vis:List α):List α→Nat
 |[]=>0
 |x::r=>(if x∈vis then 0 else(E x).length)+wlW E vis r
theorem V4 {vis:List α} {x:α}:∀ {l:List α},x∉l→wlW E (x::vis) l=wlW E vis l
 |[],_=>rfl
 |y::r,h=>by
  have b:y≠x:=λe=>h (by simp[e])
  have a:x∉r:=λe=>h (by simp[e])
  simp only[wlW,mem_cons,b,false_or]
  rw[V4 a]
theorem Qi {vis:List α} {x:α} (a:x∉vis):∀ {l:List α},l.Nodup→x∈l→wlW E (x::vis) l+(E x).length=wlW E vis l
 |[],_,h=>by cases h
 |y::r,hn,h=>by
  obtain⟨c,d⟩:=nodup_cons.1 hn
  by_cases e:y=x
  ·subst e
   simp only[wlW,List.mem_cons_self,if_true,if_neg a]
   rw[V4 c]
   omega
  ·have b:x∈r:=by
    rcases mem_cons.1 h with h|h
    ·exact absurd h.symm e
    ·exact h
   have:=Qi a d b
   simp only[wlW,mem_cons,e,false_or]
   omega
theorem zkA {k:Nat} {vis:List α}:∀ {l:List α},(∀x∈l,(E x).length≤k)→wlW E vis l≤l.length*k
 |[],_=>zero_le _
 |y::r,h=>by
  have b:=h y (by simp)
  have c:=zkA (vis:=vis) (l:=r) λx a=>h x (by simp[a])
  simp only[wlW,length_cons,Nat.succ_mul]
  split<;>omega
end
structure yX where
 id:zd
 ps:List zd
def ids (G:List yX):List zd:=G.map (·.id)
def par (G:List yX) (x:zd):List zd:=((G.find? λn=>decide (n.id=x)).map (·.ps)).getD []
def kid (G:List yX) (x:zd):List zd:=(G.filter λn=>decide (x∈n.ps)).map (·.id)
structure GOk (G:List yX):Prop where
 nd:(ids G).Nodup
 pn:∀n∈G,n.ps.Nodup
 top:∀A n B,G=A++n::B→∀p∈n.ps,p∈ids A
variable {G:List yX}
theorem JG (h:GOk G) {n:yX} (b:n∈G):par G n.id=n.ps:=by
 unfold par
 have a:=h.nd
 clear h
 induction G with
 |nil=>cases b
 |cons y r ih=>
  simp only[ids,map_cons,nodup_cons] at a
  rcases mem_cons.1 b with rfl|b
  ·simp
  ·have:y.id≠n.id:=λe=>a.1 (e▸mem_map.2 ⟨n,b,rfl⟩)
   rw[List.find?_cons_of_neg (by simpa using this)]
   exact ih b a.2
theorem Xw {x:zd} (h:x∉ids G):par G x=[]:=by
 unfold par
 rw[List.find?_eq_none.2]
 ·rfl
 ·intro n a
  simp only[decide_eq_true_eq]
  exact λe=>h (e▸mem_map.2 ⟨n,a,rfl⟩)
theorem Jk {x:zd}:x∈ids G↔∃n∈G,n.id=x:=mem_map
theorem zbe {x y:zd}:y∈kid G x↔∃n∈G,n.id=y∧x∈n.ps:=by
 unfold kid
 simp only[mem_map,mem_filter,decide_eq_true_eq]
 exact⟨λ⟨n,⟨a,b⟩,c⟩=>⟨n,a,c,b⟩,λ⟨n,a,c,b⟩=>⟨n,⟨a,b⟩,c⟩⟩
theorem Vu (h:GOk G) {x y:zd}:y∈kid G x↔y∈ids G∧x∈par G y:=by
 rw[zbe]
 constructor
 ·rintro⟨n,a,rfl,b⟩
  exact⟨Jk.2 ⟨n,a,rfl⟩,by rw[JG h a];exact b⟩
 ·rintro⟨c,b⟩
  obtain⟨n,a,rfl⟩:=Jk.1 c
  exact⟨n,a,rfl,by rwa [JG h a] at b⟩
theorem zdP (h:GOk G) {x y:zd} (a:y∈par G x):y∈ids G:=by
 by_cases hx:x∈ids G
 ·obtain⟨n,b,rfl⟩:=Jk.1 hx
  rw[JG h b] at a
  obtain⟨A,B,rfl⟩:=append_of_mem b
  have:=h.top A n B rfl y a
  simp only[ids,map_append,mem_append] at this⊢
  exact .inl this
 ·rw[Xw hx] at a;cases a
theorem zh1 (h:GOk G) (x:zd):(kid G x).Nodup:=List.Nodup.sublist (List.Sublist.map _ filter_sublist) h.nd
theorem zbb (x:zd):(kid G x).length≤G.length:=by unfold kid;rw[length_map];exact List.length_filter_le _ _
theorem qp {α:Type} [DecidableEq α]:∀ {l m:List α},l.Nodup→(∀x∈l,x∈m)→l.length≤m.length
 |[],_,_,_=>zero_le _
 |x::r,m,hn,h=>by
  obtain⟨b,c⟩:=nodup_cons.1 hn
  have d:=qp (l:=r) (m:=m.erase x) c λy a=>(List.mem_erase_of_ne (by rintro rfl;exact b a)).2 (h y (by simp[a]))
  have e:=List.length_erase_of_mem (h x (by simp))
  have f:=List.length_pos_of_mem (h x (by simp))
  simp only[length_cons]
  omega
theorem zdO (h:GOk G) (x:zd):(par G x).length≤G.length:=by
 have a:(par G x).Nodup:=by
  by_cases hx:x∈ids G
  ·obtain⟨n,a,rfl⟩:=Jk.1 hx
   rw[JG h a];exact h.pn n a
  ·rw[Xw hx];simp
 have:=qp a (m:=ids G) λy b=>zdP h b
 simpa[ids] using this
def Anc (G:List yX) (x y:zd):Prop:=Rch (par G) (· ∈ids G) x y
theorem zgN (h:GOk G) {x y:zd}:Rch (kid G) (· ∈ids G) x y↔Anc G y x:=
 ⟨λa=>a.flip λ_ _ _ _ b=>((Vu h).1 b).2,λa=>a.flip λ_ _ c _ b=>(Vu h).2 ⟨c,b⟩⟩
open Classical in
noncomputable def upS (G:List yX) (l:List zd):List zd:=(ids G).filter λx=>decide (∃a∈l,Anc G a x)
open Classical in
noncomputable def vk (G:List yX) (l:List zd):List zd:=(ids G).filter λx=>decide (∃a∈l,Anc G x a)
theorem zdI {l:List zd} {x:zd}:x∈upS G l↔∃a∈l,Anc G a x:=by
 unfold upS
 simp only[mem_filter,decide_eq_true_eq]
 exact⟨λh=>h.2,λ⟨a,b,h⟩=>⟨h.right,a,b,h⟩⟩
theorem Yr {l:List zd} {x:zd}:x∈vk G l↔∃a∈l,Anc G x a:=by
 unfold vk
 simp only[mem_filter,decide_eq_true_eq]
 exact⟨λh=>h.2,λ⟨a,b,h⟩=>⟨h.left,a,b,h⟩⟩
theorem zjs (l:List zd):∀x∈vk G l,x∈ids G:=λ_ h=>(mem_filter.1 h).1
theorem zlP {l m:List zd} (h:∀x,x∈l↔x∈m):upS G l=upS G m:=by
 unfold upS
 refine List.filter_congr λx _=>decide_eq_decide.2 ⟨λ⟨a,b,c⟩=>⟨a,(h a).1 b,c⟩,λ⟨a,b,c⟩=>⟨a,(h a).2 b,c⟩⟩
theorem jQ (l:List zd):(upS G l).Sublist (ids G):=filter_sublist
theorem vl (l:List zd):(vk G l).Sublist (ids G):=filter_sublist
theorem zjr (l:List zd):(vk G l).length≤G.length:=by have:=(vl (G:=G) l).length_le;simpa[ids] using this
theorem zcz (h:GOk G) {x y:zd} (c:Anc G x y):∀A n B,G=A++n::B→n.id=x→y∈ids (A++[n]):=by
 unfold Anc at c
 induction c with
 |refl _=>rintro A n B-rfl;simp[ids]
 |@step x p z h1 h2 h3 ih=>
  rintro A n B a rfl
  rw[JG h (by rw[a];simp)] at h2
  have f:=h.top A n B a p h2
  obtain⟨g,b,rfl⟩:=Jk.1 f
  obtain⟨d,e,rfl⟩:=append_of_mem b
  have:=ih d g (e++n::B) (by rw[a];simp) rfl
  simp only[ids,map_append,mem_append,map_cons,List.map_nil,mem_cons,not_mem_nil,or_false] at this⊢
  rcases this with h|h
  ·exact .inl (.inl h)
  ·exact .inl (.inr (.inl h))
def dedup (l:List zd):List zd:=l.foldl (λacc p=>if p∈acc then acc else acc++[p]) []
theorem Vk:∀(l c:List zd),c.Nodup→(l.foldl (λc p=>if p∈c then c else c++[p]) c).Nodup∧∀x,x∈l.foldl (λc p=>if p∈c then c else c++[p]) c↔x∈c∨x∈l
 |[],c,h=>⟨h,by simp⟩
 |p::r,c,h=>by
  simp only[List.foldl_cons]
  by_cases hp:p∈c
  ·rw[if_pos hp]
   obtain⟨d,f⟩:=Vk r c h
   refine⟨d,λx=>?_⟩
   rw[f,mem_cons]
   exact⟨λh=>h.elim .inl (λh=>.inr (.inr h)),λh=>h.elim .inl (λh=>h.elim (λe=>.inl (e▸hp)) .inr)⟩
  ·rw[if_neg hp]
   obtain⟨d,f⟩:=Vk r (c++[p]) (nodup_append.2 ⟨h,by simp,λa g b i e=>hp (by rw[←mem_singleton.1 i,←e];exact g)⟩)
   refine⟨d,λx=>?_⟩
   rw[f,mem_append,mem_singleton,mem_cons]
   exact⟨λh=>h.elim (λh=>h.elim .inl (λh=>.inr (.inl h))) (λh=>.inr (.inr h)),λh=>h.elim (λh=>.inl (.inl h)) (λh=>h.elim (λh=>.inl (.inr h)) .inr)⟩
theorem Xj (l:List zd):(dedup l).Nodup:=(Vk l [] (by simp)).1
theorem Jq {l:List zd} {x:zd}:x∈dedup l↔x∈l:=by have:=(Vk l [] (by simp)).2 x;unfold dedup;simpa using this
theorem zfX (l:List zd) (p:zd):dedup (l++[p])=if p∈dedup l then dedup l else dedup l++[p]:=by unfold dedup;rw[List.foldl_append];rfl
theorem zcI:∀l:List zd,(dedup l).length≤l.length:=λl=>qp (Xj l) λ_ h=>Jq.1 h
def Qj (G:List yX) (x:zd) (ps:List zd):List yX:=G++[⟨x,dedup ps⟩]
open Classical in
noncomputable def zbr (G:List yX) (x:zd) (ps:List zd):Int:=
 if x∈ids G then 10 else if ∃p∈ps,p∉ids G then 9 else if(upS G ps).length<6 then 0 else 16
theorem zk1 (x:zd) (ps:List zd):ids (Qj G x ps)=ids G++[x]:=by simp[ids,Qj]
theorem zgM (h:GOk G) {x:zd} {ps:List zd} (m:x∉ids G) (l:∀p∈ps,p∈ids G):GOk (Qj G x ps):=by
 refine⟨?_,λn c=>?_,λA n B e p d=>?_⟩
 ·rw[zk1]
  exact nodup_append.2 ⟨h.nd,by simp,λa j b k e=>m (by rw[←mem_singleton.1 k,←e];exact j)⟩
 ·rcases mem_append.1 c with c|c
  ·exact h.pn n c
  ·rw[mem_singleton.1 c];exact Xj ps
 ·unfold Qj at e
  rcases List.eq_nil_or_concat B with rfl|⟨i,b,rfl⟩
  ·obtain⟨f,g⟩:=List.append_inj' e rfl
   subst f
   injection g with g
   subst g
   exact l p (Jq.1 d)
  ·rw[List.concat_eq_append,←List.cons_append,←List.append_assoc] at e
   obtain⟨f,-⟩:=List.append_inj' e rfl
   exact h.top A n i f p d
def QH (G:List yX) (x:zd):List yX:=(G.filter λn=>decide (n.id≠x)).map λn=>⟨n.id,n.ps.filter λp=>decide (p≠x)⟩
def ZU (G:List yX) (l:List zd):List yX:=(G.filter λn=>decide (n.id∉l)).map λn=>⟨n.id,n.ps.filter λp=>decide (p∉l)⟩
theorem zbw (G:List yX):ZU G []=G:=by
 unfold ZU
 have e:(λn:yX=>(⟨n.id,n.ps.filter λp=>decide (p∉([]:List zd))⟩:yX))=id:=by
  funext n
  simp only[not_mem_nil,not_false_eq_true,decide_true,id_eq]
  rw[filter_eq_self.2 (λ_ _=>rfl)]
 rw[e,List.map_id,filter_eq_self.2 (λn _=>by simp)]
theorem zcH (G:List yX) (l:List zd) (x:zd):ZU G (l++[x])=QH (ZU G l) x:=by
 unfold ZU QH
 rw[List.filter_map,map_map,List.filter_filter]
 congr 1
 ·funext n
  simp only[Function.comp,List.filter_filter]
  congr 1
  refine List.filter_congr λp _=>?_
  simp only[mem_append,mem_singleton,not_or,Bool.decide_and,ne_eq,decide_not]
  rw[Bool.and_comm]
 ·refine List.filter_congr λn _=>?_
  simp only[Function.comp,mem_append,mem_singleton,not_or,Bool.decide_and,ne_eq,decide_not]
  rw[Bool.and_comm]
theorem zji (G:List yX) (x:zd):QH G x=ZU G [x]:=by
 have:=zcH G [] x
 rw[nil_append,zbw] at this
 exact this.symm
theorem zg0 (l:List zd):ids (ZU G l)=(ids G).filter λy=>decide (y∉l):=by
 unfold ids ZU
 rw[map_map,List.filter_map]
 rfl
theorem J1 {l:List zd} {x:zd}:x∈ids (ZU G l)↔x∈ids G∧x∉l:=by
 rw[zg0,mem_filter,decide_eq_true_eq]
theorem zdw (h:GOk G) (l:List zd):GOk (ZU G l):=by
 refine⟨?_,λn f=>?_,λA n B e p t=>?_⟩
 ·rw[zg0]
  exact h.nd.sublist filter_sublist
 ·unfold ZU at f
  obtain⟨m,s,rfl⟩:=mem_map.1 f
  exact(h.pn m (mem_filter.1 s).1).sublist filter_sublist
 ·unfold ZU at e
  obtain⟨v,w,k,rfl,o⟩:=List.map_eq_append_iff.1 e
  obtain⟨m,x,rfl,rfl,rfl⟩:=List.map_eq_cons_iff.1 o
  obtain⟨g,u,rfl,rfl,q⟩:=List.filter_eq_append_iff.1 k
  obtain⟨i,j,rfl,r,y,z⟩:=List.filter_eq_cons_iff.1 q
  obtain⟨d,a⟩:=mem_filter.1 t
  have:=h.top (g++i) m j (by simp) p d
  obtain⟨b,c,rfl⟩:=Jk.1 this
  simp only[decide_eq_true_eq] at a
  refine Jk.2 ⟨⟨b.id,b.ps.filter λp=>decide (p∉l)⟩,?_,rfl⟩
  refine mem_map.2 ⟨b,?_,rfl⟩
  rcases mem_append.1 c with h1|h1
  ·exact mem_filter.2 ⟨h1,by simpa using a⟩
  ·exact absurd (by simpa using a) (r b h1)
theorem zlj (h:GOk G) (l:List zd) (y:zd):par (ZU G l) y=if y∈l then[] else(par G y).filter λp=>decide (p∉l):=by
 by_cases hy:y∈ids G
 ·by_cases a:y∈l
  ·rw[if_pos a,Xw]
   rw[J1]
   exact λh=>h.2 a
  ·rw[if_neg a]
   obtain⟨n,b,rfl⟩:=Jk.1 hy
   rw[JG h b]
   have:(⟨n.id,n.ps.filter λp=>decide (p∉l)⟩:yX)∈ZU G l:=mem_map.2 ⟨n,mem_filter.2 ⟨b,by simpa using a⟩,rfl⟩
   exact JG (zdw h l) this
 ·rw[Xw (by rw[J1];exact λh=>hy h.1),Xw hy]
  split<;>rfl
theorem zkI (h:GOk G) {l:List zd} {a b:zd} (e:Anc (ZU G l) a b):Anc G a b:=
 Rch.mono (λ_ c=>(J1.1 c).1) (λy z c _ d=>by
  rw[zlj h,if_neg (J1.1 c).2] at d
  exact(mem_filter.1 d).1) e
theorem zhJ (h:GOk G) {q:zd} (g:q∈ids G):∃r,vk G [q]=q::r:=by
 obtain⟨n,v,rfl⟩:=Jk.1 g
 obtain⟨A,B,e⟩:=append_of_mem v
 have s:∀y∈ids A,¬Anc G y n.id:=by
  intro y f c
  obtain⟨m,u,rfl⟩:=Jk.1 f
  obtain⟨i,j,rfl⟩:=append_of_mem u
  have b:=zcz h c i m (j++n::B) (by rw[e];simp) rfl
  have d:=h.nd
  rw[e] at d
  simp only[ids,map_append,map_cons,List.append_assoc,List.cons_append,List.map_nil] at b d
  obtain⟨-,l,o⟩:=nodup_append.1 d
  rcases mem_append.1 b with b|b
  ·exact o _ b n.id (by simp) rfl
  ·obtain⟨p,-⟩:=nodup_cons.1 l
   rw[mem_singleton] at b
   exact p (by rw[←b];simp)
 unfold vk
 have k:ids G=ids A++(n.id::ids B):=by rw[e];simp[ids]
 rw[k,filter_append,List.filter_eq_nil_iff.2,nil_append,List.filter_cons_of_pos]
 ·exact⟨_,rfl⟩
 ·simp only[decide_eq_true_eq]
  exact⟨n.id,by simp,.refl g⟩
 ·intro y f
  simp only[decide_eq_true_eq]
  rintro⟨a,t,c⟩
  rw[mem_singleton.1 t] at c
  exact s y f c
end
theorem J8:prog.underlying 197=some (.map 41 196):=by kernel_rfl
theorem jt:prog.underlying 120=some (.map 41 3):=by kernel_rfl
theorem zkE (w:World):(zeroValue 3).run prog w=.ok (.int .i64 0) w:=by kernel_rfl
theorem zfH (w:World):(zeroValue 196).run prog w=.ok (.pointer none) w:=by kernel_rfl
theorem Jt (w:World) {u v:Value} {a c:List zd} (F:yP w u a) (G:yP w v c) (hN:a.length≤100000) (_:c.length≤100000):
  Calls prog 18 #[u,v] w λe w'=>∃b,e=.returned (.bool b)∧(b=true↔a=c)∧Fr No w w':=by
 obtain⟨ua,uc,rfl⟩:=F.2.form
 obtain⟨va,vc,rfl⟩:=G.2.form
 have N:=J F
 have O:=J G
 clear F G
 by_cases hlen:a.length=c.length
 ·have j1:(a.length:Int)=(c.length:Int):=by omega
  have k:=J hlen
  clear hlen
  go_enter Tryz.func18,Tryz.ntmps18
  go_wp2
  go_loopw [13] (λM wr=>∃n:Nat,M=.int .i64 n∧n≤a.length∧a.take n=c.take n∧Fr No w wr) (λM _=>a.length-(intOf M).toNat)
  case atStart=>exact⟨0,rfl,zero_le _,by simp,Fr.refl _ _⟩
  case round=>
   obtain⟨n,rfl,hn,m,fr⟩:=hrel
   have g:=J fr
   have R:=J m
   clear fr m
   by_cases h:n<a.length
   ·have i1:(n:Int)<(a.length:Int):=by omega
    have L:(n:Int)<(c.length:Int):=by omega
    obtain⟨x,q⟩:∃x,a[n]? =some x:=⟨_,getElem?_eq_getElem h⟩
    obtain⟨y,hy⟩:∃y,c[n]? =some y:=⟨_,getElem?_eq_getElem (by rw[←k.o];exact h)⟩
    obtain⟨bx,r,cx,H,o,-⟩:=(N.o.keep g.o).at_ q
    cases H
    obtain⟨d,s,cy,I,p,-⟩:=(O.o.keep g.o).at_ hy
    cases I
    have D:=J (N.o.1 x (mem_of_getElem? q))
    have E:=J (O.o.1 y (mem_of_getElem? hy))
    have P:=J (zx D.o)
    have Q:=J (zx E.o)
    have S:=J o
    have T:=J p
    have U:=@J (a.take (n+1)=a.take n++[x]) (by rw[take_add_one,q];rfl)
    have V:=@J (c.take (n+1)=c.take n++[y]) (by rw[take_add_one,hy];rfl)
    clear o p q hy
    by_cases hxk:x=y
    ·have z:=@J ((zf x).toArray=(zf y).toArray) (by simp[hxk])
     have C:=@J (a.take (n+1)=c.take (n+1)) (by rw[U.o,V.o,R.o,hxk])
     clear hxk
     have i:Fr No wr wr.drew:=by(repeat(first|with_reducible exact Fr.refl _ _|with_reducible assumption|with_reducible refine Fr.drew ?_|with_reducible refine Fr.drewN ?_ _|with_reducible refine Fr.alloc ?_ _|with_reducible refine Fr.setCell ?_ _ (.inl (by simp<;>omega)) _))
     have l:=J (λ(W:World) (f:Fr No wr W)=>(⟨za S.o f id,za T.o f id⟩:W.rangeAt bx (r+n*32) (zf x)∧W.rangeAt d (s+n*32) (zf y)))
     go_wp2
     refine wrLx [ff,ff,ff,ff,ff,ff,ff,ff,ff] (λW=>W.rangeAt bx (r+n*32) (zf x)∧W.rangeAt d (s+n*32) (zf y)) ?_ (λK hK=>?_)
     ·exact l.o _ i
     repeat((first|(refine zl rfl ?_;constructor;constructor;(focus(first|exact zog rfl (λw h=>h.1) P.o|exact zog rfl (λw h=>h.2) Q.o|exact λw' h=>xR.exec_neq (u:=(zf x).toArray) (v:=(zf y).toArray) rfl rfl rfl (yu D.o) (yu E.o) true ⟨λ_=>z.o,λ_=>rfl⟩ w'|(rintro w' -;exact goS))))|(refine zm rfl ?_));try simp only[Act.put,pA,pB,pC])
     refine zL (hK.out _ _ ?_)
     have t:=J i
     clear i l
     go_wp2
     go_roundw
     case rel=>exact⟨n+1,by simp,by omega,C.o,g.o.trans0 t.o⟩
     case measure=>show a.length-(n+1)<a.length-n;omega
    ·have z:=@J (¬(zf x).toArray=(zf y).toArray) (λe=>hxk (zao (by simpa using e)))
     have B:=@J (a≠c) (λe=>hxk (by
      have X:=U.o
      have Y:=V.o
      rw[e] at X
      rw[X] at Y
      have Z:=congrArg List.getLast? Y
      simpa using Z))
     clear hxk
     have i:Fr No wr wr.drew:=by(repeat(first|with_reducible exact Fr.refl _ _|with_reducible assumption|with_reducible refine Fr.drew ?_|with_reducible refine Fr.drewN ?_ _|with_reducible refine Fr.alloc ?_ _|with_reducible refine Fr.setCell ?_ _ (.inl (by simp<;>omega)) _))
     have l:=J (λ(W:World) (f:Fr No wr W)=>(⟨za S.o f id,za T.o f id⟩:W.rangeAt bx (r+n*32) (zf x)∧W.rangeAt d (s+n*32) (zf y)))
     go_wp2
     refine wrLx [ff,ff,ff,ff,ff,ff,ff,ff,ff] (λW=>W.rangeAt bx (r+n*32) (zf x)∧W.rangeAt d (s+n*32) (zf y)) ?_ (λK hK=>?_)
     ·exact l.o _ i
     repeat((first|(refine zl rfl ?_;constructor;constructor;(focus(first|exact zog rfl (λw h=>h.1) P.o|exact zog rfl (λw h=>h.2) Q.o|exact λw' h=>xR.exec_neq (u:=(zf x).toArray) (v:=(zf y).toArray) rfl rfl rfl (yu D.o) (yu E.o) false ⟨λe=>(by cases e),λe=>absurd e z.o⟩ w'|(rintro w' -;exact goS))))|(refine zm rfl ?_));try simp only[Act.put,pA,pB,pC])
     refine zL (hK.out _ _ ?_)
     have t:=J i
     clear i l
     go_wp2
     go_ret
     exact⟨false,rfl,by simp[B.o],g.o.trans0 t.o⟩
   ·have i1:¬(n:Int)<(a.length:Int):=by omega
    have L:n=a.length:=by omega
    have j:a=c:=by have:=R.o;rw[L,take_length,k.o,take_length] at this;exact this
    have A:=J j
    clear j L
    go_wp2
    go_ret
    first|exact⟨true,rfl,by simp[A.o],g.o⟩|exact .inr ⟨rfl,A.o,g.o⟩|exact .inl ⟨rfl,A.o,g.o⟩
 ·have j1:¬(a.length:Int)=(c.length:Int):=by omega
  have B:=@J (a≠c) (λe=>hlen (by rw[e]))
  clear hlen
  go_enter Tryz.func18,Tryz.ntmps18
  go_wp2
  go_ret
  exact⟨false,rfl,by simp[B.o],Fr.refl _ _⟩
theorem YG (w:World) {H:List zd} (i:yP w v H) (C:H.length≤100000):
  Calls prog 42 #[v] w λe w'=>∃p,e=.returned p∧w'.ownsRow w.heap.size 41 32 p H.length (H.flatMap zf)∧Fr No w w':=by
 have B:∀(w:World) (a:Option Addr) (n c o l:Nat),(binOp .eql 38 (.slice a n c) (.slice none o l)).run prog w=.ok (.bool a.isNone) w:=λw a n c o l=>Lib.run_eql_slice_nil w _ _ a n c o l xP
 by_cases hnil:v=.slice none 0 0
 ·subst hnil
  have A:H=[]:=by
   obtain⟨a,c,h⟩:=i.2.form
   injection h with h1 h2 h3
   exact List.eq_nil_of_length_eq_zero h2.symm
  subst A
  clear i
  go_enter Tryz.func42,Tryz.ntmps42
  go_wp2
  go_ret
  exact⟨_,rfl,World.ownsRow_nil _ _ _ _,Fr.refl _ _⟩
 ·have t:xG (w.alloc (.cells #[] 41)) v H.length (H.flatMap zf):=i.2.keep ((Fr.refl _ _).alloc _)
  obtain⟨p,w',d,s,r,-,m⟩:=jH (P:=prog) (w.alloc (.cells #[] 41)) w.heap.size 38 38 41 32 32 _ xP qm rfl (by decide) (.slice (some ⟨w.heap.size,0,none⟩) 0 0) 0 [] (World.ownsRow_made w #[] 0 (le_refl _) (zero_le _) rfl) v H.length (H.flatMap zf) t (JB i.1) JC (by omega) (by unfold maxLen;omega) (by simp) hnil
  have q:Fr No w w':=Fr.grown ((Fr.refl _ w).alloc _) r (λk z=>by simp[Value.ownBlock] at z;exact .inl (by omega))
  have f:∃b n c,v=.slice (some b) n c:=by
   rcases i.2 with(⟨h,_⟩|⟨g,go,y,h,_⟩)|⟨a0,y,h,-⟩
   ·exact absurd h hnil
   ·exact⟨_,_,_,h⟩
   ·exact⟨_,_,_,h⟩
  obtain⟨b,n,c,rfl⟩:=f
  have j:=J d
  have x:=J s
  have u:=J q
  clear t d s r m q i hnil
  go_enter Tryz.func42,Tryz.ntmps42
  go_wp2_with (at_builtin;refine zQ rfl rfl rfl rfl j.o ?_)
  go_ret
  exact⟨_,rfl,by simpa using x.o,u.o⟩
def Qk (x:zd):List zd→Int
 |[]=> -1
 |y::r=>if y=x then 0 else if x∈r then 1+Qk x r else -1
theorem zap {x:zd}:∀ {l:List zd},x∉l→Qk x l= -1
 |[],_=>rfl
 |y::r,h=>by
  have a:¬y=x:=λe=>h (by simp[e])
  have b:x∉r:=λe=>h (by simp[e])
  simp[Qk,a,b]
theorem Vr {x:zd}:∀ {l:List zd} {n:Nat},l[n]? =some x→x∉l.take n→Qk x l=n
 |[],n,h,_=>by simp at h
 |y::r,0,h,_=>by
  simp at h
  simp[Qk,h]
 |y::r,n+1,h,hn=>by
  simp only[List.getElem?_cons_succ] at h
  simp only[List.take_succ_cons,mem_cons,not_or] at hn
  have a:¬y=x:=λe=>hn.1 e.symm
  have b:x∈r:=mem_of_getElem? h
  have:=Vr h hn.2
  simp only[Qk,a,if_false,b,if_true,this]
  omega
theorem zg1 {x:zd}:∀ {l:List zd},(0≤Qk x l↔x∈l)
 |[]=>by simp[Qk]
 |y::r=>by
  have ih:=zg1 (x:=x) (l:=r)
  by_cases h1:y=x
  ·simp[Qk,h1]
  ·by_cases h2:x∈r
   ·have:=ih.2 h2
    simp only[Qk,h1,if_false,h2,if_true,mem_cons,or_true,iff_true]
    omega
   ·have a:¬x=y:=λe=>h1 e.symm
    simp[Qk,h1,h2,a]
theorem zcU (w:World) {l:List zd} (y:yP w v l) (R:l.length≤100000) (k:zd) (t:zY k):
  Calls prog 83 #[v,.agg (zf k).toArray] w λe w'=>e=.returned (.int .i64 (Qk k l))∧Fr No w w':=by
 obtain⟨U,V,rfl⟩:=y.2.form
 have A:=J y
 have o:=J (zx t)
 have a:=J t
 have M:=J (zy w (zf k) 41)
 have m:=@J (Fr No w (w.alloc (.cells (zf k).toArray 41))) (by(repeat(first|with_reducible exact Fr.refl _ _|with_reducible assumption|with_reducible refine Fr.drew ?_|with_reducible refine Fr.drewN ?_ _|with_reducible refine Fr.alloc ?_ _|with_reducible refine Fr.setCell ?_ _ (.inl (by simp<;>omega)) _)))
 clear y t
 go_enter Tryz.func83,Tryz.ntmps83
 go_wp2
 generalize T:w.heap.size=q at*
 generalize w.alloc (.cells (zf k).toArray 41)=Q at*
 go_loopw [8] (λz wr=>∃n:Nat,z=.int .i64 n∧n≤l.length∧k∉l.take n∧Fr No Q wr) (λz _=>l.length-(intOf z).toNat)
 case atStart=>exact⟨0,rfl,zero_le _,by simp,Fr.refl _ _⟩
 case round=>
  obtain⟨n,rfl,S,j,fr⟩:=hrel
  have i:=J fr
  have p:=J j
  clear fr j
  by_cases h:n<l.length
  ·have P:(n:Int)<(l.length:Int):=by omega
   obtain⟨x,d⟩:∃x,l[n]? =some x:=⟨_,getElem?_eq_getElem h⟩
   obtain⟨b,off,c,O,D,N⟩:=(A.o.keep (m.o.trans0 i.o)).at_ d
   cases O
   have C:=J (A.o.1 x (mem_of_getElem? d))
   have H:=J (zx C.o)
   have L:=J D
   have s:=J (za M.o i.o id)
   have B:=J (λ(W:World) (f:Fr No wr W)=>(⟨za s.o f id,za L.o f id⟩:W.rangeAt q 0 (zf k)∧W.rangeAt b (off+n*32) (zf x)))
   clear D N
   by_cases hxk:k=x
   ·subst hxk
    have F:=J (Vr d p.o)
    clear d
    go_wp2
    refine wrLx [ff,ff,ff,ff,ff,ff] (λW=>W.rangeAt q 0 (zf k)∧W.rangeAt b (off+n*32) (zf k)) ?_ (λK hK=>?_)
    ·exact B.o _ (frN _).drew
    repeat((first|(refine zl rfl ?_;constructor;constructor;(focus(first|exact zog rfl (λw h=>h.1) o.o|exact zog rfl (λw h=>h.2) o.o|exact λw' h=>xR.exec_eql (u:=(zf k).toArray) (v:=(zf k).toArray) rfl rfl rfl (yu a.o) (yu a.o) true (by simp) w'|(rintro w' -;exact goS))))|(refine zm rfl ?_));try simp only[Act.put,pA,pB,pC])
    refine zL (hK.out _ _ ?_)
    go_wp2
    go_ret
    exact⟨by rw[F.o];rfl,(m.o.trans0 i.o).drew⟩
   ·have I:=@J (¬(zf k).toArray=(zf x).toArray) (λe=>hxk (y3 (congrArg Value.agg e)))
    have r:=@J (k∉l.take (n+1)) (by
     rw[take_add_one,d]
     simp only[Option.toList_some,mem_append,mem_singleton]
     exact λe=>e.elim p.o hxk)
    clear d
    go_wp2
    refine wrLx [ff,ff,ff,ff,ff,ff] (λW=>W.rangeAt q 0 (zf k)∧W.rangeAt b (off+n*32) (zf x)) ?_ (λK hK=>?_)
    ·exact B.o _ (frN _).drew
    repeat((first|(refine zl rfl ?_;constructor;constructor;(focus(first|exact zog rfl (λw h=>h.1) o.o|exact zog rfl (λw h=>h.2) H.o|exact λw' h=>xR.exec_eql (u:=(zf k).toArray) (v:=(zf x).toArray) rfl rfl rfl (yu a.o) (yu C.o) false ⟨λe=>(by cases e),λe=>absurd e I.o⟩ w'|(rintro w' -;exact goS))))|(refine zm rfl ?_));try simp only[Act.put,pA,pB,pC])
    refine zL (hK.out _ _ ?_)
    go_wp2
    go_roundw
    case rel=>exact⟨n+1,by simp,by omega,r.o,i.o.drew⟩
    case measure=>show l.length-(n+1)<l.length-n;omega
  ·have P:¬(n:Int)<(l.length:Int):=by omega
   have E:n=l.length:=by omega
   have g:k∉l:=by have:=p.o;rw[E,take_length] at this;exact this
   have G:=J (zap g)
   clear g E
   go_wp2
   go_ret
   exact⟨by rw[G.o];rfl,m.o.trans0 i.o⟩
theorem YH (w:World) {l:List zd} (m:yP w v l) (s:l.length≤100000) (k:zd) (j:zY k):
  Calls prog 88 #[v,.agg (zf k).toArray] w λe w'=>e=.returned (.bool (decide (k∈l)))∧Fr No w w':=by
 obtain⟨u,y,rfl⟩:=m.2.form
 have o:=J (zx j)
 have p:=J (zy w (zf k) 41)
 have f:=@J (Fr No w (w.alloc (.cells (zf k).toArray 41))) (by(repeat(first|with_reducible exact Fr.refl _ _|with_reducible assumption|with_reducible refine Fr.drew ?_|with_reducible refine Fr.drewN ?_ _|with_reducible refine Fr.alloc ?_ _|with_reducible refine Fr.setCell ?_ _ (.inl (by simp<;>omega)) _)))
 have n:=J (zcU (w.alloc (.cells (zf k).toArray 41)) (m.keep f.o) s k j)
 have q:=J (zg1 (x:=k) (l:=l))
 clear m j
 have a:(k∈l∧0≤Qk k l)∨(k∉l∧¬0≤Qk k l):=by
  have:=q.o
  by_cases h:k∈l
  ·exact .inl ⟨h,this.2 h⟩
  ·exact .inr ⟨h,λe=>h (this.1 e)⟩
 generalize Qk k l=i at*
 go_enter Tryz.func88,Tryz.ntmps88
 rcases a with⟨c,r⟩|⟨c,r⟩
 ·have d:=@J (decide (k∈l)=true) (decide_eq_true c)
  clear c
  go_wp2_with (first|(refine zoc rfl rfl rfl p.o o.o ?_)|(go_at_call 83;refine n.o.mono ?_;rintro e t ⟨rfl,b⟩;have g:=J (f.o.trans0 b);clear b))
  go_ret
  exact⟨by rw[d.o];rfl,g.o⟩
 ·have d:=@J (decide (k∈l)=false) (decide_eq_false c)
  clear c
  go_wp2_with (first|(refine zoc rfl rfl rfl p.o o.o ?_)|(go_at_call 83;refine n.o.mono ?_;rintro e t ⟨rfl,b⟩;have g:=J (f.o.trans0 b);clear b))
  go_ret
  exact⟨by rw[d.o];show Ending.returned (.bool (decide (0≤i)))=_;rw[decide_eq_false (by omega)],g.o⟩
def zca (q:Nat):Value:=.func (.func 163) #[] #[.pointer (some ⟨q,0,none⟩)]
theorem VK (w:World) {q:Nat} {k x:zd} (c:w.rangeAt q 0 (zf k)) (b:zY k) (d:zY x):
  Calls prog 163 #[.agg (zf x).toArray,.pointer (some ⟨q,0,none⟩)] w λe w'=>e=.returned (.bool (decide (x=k)))∧Fr No w w':=by
 have g:=J (zx b)
 have h:=J (zx d)
 have i:=J (zy w (zf x) 41)
 have a:=@J (Fr No w (w.alloc (.cells (zf x).toArray 41))) (by(repeat(first|with_reducible exact Fr.refl _ _|with_reducible assumption|with_reducible refine Fr.drew ?_|with_reducible refine Fr.drewN ?_ _|with_reducible refine Fr.alloc ?_ _|with_reducible refine Fr.setCell ?_ _ (.inl (by simp<;>omega)) _)))
 have j:=J (za c a.o id)
 clear c
 have f:=@J ((decide (x=k)=true↔(zf x).toArray=(zf k).toArray)) (by
  rw[decide_eq_true_iff]
  exact⟨λe=>by rw[e],λe=>y3 (congrArg Value.agg e)⟩)
 generalize decide (x=k)=l at*
 go_enter Tryz.func163,Tryz.ntmps163
 go_wp2_with (first|(refine zoc rfl rfl rfl i.o h.o ?_)|(refine zoc rfl rfl rfl j.o g.o ?_)|(refine zg rfl (xR.exec_eql rfl rfl rfl (yu d) (yu b) l f.o _) ?_))
 go_ret
 exact⟨by rfl,a.o⟩
theorem zcs (w:World) {l:List zd} (u:yP w v l) (M:l.length≤100000) {q:Nat} {k:zd} (m:w.rangeAt q 0 (zf k)) (D:zY k):
  Calls prog 137 #[v,zca q] w λe w'=>e=.returned (.int .i64 (Qk k l))∧Fr No w w':=by
 obtain⟨O,P,rfl⟩:=u.2.form
 unfold zca
 have z:=J u
 have g:=J D
 have C:=J m
 clear u D m
 go_enter Tryz.func137,Tryz.ntmps137
 go_wp2
 go_loopw [8] (λy wr=>∃n:Nat,y=.int .i64 n∧n≤l.length∧k∉l.take n∧Fr No w wr) (λy _=>l.length-(intOf y).toNat)
 case atStart=>exact⟨0,rfl,zero_le _,by simp,Fr.refl _ _⟩
 case round=>
  obtain⟨n,rfl,N,j,fr⟩:=hrel
  have a:=J fr
  have r:=J j
  clear fr j
  by_cases h:n<l.length
  ·have K:(n:Int)<(l.length:Int):=by omega
   obtain⟨x,d⟩:∃x,l[n]? =some x:=⟨_,getElem?_eq_getElem h⟩
   obtain⟨b,off,c,I,m,H⟩:=(z.o.keep a.o).at_ d
   cases I
   have t:=J (z.o.1 x (mem_of_getElem? d))
   have A:=J (zx t.o)
   have B:=J m
   clear m H
   by_cases hxk:x=k
   ·have F:=J (Vr (hxk▸d) r.o)
    have o:=@J (decide (x=k)=true) (decide_eq_true hxk)
    clear d hxk
    go_wp2_with (first|(refine zoc rfl rfl rfl B.o A.o ?_)|(go_at_call 163;refine(VK _ (za C.o a.o id) g.o t.o).mono ?_;rintro e L ⟨rfl,i⟩;rw[o.o];have p:=J (a.o.trans0 i);clear i))
    go_ret
    exact⟨by rw[F.o];rfl,p.o⟩
   ·have o:=@J (decide (x=k)=false) (decide_eq_false hxk)
    have s:=@J (k∉l.take (n+1)) (by
     rw[take_add_one,d]
     simp only[Option.toList_some,mem_append,mem_singleton]
     exact λe=>e.elim r.o (λe=>hxk e.symm))
    clear d hxk
    go_wp2_with (first|(refine zoc rfl rfl rfl B.o A.o ?_)|(go_at_call 163;refine(VK _ (za C.o a.o id) g.o t.o).mono ?_;rintro e L ⟨rfl,i⟩;rw[o.o];have p:=J (a.o.trans0 i);clear i))
    go_roundw
    case rel=>exact⟨n+1,by simp,by omega,s.o,p.o⟩
    case measure=>show l.length-(n+1)<l.length-n;omega
  ·have K:¬(n:Int)<(l.length:Int):=by omega
   have E:n=l.length:=by omega
   have f:k∉l:=by have:=r.o;rw[E,take_length] at this;exact this
   have G:=J (zap f)
   clear f E
   go_wp2
   go_ret
   exact⟨by rw[G.o];rfl,a.o⟩
end Go.Proofs.YtdkkjchclkjleaaGreatDoor
namespace Go
open Go.RowKit Go.Maps Go.MapKept
theorem ZK {P:Program} (w:World) (t e ty:TypeId) (a:List Value) (s:P.underlying t=some (.slice e)) (u:∀w,(zeroValue e).run P w=.ok (.agg a.toArray) w) (p:∀v∈a,v.oneCell'=true) (x:0<a.length) (b o n c:Nat) (y:0<n)
  (k:w.there b o (n*a.length)):∃cs:List Value,cs.length=n*a.length∧
  (Builtin.clear_ #[t] ty #[.slice (some ⟨b,o,none⟩) n c]).run P w=.ok (.tuple #[]) (w.setCells b o cs):=by
 have h:(Builtin.zeroCells a.toArray n).toList.length=n*a.length:=by simp[Builtin.zeroCells]
 have q:∀v∈(Builtin.zeroCells a.toArray n).toList,v.oneCell'=true:=by
  intro v f
  simp only[Builtin.zeroCells,Array.toList_map,List.mem_map,Array.toList_range,List.mem_range] at f
  obtain⟨i,-,rfl⟩:=f
  have r:i % a.length<a.length:=Nat.mod_lt _ x
  have l:a.toArray[i % a.toArray.size]! =a[i % a.length]:=by
   simp only[List.size_toArray]
   rw[getElem!_pos _ _ (by simpa using r)]
   simp
  rw[l]
  exact p _ (List.getElem_mem _)
 refine⟨(Builtin.zeroCells a.toArray n).toList,h,?_⟩
 have d:=run_storeCells_cells (P:=P) b o (Builtin.zeroCells a.toArray n).toList 0 w (by rw[h];simpa using λj g=>(k j g).1) (by rw[h];simpa using λj g=>(k j g).2) q
 simp only[Nat.add_zero] at d
 obtain⟨m,rfl⟩:∃m,n=m+1:=⟨n-1,by omega⟩
 simp[Builtin.clear_,run_underlying s,u,Value.cells,d]
theorem YR:∀(cs xs:List Value) (o o':Nat),o'≤o→(setM xs o cs).take o'=xs.take o'
 |[],_,_,_,_=>rfl
 |v::r,xs,o,o',h=>by
  simp only[setM]
  rw[YR r _ (o+1) o' (by omega)]
  apply List.ext_getElem?
  intro i
  rw[List.getElem?_take,List.getElem?_take]
  split
  ·rw[List.getElem?_set_ne (by omega)]
  ·rfl
theorem Zr {w:World} {B g a n m k:Nat} {e:TypeId} {xs:List Value} (h:w.ownsRow B e k (.slice (some ⟨g,0,none⟩) n a) n xs) (p:m≤n):w.ownsRow B e k (.slice (some ⟨g,0,none⟩) m a) m (xs.take (m*k)):=by
 have i:m*k≤n*k:=Nat.mul_le_mul_right _ p
 refine⟨by rw[List.length_take,h.1];omega,?_⟩
 rcases h.2 with⟨c,_⟩|⟨r,j,b,c,l,o,s,d,f,q⟩
 ·cases c
 ·injection c with e2 e3 e4
  injection e2 with e2
  injection e2 with e5
  subst e5 e4
  exact .inr ⟨g,a,b,rfl,l,o,by omega,d,f,by rw[←q,List.take_take,Nat.min_eq_left i]⟩
end Go
namespace Go.Proofs.YtdkkjchclkjleaaGreatDoor
open Go Go.RowKit Go.Maps Go.MapKept
open Go.Proofs.Tryz(prog)
open List(mem_map getElem?_eq_getElem mem_append mem_of_getElem? mem_cons length_append length_map take_add_one mem_singleton take_length mem_filter map_append length_take all_eq_true nodup_cons map_cons length_cons nodup_append flatMap_append nil_append filter_append filter_eq_self not_mem_nil mem_flatMap map_map length_nil length_singleton append_of_mem drop_drop filter_sublist)
open Nat(le_refl zero_le le_trans)
variable {B b m n:Nat} {U:Nat→Prop} {w wr:World}
structure jB (k:zd) (l R:List zd) (n m:Nat):Prop where
 len:R.length=l.length
 pre:R.take n=(l.take m).filter λx=>decide (x≠k)
 suf:R.drop m=l.drop m
 lt:n<m
 le:m≤l.length
theorem jB.start {k:zd} {l:List zd} (h:l[n]? =some k) (b:k∉l.take n):jB k l l n (n+1):=by
 have a:=(List.getElem?_eq_some_iff.1 h).1
 refine⟨rfl,?_,rfl,by omega,a⟩
 rw[take_add_one,h,filter_append]
 simp only[Option.toList_some]
 rw[filter_eq_self.2 (λx c=>by simp;rintro rfl;exact b c)]
 simp
theorem jB.skip {k:zd} {l R:List zd} (h:jB k l R n m) (b:l[m]? =some k):jB k l R n (m+1):=by
 have a:=(List.getElem?_eq_some_iff.1 b).1
 refine⟨h.len,?_,?_,by have:=h.lt;omega,a⟩
 ·rw[take_add_one,b,filter_append,h.pre]
  simp
 ·rw[←drop_drop,h.suf,drop_drop]
theorem jB.keep {k x:zd} {l R:List zd} (h:jB k l R n m) (b:l[m]? =some x) (d:x≠k):jB k l (R.set n x) (n+1) (m+1):=by
 have a:=(List.getElem?_eq_some_iff.1 b).1
 have f:=h.lt
 have c:=h.len
 refine⟨by rw[List.length_set,c],?_,?_,by omega,a⟩
 ·rw[take_add_one (l:=l),b,filter_append,←h.pre,take_add_one,List.getElem?_set_self (by omega)]
  have e:(R.set n x).take n=R.take n:=by
   apply List.ext_getElem?
   intro i
   rw[List.getElem?_take,List.getElem?_take]
   split
   ·rw[List.getElem?_set_ne (by omega)]
   ·rfl
  rw[e]
  simp[d]
 ·rw[List.drop_set_of_lt (by omega),←drop_drop,h.suf,drop_drop]
theorem jB.at_ {k x:zd} {l R:List zd} (h:jB k l R n m) (b:l[m]? =some x):R[m]? =some x:=by
 have a:(R.drop m)[0]? =(l.drop m)[0]? :=by rw[h.suf]
 simpa[b] using a
theorem jB.done {k:zd} {l R:List zd} (h:jB k l R n l.length):R.take n=l.filter λx=>decide (x≠k):=by rw[h.pre,take_length]
def zno (B:Nat) (w:World) (v:Value) (k:zd) (l:List zd) (v':Value) (w':World):Prop:=
 w'.ownsRow B 41 32 v' (l.filter λx=>decide (x≠k)).length ((l.filter λx=>decide (x≠k)).flatMap zf)∧Fr (λj=>v.ownBlock=some j) w w'∧(∀j,v'.ownBlock=some j→v.ownBlock=some j)
theorem filter_none {k:zd} {l:List zd} (h:k∉l):l.filter (λx=>decide (x≠k))=l:=filter_eq_self.2 λx a=>by simp;rintro rfl;exact h a
theorem Xk {v:Value} {l:List zd} (o:w.ownsRow B 41 32 v l.length (l.flatMap zf)) (ok:∀x∈l,zY x) (hN:l.length≤100000) {q:Nat} {k:zd} (S:w.rangeAt q 0 (zf k)) (Q:zY k) (Y:∀j,v.ownBlock=some j→j≠q) (_:q<w.heap.size):
  Calls prog 98 #[v,zca q] w λe w'=>∃v',e=.returned v'∧zno B w v k l v' w':=by
 have zh:=yS
 have G:=J (zcs w (yP.own o ok) hN S Q)
 by_cases hin:k∈l
 ·obtain⟨va,p,e⟩:=o.slice.arg.form
  subst e
  obtain⟨i,hi⟩:∃i,l[i]? =some k∧k∉l.take i:=by
   clear o ok hN G S Q Y
   induction l with
   |nil=>cases hin
   |cons y r ih=>
    by_cases e:y=k
    ·exact⟨0,by simp[e],by simp⟩
    ·have O:k∈r:=by
      rcases mem_cons.1 hin with h|h
      ·exact absurd h.symm e
      ·exact h
     obtain⟨i,h1,h2⟩:=ih O
     exact⟨i+1,by simpa using h1,by simp;exact⟨λe'=>e e'.symm,h2⟩⟩
  have EI:=J (Vr hi.1 hi.2)
  have ST:=J (jB.start hi.1 hi.2)
  have ak:=(List.getElem?_eq_some_iff.1 hi.1).1
  obtain⟨g,rfl⟩:∃g,va=some ⟨g,0,none⟩:=by
   rcases o.2 with⟨e,_⟩|⟨g,c,aj,e,_⟩
   ·injection e with e1 e2;omega
   ·injection e with e1;exact⟨g,e1⟩
  have j1:¬(i:Int)= -1:=by omega
  have HL:=J o
  have RQ:=J S
  have K:=J Q
  have OK:=J ok
  have NQ:=@J (¬q=g) (λe=>Y g rfl e.symm)
  clear o ok S Q Y hi hin
  unfold zca
  unfold zca at G
  go_enter Tryz.func98,Tryz.ntmps98
  go_wp2_with (go_at_call 137;refine G.o.mono ?_;rintro e w1 ⟨rfl,M⟩;rw[EI.o];have E:=J M;clear M)
  rw[show((i:Int)== -1)=false from by simp]
  clear j1
  go_loopw [5,6] (λnv mv wr=>∃(n m:Nat) (R:List zd),nv=.int .i64 n∧mv=.int .i64 m∧jB k l R n m∧wr.ownsRow B 41 32 (.slice (some ⟨g,0,none⟩) l.length p) l.length (R.flatMap zf)∧(∀x∈R,zY x)∧Fr (· =g) w wr) (λ_ mv _=>l.length-(intOf mv).toNat)
  case atStart=>exact⟨i,i+1,l,rfl,by simp,ST.o,zb HL.o E.o (λ_ _=>id),OK.o,E.o.of0⟩
  case round=>
   obtain⟨n,m,R,rfl,rfl,N,ho,hok,fr⟩:=hrel
   have V:=J N
   have u:=J ho
   have b:=J hok
   have W:=J fr
   have al:=N.le
   have an:=N.lt
   have z:=J N.len
   clear N ho hok fr
   by_cases h:m<l.length
   ·have i1:(m:Int)<(l.length:Int):=by omega
    have i2:(n:Int)<(l.length:Int):=by omega
    obtain⟨x,D⟩:∃x,l[m]? =some x:=⟨_,getElem?_eq_getElem h⟩
    have U:=V.o.at_ D
    have H:=@J (wr.ownsRow B 41 32 (.slice (some ⟨g,0,none⟩) R.length p) R.length (R.flatMap zf)) (by rw[z.o];exact u.o)
    obtain⟨b2,ai,ag,hv,T,hb⟩:=(yP.own H.o b.o).at_ U
    cases hv
    have X:=J (OK.o x (mem_of_getElem? D))
    have d:=J (zx X.o)
    have R1:=@J (wr.rangeAt g (m*32) (zf x)) (by simpa using T)
    have FA:=J ((frN wr).alloc (.cells (zf x).toArray 41))
    have RN:=J (zy wr (zf x) 41)
    have L:=J (za (za RQ.o W.o NQ.o) FA.o id)
    clear T hb U
    by_cases hxk:x=k
    ·have D1:=@J (decide (x=k)=true) (decide_eq_true hxk)
     have t:=J (V.o.skip (hxk▸D))
     clear D hxk
     go_wp2_with (first|(refine zoc rfl rfl rfl R1.o d.o ?_)|(refine zi rfl (zj (w:=wr) (cs:=zf x) (ty:=41) rfl rfl rfl (by rw[d.o];rfl) (by rw[d.o];exact yt) zU) ?_)|(refine zoc rfl rfl rfl RN.o d.o ?_)|(go_at_call 163;refine(VK _ L.o K.o X.o).mono ?_;rintro e w2 ⟨rfl,C⟩;rw[D1.o];have F:=J (FA.o.trans0 C);clear C))
     go_roundw
     case rel=>exact⟨n,m+1,R,rfl,by simp,t.o,zb u.o F.o (λ_ _=>id),b.o,W.o.trans0 F.o⟩
     case measure=>show l.length-(m+1)<l.length-m;omega
    ·have D1:=@J (decide (x=k)=false) (decide_eq_false hxk)
     have t:=J (V.o.keep D hxk)
     clear D hxk
     go_wp2_with (first|(refine zoc rfl rfl rfl ae.o d.o ?_)|(refine zi rfl (zK (ty:=41) rfl rfl rfl (by rw[d.o];exact TH.o) (by rw[d.o];exact yt) zU) ?_)|(refine zoc rfl rfl rfl R1.o d.o ?_)|(refine zi rfl (zj (w:=wr) (cs:=zf x) (ty:=41) rfl rfl rfl (by rw[d.o];rfl) (by rw[d.o];exact yt) zU) ?_)|(refine zoc rfl rfl rfl RN.o d.o ?_)|(go_at_call 163;refine(VK _ L.o K.o X.o).mono ?_;rintro e w2 ⟨rfl,C⟩;rw[D1.o];have F:=J (FA.o.trans0 C);have ae:=J (za RN.o C id);have I:=J (zb H.o F.o (λ_ _=>id));have TH:=J (Js I.o (show n<R.length by rw[z.o];omega));clear C))
     have ab:=J (zg9 (f:=zf) (λy hy=>zx (b.o y hy)) I.o (show n<R.length by rw[z.o];omega) x d.o)
     have ad:=@J ((w2.setCells g (n*32) (zf x)).ownsRow B 41 32 (.slice (some ⟨g,0,none⟩) l.length p) l.length ((R.set n x).flatMap zf)) (by have:=ab.o;rw[z.o] at this;exact this)
     go_roundw
     case rel=>exact⟨n+1,m+1,R.set n x,by simp,by simp,t.o,ad.o,λy hy=>(List.mem_or_eq_of_mem_set hy).elim (b.o y) (λe=>e▸X.o),(W.o.trans0 F.o).trans (zu g (zf x) (n*32) w2) (λ_ _ h=>h)⟩
     case measure=>show l.length-(m+1)<l.length-m;omega
   ·have i1:¬(m:Int)<(l.length:Int):=by omega
    have af:m=l.length:=by omega
    subst af
    have DN:=J V.o.done
    have aa:=@J ((R.flatMap zf).length=l.length*32) (u.o.1)
    have LN:=@J ((l.filter λx=>decide (x≠k)).length=n) (by rw[←DN.o,length_take,z.o];omega)
    obtain⟨cs,A,s⟩:=ZK (P:=prog) wr 38 41 0 (zf yR) xP yS zU (by rw[zx xM];decide) g (n*32) (l.length-n) (p-n) (by omega) (λj hj=>by
     rw[zx xM] at hj
     refine⟨?_,u.o.frozenAt _⟩
     rw[u.o.cellAt (n*32+j) (by omega),getElem?_eq_getElem (by rw[aa.o];omega)]
     rfl)
    rw[zx xM] at A
    have HS:=J (qX u.o (n*32) (cs:=cs) (by rw[A];omega))
    have HT:=J (Zr HS.o (m:=n) (by omega))
    have HF:=@J ((setM (R.flatMap zf) (n*32) cs).take (n*32)=(l.filter λx=>decide (x≠k)).flatMap zf) (by
     rw[YR _ _ _ _ (le_refl _),←DN.o]
     conv=>lhs;rw[←List.take_append_drop n R]
     rw[flatMap_append,List.take_append_of_le_length,List.take_of_length_le]
     ·rw[xI zf 32 _ (λa ha=>zx (b.o a (List.mem_of_mem_take ha))),length_take,z.o];omega
     ·rw[xI zf 32 _ (λa ha=>zx (b.o a (List.mem_of_mem_take ha))),length_take,z.o];omega)
    have FZ:=J (W.o.trans (zu g cs (n*32) wr) (λ_ _ h=>h))
    have Z:=J s
    have ah:l.length≤p:=xG.cap u.o.slice.arg
    have jc:¬p=n:=by omega
    have ao:¬n=p:=by omega
    clear s A
    go_wp2_with (refine jX rfl rfl rfl Z.o ?_)
    go_ret
    refine⟨.slice (some ⟨g,0,none⟩) n p,by rfl,?_,FZ.o.mono (λj hj=>by rw[hj];rfl),λ_ h=>h⟩
    rw[LN.o,←HF.o]
    exact HT.o
 ·have EI:=J (zap hin)
  have FN:=J (filter_none hin)
  obtain⟨va,p,e⟩:=o.slice.arg.form
  subst e
  have HL:=J o
  clear o ok S Q Y hin
  unfold zca
  unfold zca at G
  go_enter Tryz.func98,Tryz.ntmps98
  go_wp2_with (go_at_call 137;refine G.o.mono ?_;rintro e w1 ⟨rfl,M⟩;rw[EI.o];have E:=J M;clear M)
  go_ret
  exact⟨_,by rfl,by rw[FN.o];exact zb HL.o E.o (λ_ _=>id),E.o.of0,λ_ h=>h⟩
theorem zfa {α β:Type}:∀ {M:List (α×β)} {k:α} {v v':β},(M.map (·.1)).Nodup→(k,v)∈M→(k,v')∈M→v=v'
 |[],_,_,_,_,h,_=>by cases h
 |x::r,k,v,v',hn,h1,h2=>by
  simp only[map_cons,nodup_cons] at hn
  rcases mem_cons.1 h1 with e1|h1<;>rcases mem_cons.1 h2 with e2|h2
  ·rw[←e1] at e2;injection e2 with _ e;exact e.symm
  ·exact absurd (mem_map.2 ⟨_,h2,rfl⟩) (by rw[←e1] at hn;exact hn.1)
  ·exact absurd (mem_map.2 ⟨_,h1,rfl⟩) (by rw[←e2] at hn;exact hn.1)
  ·exact zfa hn.2 h1 h2
theorem zh7 {X Y g Z:List Nat} {d:Nat} (h:(X++(Y++Z)).Nodup) (k:∀j∈X++(Y++Z),j<d) (s:g.Nodup) (l:∀j∈g,j∈Y∨d≤j):(X++(g++Z)).Nodup:=by
 obtain⟨n,o,i⟩:=nodup_append.1 h
 obtain⟨t,q,r⟩:=nodup_append.1 o
 refine nodup_append.2 ⟨n,nodup_append.2 ⟨s,q,λa f b c e=>?_⟩,λa f b c e=>?_⟩
 ·rcases l a f with h|h
  ·exact r a h b c e
  ·have:=k b (by simp[c]);omega
 ·rcases mem_append.1 c with c|c
  ·rcases l b c with h|h
   ·exact i a f b (by simp[h]) e
   ·have:=k a (by simp[f]);omega
  ·exact i a f b (by simp[c]) e
structure yL where
 id:zd
 seq:Nat
 ps:List zd
 ks:List zd
 b:Nat
 pv:Value
 cv:Value
def yL.blks (r:yL):List Nat:=r.b::(r.pv.ownBlock.toList++r.cv.ownBlock.toList)
def Qo (b:Nat):Value:=.pointer (some ⟨b,0,none⟩)
abbrev qH (w:World) (m:Nat) (M:List (zd×Nat)):=yD prog 41 y7 Qo w m M
structure Xf (w:World) (B:Nat) (r:yL):Prop where
 blk:w.heap[r.b]? =some (.cells #[.int .i64 (r.seq:Int),r.pv,r.cv] 201 (0,0))
 prow:w.ownsRow B 41 32 r.pv r.ps.length (r.ps.flatMap zf)
 crow:w.ownsRow B 41 32 r.cv r.ks.length (r.ks.flatMap zf)
def yT (p m:Nat) (L:List yL):List Nat:=p::m::L.flatMap yL.blks
def yL.ok (r:yL):Prop:=zY r.id∧(∀x∈r.ps,zY x)∧∀x∈r.ks,zY x
structure GR (w0 w:World) (p m sq:Nat) (L:List yL):Prop where
 obj:w.heap[p]? =some (.cells #[.map (some m),.int .i64 (sq:Int)] 199 (0,0))
 map:∃M,qH w m M∧∀k b,(k,b)∈M↔∃r∈L,r.id=k∧r.b=b
 node:∀r∈L,Xf w w0.heap.size r
 apart:(yT p m L).Nodup
 lo:∀j∈yT p m L,w0.heap.size≤j
 ok:∀r∈L,r.ok
 idn:(L.map (·.id)).Nodup
 seqs:L.Pairwise (λa b=>a.seq<b.seq)
 top:∀r∈L,r.seq≤sq
 fr:Fr No w0 w
theorem Xf.hi {w:World} {r:yL} (h:Xf w B r):∀j∈r.blks,j<w.heap.size:=by
 intro j a
 unfold yL.blks at a
 simp only[mem_cons,mem_append,Option.mem_toList] at a
 rcases a with rfl|a|a
 ·exact yF h.blk
 ·exact(h.prow.lt j a).2
 ·exact(h.crow.lt j a).2
theorem Xf.keep {w w':World} {r:yL} (h:Xf w B r) {W:Nat→Prop} (f:Fr W w w') (a:∀j∈r.blks,¬W j):Xf w' B r:=by
 unfold yL.blks at a
 simp only[mem_cons,mem_append,Option.mem_toList] at a
 exact⟨f.obj h.blk (a _ (.inl rfl)),zb h.prow f (λb e=>a b (.inr (.inl e))),zb h.crow f (λb e=>a b (.inr (.inr e)))⟩
section
variable {w0 w w':World} {p m sq:Nat} {L:List yL}
theorem GR.hi (h:GR w0 w p m sq L):∀j∈yT p m L,j<w.heap.size:=by
 intro j a
 unfold yT at a
 simp only[mem_cons,mem_flatMap] at a
 rcases a with rfl|rfl|⟨r,c,a⟩
 ·exact yF h.obj
 ·obtain⟨M,b,-⟩:=h.map;exact b.lt
 ·exact(h.node r c).hi j a
theorem GR.frV (h:GR w0 w p m sq L) (f:Fr U w w') (a:∀j∈yT p m L,¬U j) (d:∀j,U j→w0.heap.size≤j):GR w0 w' p m sq L:=by
 have n:¬U p:=a p (by simp[yT])
 have l:¬U m:=a m (by simp[yT])
 have b:∀r∈L,∀j∈r.blks,¬U j:=λr b j k=>a j (by simp only[yT,mem_cons,mem_flatMap];exact .inr (.inr ⟨r,b,k⟩))
 exact {h with
  obj:=f.obj h.obj n
  map:=by obtain⟨M,g,o⟩:=h.map;exact⟨M,g.keep f l,o⟩
  node:=λr c=>(h.node r c).keep f (b r c)
  fr:=h.fr.trans f (λi hi e=>by have:=d i e;omega)}
theorem GR.fr0 (h:GR w0 w p m sq L) (f:Fr No w w'):GR w0 w' p m sq L:=h.frV f (λ_ _=>id) (λ_ h=>h.elim)
theorem GR.look (h:GR w0 w p m sq L) {M:List (zd×Nat)} (i:∀k b,(k,b)∈M↔∃r∈L,r.id=k∧r.b=b) {r:yL} (c:r∈L) (b:Nat):(r.id,b)∈M↔b=r.b:=by
 rw[i]
 constructor
 ·rintro⟨d,a,e,rfl⟩
  have g:=h.idn
  have:d=r:=by
   have f:((L.map λx=>(x.id,x)).map (·.1)).Nodup:=by rw[map_map];exact g
   exact zfa f (k:=r.id) (mem_map.2 ⟨d,a,by rw[e]⟩) (mem_map.2 ⟨r,c,rfl⟩)
  rw[this]
 ·rintro rfl;exact⟨r,c,rfl,rfl⟩
theorem GR.run_look (h:GR w0 w p m sq L) {x:zd} (g:zY x) (c:Bool) (i:c=false):
  (∀r∈L,r.id=x→∀w',(∀M,qH w m M→qH w' m M)→(Instr.lookup 197 (.map (some m)) (y7 x) c).run prog w'=.ok (Qo r.b) w')∧
  (x∉L.map (·.id)→∀w',(∀M,qH w m M→qH w' m M)→(Instr.lookup 197 (.map (some m)) (y7 x) c).run prog w'=.ok (.pointer none) w'):=by
 subst i
 obtain⟨M,d,f⟩:=h.map
 refine⟨λr b e w' a=>?_,λj w' a=>?_⟩
 ·subst e
  have:=(a M d).look xR.keyed J8 (λ_ _=>y3) zfH (yu g) false (r:=some r.b) (λv=>by
   rw[h.look f b];exact⟨λe=>(Option.some.inj e).symm,λe=>by rw[e]⟩)
  simpa using this
 ·have:=(a M d).look xR.keyed J8 (λ_ _=>y3) zfH (yu g) false (r:=none) (λv=>by
   rw[f]
   exact⟨λe=>(by cases e),λ⟨r,b,e,_⟩=>absurd (mem_map.2 ⟨r,b,e⟩) j⟩)
  simpa using this
theorem xD (A B:List yL) (r:yL):yT p m (A++r::B)=(p::m::A.flatMap yL.blks)++(r.blks++B.flatMap yL.blks):=by simp[yT]
theorem GR.turn {A B:List yL} {r l:yL} (h:GR w0 w p m sq (A++r::B)) {W:Nat→Prop} (f:Fr W w w') (y:∀j,W j→j∈r.blks) (Q:Xf w' w0.heap.size l) (hi:l.id=r.id) (t:l.b=r.b) (C:l.seq=r.seq) (F:∀j∈l.blks,j∈r.blks∨w.heap.size≤j) (K:l.blks.Nodup) (ok:l.ok):
  GR w0 w' p m sq (A++l::B):=by
 have s:=h.apart
 have u:=h.hi
 rw[xD] at s u
 obtain⟨U,R,S⟩:=nodup_append.1 s
 obtain⟨X,Y,T⟩:=nodup_append.1 R
 have z:∀j∈p::m::A.flatMap yL.blks,¬W j:=λj d e=>S j d j (by simp[y j e]) rfl
 have I:∀j∈B.flatMap yL.blks,¬W j:=λj d e=>T j (y j e) j d rfl
 have v:((A++l::B).map (·.id))=((A++r::B).map (·.id)):=by simp[hi]
 have q:∀ {P:yL→Prop},(∀x∈A++r::B,P x)→P l→∀x∈A++l::B,P x:=by
  intro P g o x c
  rcases mem_append.1 c with c|c
  ·exact g x (by simp[c])
  ·rcases mem_cons.1 c with rfl|c
   ·exact o
   ·exact g x (by simp[c])
 refine⟨f.obj h.obj (z p (by simp)),?_,λx c=>?_,?_,λj d=>?_,q h.ok ok,by rw[v];exact h.idn,?_,q h.top (by rw[C];exact h.top r (by simp)),?_⟩
 ·obtain⟨M,H,D⟩:=h.map
  refine⟨M,H.keep f (z m (by simp)),λk b=>?_⟩
  rw[D]
  constructor
  ·rintro⟨x,c,g,o⟩
   rcases mem_append.1 c with c|c
   ·exact⟨x,by simp[c],g,o⟩
   ·rcases mem_cons.1 c with rfl|c
    ·exact⟨l,by simp,by rw[hi,g],by rw[t,o]⟩
    ·exact⟨x,by simp[c],g,o⟩
  ·rintro⟨x,c,g,o⟩
   rcases mem_append.1 c with c|c
   ·exact⟨x,by simp[c],g,o⟩
   ·rcases mem_cons.1 c with rfl|c
    ·exact⟨r,by simp,by rw[←hi,g],by rw[←t,o]⟩
    ·exact⟨x,by simp[c],g,o⟩
 ·rcases mem_append.1 c with c|c
  ·exact(h.node x (by simp[c])).keep f (λj d=>z j (by simp only[mem_cons,mem_flatMap];exact .inr (.inr ⟨x,c,d⟩)))
  ·rcases mem_cons.1 c with rfl|c
   ·exact Q
   ·exact(h.node x (by simp[c])).keep f (λj d=>I j (mem_flatMap.2 ⟨x,c,d⟩))
 ·rw[xD]
  exact zh7 s u K F
 ·rw[xD] at d
  have n:=h.lo
  rw[xD] at n
  simp only[mem_append] at d n
  rcases d with d|d|d
  ·exact n j (.inl d)
  ·rcases F j d with g|g
   ·exact n j (.inr (.inl g))
   ·have:=h.fr.size;omega
  ·exact n j (.inr (.inr d))
 ·have:=h.seqs
  rw[List.pairwise_append,List.pairwise_cons] at this⊢
  rw[C]
  refine⟨this.1,this.2.1,λa E b t=>?_⟩
  rcases mem_cons.1 t with rfl|t
  ·rw[C];exact this.2.2 a E r (by simp)
  ·exact this.2.2 a E b (by simp[t])
 ·refine h.fr.trans f (λi O e=>?_)
  have:=h.lo i (by rw[xD];simp[y i e])
  omega
theorem GR.del {A B:List yL} {r:yL} {M M':List (zd×Nat)} (h:GR w0 w p m sq (A++r::B)) (u:∀k b,(k,b)∈M↔∃x∈A++r::B,x.id=k∧x.b=b) (t:qH w' m M') (s:Del M r.id M') (f:Fr (· =m) w w'):GR w0 w' p m sq (A++B):=by
 have g:=h.apart
 rw[xD] at g
 have d:(yT p m (A++B)).Sublist ((p::m::A.flatMap yL.blks)++(r.blks++B.flatMap yL.blks)):=by
  have e:yT p m (A++B)=(p::m::A.flatMap yL.blks)++B.flatMap yL.blks:=by simp[yT]
  rw[e]
  exact List.Sublist.append (List.Sublist.refl _) (List.sublist_append_right _ _)
 have c:(A++B).Sublist (A++r::B):=List.Sublist.append (List.Sublist.refl _) (List.sublist_cons_self _ _)
 obtain⟨C,D⟩:=nodup_cons.1 (show(p::m::((A.flatMap yL.blks)++(r.blks++B.flatMap yL.blks))).Nodup from g)
 obtain⟨E,I⟩:=nodup_cons.1 D
 refine⟨f.obj h.obj (λe=>C (by simp[e])),⟨M',t,λk b=>?_⟩,λx a=>(h.node x (c.subset a)).keep f (λj o e=>E ?_),g.sublist d,λj o=>h.lo j (by rw[xD];exact d.subset o),λx a=>h.ok x (c.subset a),h.idn.sublist (c.map _),h.seqs.sublist c,λx a=>h.top x (c.subset a),h.fr.trans f (λi hi e=>?_)⟩
 ·rw[s,u]
  have l:=h.idn
  rw[map_append,map_cons] at l
  obtain⟨F,v,y⟩:=nodup_append.1 l
  obtain⟨z,H⟩:=nodup_cons.1 v
  constructor
  ·rintro⟨q,x,a,rfl,n⟩
   rcases mem_append.1 a with a|a
   ·exact⟨x,by simp[a],rfl,n⟩
   ·rcases mem_cons.1 a with rfl|a
    ·exact absurd rfl q
    ·exact⟨x,by simp[a],rfl,n⟩
  ·rintro⟨x,a,rfl,n⟩
   refine⟨λe=>?_,x,c.subset a,rfl,n⟩
   rcases mem_append.1 a with a|a
   ·exact y _ (mem_map.2 ⟨x,a,rfl⟩) r.id (by simp) e
   ·exact z (by rw[←e];exact mem_map.2 ⟨x,a,rfl⟩)
 ·subst e
  rcases mem_append.1 a with a|a
  ·exact mem_append.2 (.inl (mem_flatMap.2 ⟨x,a,o⟩))
  ·exact mem_append.2 (.inr (mem_append.2 (.inr (mem_flatMap.2 ⟨x,a,o⟩))))
 ·subst e
  have:=h.lo i (by simp[yT])
  omega
theorem GR.ins {r:yL} {M M':List (zd×Nat)} (h:GR w0 w p m sq L) (F:∀k b,(k,b)∈M↔∃x∈L,x.id=k∧x.b=b) (A:qH w' m M') (B:Upd M r.id r.b M') (f:Fr (· =m) w w') (D:Xf w w0.heap.size r) (q:r.id∉L.map (·.id)) (C:r.blks.Nodup) (l:∀j∈r.blks,j∉yT p m L∧w0.heap.size≤j) (E:∀x∈L,x.seq<r.seq) (v:r.seq≤sq) (ok:r.ok):GR w0 w' p m sq (L++[r]):=by
 have e:yT p m (L++[r])=yT p m L++r.blks:=by simp[yT]
 have u:p≠m:=λe=>(nodup_cons.1 h.apart).1 (by simp[e])
 have t:∀x∈L,∀j∈x.blks,¬j=m:=λx c j g e=>(nodup_cons.1 (nodup_cons.1 h.apart).2).1 (by rw[←e];exact mem_flatMap.2 ⟨x,c,g⟩)
 have d:∀ {P:yL→Prop},(∀x∈L,P x)→P r→∀x∈L++[r],P x:=by
  intro P y s x c
  rcases mem_append.1 c with c|c
  ·exact y x c
  ·rw[mem_singleton.1 c];exact s
 refine⟨f.obj h.obj (λe=>u e),⟨M',A,λk b=>?_⟩,d (λx c=>(h.node x c).keep f (t x c)) (D.keep f λj g e=>(l j g).1 (by rw[e];simp[yT])),?_,λj g=>?_,d h.ok ok,?_,?_,d h.top v,h.fr.trans f (λi hi e=>?_)⟩
 ·rw[B,F]
  constructor
  ·rintro(⟨rfl,rfl⟩|⟨y,x,c,s,z⟩)
   ·exact⟨r,by simp,rfl,rfl⟩
   ·exact⟨x,by simp[c],s,z⟩
  ·rintro⟨x,c,rfl,rfl⟩
   rcases mem_append.1 c with c|c
   ·exact .inr ⟨λe=>q (by rw[←e];exact mem_map.2 ⟨x,c,rfl⟩),x,c,rfl,rfl⟩
   ·rw[mem_singleton.1 c];exact .inl ⟨rfl,rfl⟩
 ·rw[e]
  exact nodup_append.2 ⟨h.apart,C,λa o b n e=>(l b n).1 (by rw[←e];exact o)⟩
 ·rw[e] at g
  rcases mem_append.1 g with g|g
  ·exact h.lo j g
  ·exact(l j g).2
 ·rw[map_append]
  exact nodup_append.2 ⟨h.idn,by simp,λa o b n e=>q (by
   simp only[map_cons,List.map_nil,mem_singleton] at n
   rw[←n,←e];exact o)⟩
 ·exact List.pairwise_append.2 ⟨h.seqs,by simp,λa o b n=>by rw[mem_singleton.1 n];exact E a o⟩
 ·subst e
  have:=h.lo i (by simp[yT])
  omega
theorem GR.count (h:GR w0 w p m sq L) {s:Nat} (k:sq≤s):GR w0 (w.setCell ⟨p,1,none⟩ (.int .i64 (s:Int))) p m s L:=by
 have f:Fr (· =p) w (w.setCell ⟨p,1,none⟩ (.int .i64 (s:Int))):=(Fr.refl (· =p) w).setCell ⟨p,1,none⟩ (.inr rfl) _
 obtain⟨c,l⟩:=nodup_cons.1 h.apart
 refine⟨?_,?_,λr a=>(h.node r a).keep f (λj g e=>c (by rw[←e];simp only[mem_cons,mem_flatMap];exact .inr ⟨r,a,g⟩)),h.apart,h.lo,h.ok,h.idn,h.seqs,λr a=>le_trans (h.top r a) k,h.fr.trans f (λi hi e=>?_)⟩
 ·have:=heap_setCell_same w p 1 _ _ (.int .i64 (s:Int)) h.obj
  simpa using this
 ·obtain⟨M,d,b⟩:=h.map
  exact⟨M,d.keep f (λe=>c (by simp[e])),b⟩
 ·subst e
  have:=h.lo i (by simp[yT])
  omega
end
structure GC (w0 w:World) (p:Nat) (V:Nat→Prop) (G:List yX) (N:Nat):Prop where
 ex:∃m sq L,GR w0 w p m sq L∧V=(λj=>j∈yT p m L)∧L.map (λr=>(⟨r.id,r.ps⟩:yX))=G∧(∀r∈L,r.ks=kid G r.id)∧sq≤N
 gok:GOk G
 len:G.length≤N
section
variable {w0 w w':World} {p N:Nat} {V:Nat→Prop} {G:List yX}
theorem GC.fr (h:GC w0 w p V G N):Fr No w0 w:=by obtain⟨m,sq,L,a,-⟩:=h.ex;exact a.fr
theorem GC.lo (h:GC w0 w p V G N):∀j,V j→w0.heap.size≤j:=by obtain⟨m,sq,L,a,rfl,-⟩:=h.ex;exact a.lo
theorem GC.hi (h:GC w0 w p V G N):∀j,V j→j<w.heap.size:=by obtain⟨m,sq,L,a,rfl,-⟩:=h.ex;exact a.hi
theorem GC.frV (h:GC w0 w p V G N) (f:Fr U w w') (e:∀j,V j→¬U j) (a:∀j,U j→w0.heap.size≤j):GC w0 w' p V G N:=by
 obtain⟨m,sq,L,g,rfl,b,c,d⟩:=h.ex
 exact⟨⟨m,sq,L,g.frV f e a,rfl,b,c,d⟩,h.gok,h.len⟩
theorem GC.fr0 (h:GC w0 w p V G N) (f:Fr No w w'):GC w0 w' p V G N:=h.frV f (λ_ _=>id) (λ_ h=>h.elim)
theorem GC.mono (h:GC w0 w p V G N) {N':Nat} (a:N≤N'):GC w0 w p V G N':=by
 obtain⟨m,sq,L,e,f,b,c,d⟩:=h.ex
 exact⟨⟨m,sq,L,e,f,b,c,le_trans d a⟩,h.gok,le_trans h.len a⟩
theorem GC.okId (h:GC w0 w p V G N):∀x∈ids G,zY x:=by
 obtain⟨m,sq,L,c,g,rfl,e,f⟩:=h.ex
 intro x d
 obtain⟨n,b,rfl⟩:=mem_map.1 d
 obtain⟨r,a,rfl⟩:=mem_map.1 b
 exact(c.ok r a).1
end
theorem zk0:GOk []:=⟨by simp[ids],by simp,λA n B e=>by simp at e⟩
theorem zil (w:World):(Instr.makeMap 197 none).run prog w=.ok (.map (some w.heap.size)) (w.alloc (.map #[] 0)):=by kernel_rfl
theorem zaA (w:World):(Instr.makeMap 120 none).run prog w=.ok (.map (some w.heap.size)) (w.alloc (.map #[] 0)):=by kernel_rfl
theorem znU (w0 w:World) (f:Fr No w0 w):Calls prog 125 #[] w λe w'=>∃p,e=.returned (.pointer (some ⟨p,0,none⟩))∧∃V,GC w0 w' p V [] 0∧Fr No w w'∧∀j,V j→w.heap.size≤j:=by
 have d:=yj w (.map #[] 0)
 have k:=JE d (.cells #[.map (some w.heap.size),.int .i64 0] 199)
 have g:=yj (w.alloc (.map #[] 0)) (.cells #[.map (some w.heap.size),.int .i64 0] 199)
 have c:=J (((frN w).alloc (.map #[] 0)).alloc (.cells #[.map (some w.heap.size),.int .i64 0] 199))
 have h:qH ((w.alloc (.map #[] 0)).alloc (.cells #[.map (some w.heap.size),.int .i64 0] 199)) w.heap.size []:=(yD.made w).keep ((frN _).alloc _) id
 have a:=@J (GC w0 ((w.alloc (.map #[] 0)).alloc (.cells #[.map (some w.heap.size),.int .i64 0] 199)) (w.heap.size+1) (λj=>j∈yT (w.heap.size+1) w.heap.size []) [] 0) (by
  refine⟨⟨w.heap.size,0,[],⟨by simpa using g,⟨[],h,by simp⟩,by simp,by simp[yT],λj b=>?_,by simp,by simp,by simp,by simp,f.trans0 c.o⟩,rfl,rfl,by simp,le_refl _⟩,zk0,zero_le _⟩
  have:=f.size
  simp[yT] at b
  omega)
 have i:=@J (∀j,j∈yT (w.heap.size+1) w.heap.size []→w.heap.size≤j) (λj b=>by simp[yT] at b;omega)
 clear d k g h
 have l:=zil
 go_enter Tryz.func125,Tryz.ntmps125
 go_wp2_with fail
 go_ret
 exact⟨w.heap.size+1,by simp,_,a.o,c.o,i.o⟩
section
variable {w0 w:World} {p N:Nat} {V:Nat→Prop} {G:List yX}
theorem GR.keepM {L:List yL} (_:GR w0 w p m b L) {w':World} (f:Fr No w w'):∀M,qH w m M→qH w' m M:=λ_ a=>a.keep f id
end
def zaY (c:Int):Value:=.int .i64 c
abbrev JV (w:World) (b:Nat) (M:List (zd×Int)):=yD prog 41 y7 zaY w b M
def jN (up:Bool) (G:List yX) (x:zd):List zd:=if up then par G x else kid G x
noncomputable def zdT (up:Bool) (G:List yX) (l:List zd):List zd:=if up then upS G l else vk G l
theorem zh4 {G:List yX} (h:GOk G) {d:Bool} {l:List zd} {x:zd}:x∈zdT d G l↔∃a∈l,Rch (jN d G) (· ∈ids G) a x:=by
 cases d with
 |true=>exact zdI
 |false=>
  refine Yr.trans ⟨λ⟨a,b,c⟩=>⟨a,b,(zgN h).2 c⟩,λ⟨a,b,c⟩=>⟨a,b,(zgN h).1 c⟩⟩
theorem ze1 {G:List yX} (h:GOk G) (a:Bool) (x:zd):(jN a G x).length≤G.length:=by
 cases a
 ·exact zbb x
 ·exact zdO h x
structure WlK (w wr:World) (b:Nat) (tv:Value) (M:List (zd×Int)) (T vis:List zd) (up:Bool) (G:List yX) (l:List zd):Prop where
 own:wr.ownsRow w.heap.size 41 32 tv T.length (T.flatMap zf)
 ok:∀x∈T,zY x
 map:JV wr b M
 mem:∀k c,(k,c)∈M↔c=1∧k∈vis
 wl:Wl (jN up G) (· ∈ids G) l T vis
 cnt:M.length+T.length+wlW (jN up G) vis (ids G)≤l.length+G.length*G.length
 fr:Fr No w wr
 apart:∀j,tv.ownBlock=some j→j≠b
section
variable {w0 w:World} {p N:Nat} {V:Nat→Prop} {G:List yX}
theorem zbc {M:List (zd×Int)} {vis:List zd} (a:JV wr b M) (d:∀k c,(k,c)∈M↔c=1∧k∈vis) {x:zd} (f:zY x):
  (Instr.lookup 120 (.map (some b)) (y7 x) false).run prog wr=.ok (.int .i64 (if x∈vis then 1 else 0)) wr:=by
 by_cases h:x∈vis
 ·have:=a.look xR.keyed jt (λ_ _=>y3) zkE (yu f) false (r:=some 1) (λv=>by
   rw[d];exact⟨λe=>⟨(Option.some.inj e).symm,h⟩,λe=>by rw[e.1]⟩)
  rw[if_pos h]
  simpa[zaY] using this
 ·have:=a.look xR.keyed jt (λ_ _=>y3) zkE (yu f) false (r:=none) (λv=>by
   rw[d];exact⟨λe=>(by cases e),λe=>absurd e.2 h⟩)
  rw[if_neg h]
  simpa using this
theorem zbJ {T:List zd} {x:zd} (h:∀y∈T++[x],zY y):((T++[x]).flatMap zf).take (T.length*32)=T.flatMap zf:=by
 have b:=JB (l:=T) (λy a=>h y (by simp[a]))
 rw[flatMap_append,List.take_append_of_le_length (by omega),List.take_of_length_le (by omega)]
theorem WlK.own0 {w wr:World} {b g a:Nat} {M:List (zd×Int)} {T vis:List zd} {x:zd} {d:Bool} {l:List zd} (h:WlK w wr b (.slice (some ⟨g,0,none⟩) (T.length+1) a) M (T++[x]) vis d G l):wr.ownsRow w.heap.size 41 32 (.slice (some ⟨g,0,none⟩) (T.length+1) a) (T.length+1) ((T++[x]).flatMap zf):=by
 have c:=h.own
 rwa [show(T++[x]).length=T.length+1 by simp] at c
theorem WlK.pop {w wr wr':World} {b g e:Nat} {M:List (zd×Int)} {T vis:List zd} {x:zd} {i:Bool} {l:List zd} (h:WlK w wr b (.slice (some ⟨g,0,none⟩) (T.length+1) e) M (T++[x]) vis i G l) (f:Fr No wr wr') (o:¬x∈ids G∨x∈vis):WlK w wr' b (.slice (some ⟨g,0,none⟩) T.length e) M T vis i G l:=by
 have d:=h.own
 have a:(T++[x]).length=T.length+1:=by simp
 rw[a] at d
 have c:=Zr d (m:=T.length) (by omega)
 rw[zbJ h.ok] at c
 have k:=h.cnt
 rw[a] at k
 exact⟨zb c f (λ_ _=>id),λy q=>h.ok y (by simp[q]),h.map.keep f id,h.mem,h.wl.skip o,by omega,h.fr.trans0 f,λj n=>h.apart j n⟩
theorem WlK.next {w wr wr':World} {b g C:Nat} {M M':List (zd×Int)} {T vis:List zd} {x:zd} {a:Bool} {l:List zd} {tv:Value} (h:WlK w wr b (.slice (some ⟨g,0,none⟩) (T.length+1) C) M (T++[x]) vis a G l) (nd:(ids G).Nodup) (o:x∈ids G) (B:x∉vis) (r:Upd M x 1 M') (D:M'.length≤M.length+1) (v:JV wr' b M') (A:wr'.ownsRow w.heap.size 41 32 tv (T.length+(jN a G x).length) (T.flatMap zf++(jN a G x).flatMap zf)) (hok:∀y∈jN a G x,zY y) (z:∀j,tv.ownBlock=some j→j=g∨wr.heap.size≤j) (f:Fr U wr wr') (s:∀j,U j→w.heap.size≤j):WlK w wr' b tv M' (T++jN a G x) (x::vis) a G l:=by
 have d:(T++[x]).length=T.length+1:=by simp
 have t:=h.cnt
 rw[d] at t
 have F:=Qi (E:=jN a G) B nd o
 refine⟨by rw[length_append,flatMap_append];exact A,λy m=>?_,v,λk c=>?_,h.wl.visit o,by rw[length_append];omega,h.fr.trans f (λi hi e=>by have:=s i e;omega),λj u e=>?_⟩
 ·rcases mem_append.1 m with m|m
  ·exact h.ok y (by simp[m])
  ·exact hok y m
 ·rw[r,h.mem]
  constructor
  ·rintro(⟨rfl,rfl⟩|⟨_,n,q⟩)
   ·exact⟨rfl,by simp⟩
   ·exact⟨n,by simp[q]⟩
  ·rintro⟨rfl,n⟩
   by_cases e:k=x
   ·exact .inl ⟨e,rfl⟩
   ·exact .inr ⟨e,rfl,(mem_cons.1 n).elim (λh=>absurd h e) id⟩
 ·rcases z j u with rfl|h1
  ·exact h.apart j rfl e
  ·have:=h.map.lt
   omega
theorem zgF (h:GC w0 w p V G N) (hN:N≤1000) {v:Value} {l:List zd} (hl:yP w v l) (aB:l.length≤1000) (F:Bool):
  Calls prog 93 #[.pointer (some ⟨p,0,none⟩),v,.bool F] w λe w'=>∃b M,e=.returned (.map (some b))∧JV w' b M∧(∀k c,(k,c)∈M↔c=1∧k∈zdT F G l)∧w.heap.size≤b∧Fr No w w':=by
 obtain⟨dK,uK,rK⟩:=Zw
 obtain⟨m,sq,L,hr,-,hG,aq,-⟩:=h.ex
 have GK:=J h.gok
 have GL:=J (le_trans h.len hN)
 have HI:=@J (ids G=L.map (·.id)) (by rw[←hG];simp[ids,Function.comp])
 have HP:=@J (∀r∈L,par G r.id=r.ps) (λr aw=>JG h.gok (n:=⟨r.id,r.ps⟩) (by rw[←hG];exact mem_map.2 ⟨r,aw,rfl⟩))
 have HK:=J aq
 have HR:=J hr
 have HL:=J hl
 have SQ:=@J (G.length*G.length≤1000*1000) (Nat.mul_le_mul GL.o GL.o)
 obtain⟨va,vc,rfl⟩:=hl.2.form
 have f1:Fr No w (w.alloc (.map #[] 0)):=(frN w).alloc _
 have HC:=J (YG (w.alloc (.map #[] 0)) (hl.keep f1) (by omega))
 have ak:=@J (JV (w.alloc (.map #[] 0)) w.heap.size []) (yD.made w)
 have F1:=J f1
 have m1:=zaA
 have ae:=(Vf hr.obj).1
 clear h hr hG aq hl f1
 go_enter Tryz.func93,Tryz.ntmps93
 go_wp2_with (go_at_call 42;refine HC.o.mono ?_;rintro e w2 ⟨ax,rfl,o2,f2⟩;have O2:=J o2;have F2:=J (F1.o.trans0 f2);have al:=J (ak.o.keep f2 id);clear o2 f2)
 have ST:WlK w w2 w.heap.size ax [] l [] F G l:=⟨⟨O2.o.1,O2.o.2.imp id (λ⟨g,cp,an,a1,a2,a3⟩=>⟨g,cp,an,a1,le_trans F1.o.size a2,a3⟩)⟩,HL.o.1,al.o,by simp,Wl.init l,by
  have:=zkA (E:=jN F G) (vis:=[]) (l:=ids G) (k:=G.length) (λx _=>ze1 GK.o F x)
  rw[show(ids G).length=G.length by simp[ids]] at this
  simp only[length_nil];omega,F2.o,λj H e=>by
  have:=(O2.o.lt j H).1
  rw[e] at this
  simp at this
  omega⟩
 have au:=J ST
 clear m1 HC O2 ak al ST
 generalize ag:w.heap.size=b at*
 go_loopg [8] (l.length+wlW (jN F G) [] (ids G)) (λg tv wr=>∃(T vis:List zd) (M:List (zd×Int)),WlK w wr b tv M T vis F G l∧g=T.length+wlW (jN F G) vis (ids G))
 case atStart=>exact⟨l,[],[],au.o,rfl⟩
 case round=>
  obtain⟨T,vis,M,hk,ao⟩:=hrel
  have Q:=J hk
  obtain⟨ta,tc,e⟩:=hk.own.slice.arg.form
  subst e
  clear hk
  rcases List.eq_nil_or_concat T with rfl|⟨s,x,rfl⟩
  ·have DN:=J (λk c=>(Q.o.mem k c).trans (and_congr Iff.rfl ((Q.o.wl.done k).trans (zh4 GK.o).symm)))
   go_wp2_with fail
   go_ret
   exact⟨b,M,by rfl,Q.o.map,DN.o,by rw[ag];exact le_refl _,Q.o.fr⟩
  ·rw[List.concat_eq_append] at*
   have u:(s++[x]).length=s.length+1:=by simp
   rw[u]
   have hT:s.length≤1001000:=by have:=Q.o.cnt;have:=SQ.o;rw[u] at*;omega
   have i1:(0:Int)<((s.length+1:Nat):Int):=by omega
   have hx:(s++[x])[s.length]? =some x:=by simp
   obtain⟨g,rfl⟩:∃g,ta=some ⟨g,0,none⟩:=by
    rcases Q.o.own.2 with⟨_,h0⟩|⟨g,cp,an,e,_⟩
    ·simp at h0
    ·injection e with e1;exact⟨g,e1⟩
   obtain⟨g',off,aA,hv,ai,av⟩:=(yP.own Q.o.own Q.o.ok).at_ hx
   cases hv
   rw[Nat.zero_add] at ai
   have R1:=J ai
   have B:=J (Q.o.ok x (by simp))
   have d:=J (zx B.o)
   have FA:=J ((frN wr).alloc (.cells (zf x).toArray 41))
   have RN:=J (zy wr (zf x) 41)
   have FD:=J ((Q.o.fr.trans0 FA.o).drew)
   have FE:=J (FA.o.drew)
   have KM:=J (λ(w':World) (f:Fr No w w')=>HR.o.keepM f)
   have a:=@J (WlK w wr b (.slice (some ⟨g,0,none⟩) (s.length+1) tc) M (s++[x]) vis F G l) (by have:=Q.o;rwa [u] at this)
   have az:gk=s.length+1+wlW (jN F G) vis (ids G):=by rw[ao,u]
   have ay:s.length+1≤tc:=xG.cap (n:=s.length+1) (by have:=a.o.own.slice.arg;rwa [u] at this)
   have i2:(s.length:Int)≤(tc:Int):=by omega
   clear ai av hx ao
   by_cases hin:x∈ids G
   ·have S:=hin
    rw[HI.o] at S
    obtain⟨r,hr,rfl⟩:=mem_map.1 S
    have K1:=J ((HR.o.run_look B.o false rfl).1 r hr rfl)
    have ND:=J (HR.o.node r hr)
    have RR:=J hr
    have IN:=J hin
    clear hin S hr
    unfold Qo at K1
    unfold y7 at K1
    generalize ar:r.id=x at*
    by_cases hv:x∈vis
    ·have LI:=J (zbc (a.o.map.keep FE.o id) a.o.mem B.o)
     rw[if_pos hv] at LI
     unfold y7 at LI
     have WZ:=J (a.o.pop FE.o (.inr hv))
     clear hv
     go_wp2_with (first|(refine zoc rfl rfl rfl R1.o d.o ?_)|(refine zi rfl (zj (w:=wr) (cs:=zf x) (ty:=41) rfl rfl rfl (by rw[d.o];rfl) (by rw[d.o];exact yt) zU) ?_))
     generalize ah:wr.heap.size=q at*
     generalize wr.alloc (.cells (zf x).toArray 41)=w1 at*
     refine wrLx [ff,ff,ff,ff,ff,ff,ff] (λw'=>w'.cell? ⟨p,0,none⟩=some (.map (some m))∧w'.rangeAt q 0 (zf x)∧(∀M,qH w m M→qH w' m M)) ?_ (λK hK=>?_)
     ·exact⟨FD.o.cell ae id,za RN.o (frN _).drew id,KM.o _ FD.o⟩
     repeat((first|(refine zl rfl ?_;constructor;constructor;(focus(first|exact zog rfl (λw h=>h.2.1) d.o|exact λw' h=>zM (t:=197) rfl rfl rfl (K1.o w' h.2.2)|(rintro w' ⟨s1,s2,s3⟩;exact goS))))|(refine zm rfl ?_));try simp only[Act.put,pA,pB,pC])
     refine zL (hK.out _ _ ?_)
     have A:=J (za RN.o (frN w1).drew id)
     go_wp2_with (first|(refine xU (o:=⟨some 38,_,_,_,_,_⟩) rfl (z7 (ty:=41) rfl rfl A.o uK rK (by rw[d.o];exact yt)) ?_)|(refine xU (o:=⟨some 39,_,_,_,_,_⟩) rfl (zM (t:=120) rfl rfl rfl LI.o) ?_))
     go_roundg (s.length+wlW (jN F G) vis (ids G))
     case measure=>omega
     case rel=>exact⟨s,vis,M,WZ.o,rfl⟩
    ·have LI:=J (zbc (a.o.map.keep FE.o id) a.o.mem B.o)
     rw[if_neg hv] at LI
     unfold y7 at LI
     have NV:=J hv
     have RO:=@J (zY r.id∧(∀y∈r.ps,zY y)∧∀y∈r.ks,zY y) (HR.o.ok r RR.o)
     have NL:=J (ze1 GK.o F x)
     clear hv
     cases F with
     |true=>
      have NE:=@J (jN true G x=r.ps) (by rw[←ar];exact HP.o r RR.o)
      have PL:=@J (r.ps.length≤1000) (by rw[←NE.o];have:=NL.o;have:=GL.o;omega)
      go_wp2_with (first|(refine zoc rfl rfl rfl R1.o d.o ?_)|(refine zi rfl (zj (w:=wr) (cs:=zf x) (ty:=41) rfl rfl rfl (by rw[d.o];rfl) (by rw[d.o];exact yt) zU) ?_))
      generalize ah:wr.heap.size=q at*
      generalize wr.alloc (.cells (zf x).toArray 41)=w1 at*
      refine wrLx [ff,ff,ff,ff,ff,ff,ff] (λw'=>w'.cell? ⟨p,0,none⟩=some (.map (some m))∧w'.rangeAt q 0 (zf x)∧(∀M,qH w m M→qH w' m M)) ?_ (λK hK=>?_)
      ·exact⟨FD.o.cell ae id,za RN.o (frN _).drew id,KM.o _ FD.o⟩
      repeat((first|(refine zl rfl ?_;constructor;constructor;(focus(first|exact zog rfl (λw h=>h.2.1) d.o|exact λw' h=>zM (t:=197) rfl rfl rfl (K1.o w' h.2.2)|(rintro w' ⟨s1,s2,s3⟩;exact goS))))|(refine zm rfl ?_));try simp only[Act.put,pA,pB,pC])
      refine zL (hK.out _ _ ?_)
      have A:=J (za RN.o (frN w1).drew id)
      obtain⟨w3,M',ad,X,z,ab,Y⟩:=(a.o.map.keep FE.o id).upd xR.keyed jt (λ_ _=>y3) (yu B.o) (show M.length<maxLen by unfold maxLen;have:=a.o.cnt;have:=SQ.o;omega) 1
      have F3:=@J (Fr (· =b) wr w3) ((FE.o.of0 (W:=(· =b))).trans ab.fr (λ_ _ h=>h))
      have I:=@J (Fr No w w3) (a.o.fr.trans F3.o (λi hi e=>by subst e;omega))
      obtain⟨xa,xc,D⟩:=ND.o.prow.slice.arg.form
      have NA:=J (ND.o.keep I.o (λ_ _=>id))
      have cx:=(Y7 NA.o.blk).2.1
      rw[D] at cx
      have C:=zb (Zr a.o.own0 (m:=s.length) (by omega)) F3.o (λj H=>a.o.apart j H)
      rw[zbJ a.o.ok] at C
      obtain⟨aj,w4,R,aa,f4,Z⟩:=XF (P:=prog) w3 w.heap.size 38 38 41 32 32 _ xP qm rfl (by decide) _ _ _ C (.slice xa _ xc) _ _ (by rw[←D];exact NA.o.prow.slice) (JB RO.o.2.1) JC (by have:=PL.o;omega) (by unfold maxLen;have:=PL.o;omega) (by rw[ag];have:=I.o.size;omega)
      have O:=J ad
      have af:=J R
      have WZ:=J (a.o.next (tv:=aj) (M':=M') (wr':=w4) (U:=λj=>j=b∨j=g) GK.o.nd IN.o NV.o z Y (X.keep f4 (λe=>a.o.apart b e rfl)) (by rw[NE.o];exact aa) (by rw[NE.o];exact RO.o.2.1) (λj H=>(Z j H).elim (λh=>.inl (by simpa[Value.ownBlock] using h.symm)) (λh=>.inr (by have:=F3.o.size;omega))) ((F3.o.mono (λ_ h=>.inl h)).trans f4 (λi _ h=>.inr (by simpa[Value.ownBlock] using h.symm))) (λj H=>H.elim (λe=>by omega) (λe=>by have:=(a.o.own0.lt g rfl).1;omega)))
      clear ad R z Y X ab D C aa f4 Z
      unfold y7 zaY at O
      go_wp2_with (first|(refine xU (o:=⟨some 38,_,_,_,_,_⟩) rfl (z7 (ty:=41) rfl rfl A.o uK rK (by rw[d.o];exact yt)) ?_)|(refine xU (o:=⟨some 39,_,_,_,_,_⟩) rfl (zM (t:=120) rfl rfl rfl LI.o) ?_)|(refine zoc rfl rfl rfl A.o d.o ?_)|(refine zi rfl (y4 rfl rfl rfl rfl O.o) ?_)|(at_builtin;refine zQ rfl rfl rfl rfl af.o ?_))
      go_roundg (s.length+(jN true G x).length+wlW (jN true G) (x::vis) (ids G))
      case measure=>have:=Qi (E:=jN true G) NV.o GK.o.nd IN.o;omega
      case rel=>exact⟨_,_,M',WZ.o,by rw[length_append]⟩
     |false=>
      have NE:=@J (jN false G x=r.ks) (by rw[←ar];exact(HK.o r RR.o).symm)
      have PL:=@J (r.ks.length≤1000) (by rw[←NE.o];have:=NL.o;have:=GL.o;omega)
      go_wp2_with (first|(refine zoc rfl rfl rfl R1.o d.o ?_)|(refine zi rfl (zj (w:=wr) (cs:=zf x) (ty:=41) rfl rfl rfl (by rw[d.o];rfl) (by rw[d.o];exact yt) zU) ?_))
      generalize ah:wr.heap.size=q at*
      generalize wr.alloc (.cells (zf x).toArray 41)=w1 at*
      refine wrLx [ff,ff,ff,ff,ff,ff,ff] (λw'=>w'.cell? ⟨p,0,none⟩=some (.map (some m))∧w'.rangeAt q 0 (zf x)∧(∀M,qH w m M→qH w' m M)) ?_ (λK hK=>?_)
      ·exact⟨FD.o.cell ae id,za RN.o (frN _).drew id,KM.o _ FD.o⟩
      repeat((first|(refine zl rfl ?_;constructor;constructor;(focus(first|exact zog rfl (λw h=>h.2.1) d.o|exact λw' h=>zM (t:=197) rfl rfl rfl (K1.o w' h.2.2)|(rintro w' ⟨s1,s2,s3⟩;exact goS))))|(refine zm rfl ?_));try simp only[Act.put,pA,pB,pC])
      refine zL (hK.out _ _ ?_)
      have A:=J (za RN.o (frN w1).drew id)
      obtain⟨w3,M',ad,X,z,ab,Y⟩:=(a.o.map.keep FE.o id).upd xR.keyed jt (λ_ _=>y3) (yu B.o) (show M.length<maxLen by unfold maxLen;have:=a.o.cnt;have:=SQ.o;omega) 1
      have F3:=@J (Fr (· =b) wr w3) ((FE.o.of0 (W:=(· =b))).trans ab.fr (λ_ _ h=>h))
      have I:=@J (Fr No w w3) (a.o.fr.trans F3.o (λi hi e=>by subst e;omega))
      obtain⟨xa,xc,D⟩:=ND.o.crow.slice.arg.form
      have NA:=J (ND.o.keep I.o (λ_ _=>id))
      have cx:=(Y7 NA.o.blk).2.2
      rw[D] at cx
      have C:=zb (Zr a.o.own0 (m:=s.length) (by omega)) F3.o (λj H=>a.o.apart j H)
      rw[zbJ a.o.ok] at C
      obtain⟨aj,w4,R,aa,f4,Z⟩:=XF (P:=prog) w3 w.heap.size 38 38 41 32 32 _ xP qm rfl (by decide) _ _ _ C (.slice xa _ xc) _ _ (by rw[←D];exact NA.o.crow.slice) (JB RO.o.2.2) JC (by have:=PL.o;omega) (by unfold maxLen;have:=PL.o;omega) (by rw[ag];have:=I.o.size;omega)
      have O:=J ad
      have af:=J R
      have WZ:=J (a.o.next (tv:=aj) (M':=M') (wr':=w4) (U:=λj=>j=b∨j=g) GK.o.nd IN.o NV.o z Y (X.keep f4 (λe=>a.o.apart b e rfl)) (by rw[NE.o];exact aa) (by rw[NE.o];exact RO.o.2.2) (λj H=>(Z j H).elim (λh=>.inl (by simpa[Value.ownBlock] using h.symm)) (λh=>.inr (by have:=F3.o.size;omega))) ((F3.o.mono (λ_ h=>.inl h)).trans f4 (λi _ h=>.inr (by simpa[Value.ownBlock] using h.symm))) (λj H=>H.elim (λe=>by omega) (λe=>by have:=(a.o.own0.lt g rfl).1;omega)))
      clear ad R z Y X ab D C aa f4 Z
      unfold y7 zaY at O
      go_wp2_with (first|(refine xU (o:=⟨some 38,_,_,_,_,_⟩) rfl (z7 (ty:=41) rfl rfl A.o uK rK (by rw[d.o];exact yt)) ?_)|(refine xU (o:=⟨some 39,_,_,_,_,_⟩) rfl (zM (t:=120) rfl rfl rfl LI.o) ?_)|(refine zoc rfl rfl rfl A.o d.o ?_)|(refine zi rfl (y4 rfl rfl rfl rfl O.o) ?_)|(at_builtin;refine zQ rfl rfl rfl rfl af.o ?_))
      go_roundg (s.length+(jN false G x).length+wlW (jN false G) (x::vis) (ids G))
      case measure=>have:=Qi (E:=jN false G) NV.o GK.o.nd IN.o;omega
      case rel=>exact⟨_,_,M',WZ.o,by rw[length_append]⟩
   ·have K1:=J ((HR.o.run_look B.o false rfl).2 (by rw[←HI.o];exact hin))
    have WZ:=J (a.o.pop FE.o (.inl hin))
    clear hin
    unfold y7 at K1
    go_wp2_with (first|(refine zoc rfl rfl rfl R1.o d.o ?_)|(refine zi rfl (zj (w:=wr) (cs:=zf x) (ty:=41) rfl rfl rfl (by rw[d.o];rfl) (by rw[d.o];exact yt) zU) ?_))
    generalize ah:wr.heap.size=q at*
    generalize wr.alloc (.cells (zf x).toArray 41)=w1 at*
    refine wrLx [ff,ff,ff,ff,ff,ff,ff] (λw'=>w'.cell? ⟨p,0,none⟩=some (.map (some m))∧w'.rangeAt q 0 (zf x)∧(∀M,qH w m M→qH w' m M)) ?_ (λK hK=>?_)
    ·exact⟨FD.o.cell ae id,za RN.o (frN _).drew id,KM.o _ FD.o⟩
    repeat((first|(refine zl rfl ?_;constructor;constructor;(focus(first|exact zog rfl (λw h=>h.2.1) d.o|exact λw' h=>zM (t:=197) rfl rfl rfl (K1.o w' h.2.2)|(rintro w' ⟨s1,s2,s3⟩;exact goS))))|(refine zm rfl ?_));try simp only[Act.put,pA,pB,pC])
    refine zL (hK.out _ _ ?_)
    go_wp2_with fail
    go_roundg (s.length+wlW (jN F G) vis (ids G))
    case measure=>omega
    case rel=>exact⟨s,vis,M,WZ.o,rfl⟩
end
end Go.Proofs.YtdkkjchclkjleaaGreatDoor
namespace Go.Proofs
open Go.Shelf
def Tryz.laysK_ren:Go.Shelf.Ren:=⟨fun|6=>138|15=>168|14=>167|28=>194|29=>195|20=>186|21=>187|22=>188|23=>189|24=>190|25=>191|26=>192|27=>193|46=>203|47=>204|48=>205|49=>206|50=>207|57=>208|n=>n,fun|22=>38|24=>41|25=>258|3=>3|39=>245|0=>0|53=>31|55=>48|4=>4|46=>303|45=>302|50=>307|5=>5|9=>9|66=>319|70=>322|76=>324|77=>325|n=>n,fun|n=>n⟩
theorem Tryz.laysK:Go.Proofs.SlLaysF0.n6 Tryz.prog Tryz.laysK_ren:={
 mixed:=by kernel_rfl
 f6:=⟨Tryz.f138.name,by decide,Tryz.func138.trans (congrArg some (by kernel_rfl))⟩
 f14:=⟨Tryz.f167.name,by decide,Tryz.func167.trans (congrArg some (by kernel_rfl))⟩
 f15:=Tryz.func168.trans (congrArg some (by kernel_rfl))
 f20:=⟨Tryz.f186.name,by decide,Tryz.func186.trans (congrArg some (by kernel_rfl))⟩
 f21:=⟨Tryz.f187.name,by decide,Tryz.func187.trans (congrArg some (by kernel_rfl))⟩
 f22:=⟨Tryz.f188.name,by decide,Tryz.func188.trans (congrArg some (by kernel_rfl))⟩
 f23:=⟨Tryz.f189.name,by decide,Tryz.func189.trans (congrArg some (by kernel_rfl))⟩
 f24:=⟨Tryz.f190.name,by decide,Tryz.func190.trans (congrArg some (by kernel_rfl))⟩
 f25:=⟨Tryz.f191.name,by decide,Tryz.func191.trans (congrArg some (by kernel_rfl))⟩
 f26:=⟨Tryz.f192.name,by decide,Tryz.func192.trans (congrArg some (by kernel_rfl))⟩
 f27:=⟨Tryz.f193.name,by decide,Tryz.func193.trans (congrArg some (by kernel_rfl))⟩
 f28:=Tryz.func194.trans (congrArg some (by kernel_rfl))
 f29:=Tryz.func195.trans (congrArg some (by kernel_rfl))
 f46:=⟨Tryz.f203.name,by decide,Tryz.func203.trans (congrArg some (by kernel_rfl))⟩
 f47:=Tryz.func204.trans (congrArg some (by kernel_rfl))
 f48:=Tryz.func205.trans (congrArg some (by kernel_rfl))
 f49:=⟨Tryz.f206.name,by decide,Tryz.func206.trans (congrArg some (by kernel_rfl))⟩
 f50:=⟨Tryz.f207.name,by decide,Tryz.func207.trans (congrArg some (by kernel_rfl))⟩
 f57:=⟨Tryz.f208.name,by decide,Tryz.func208.trans (congrArg some (by kernel_rfl))⟩
 t0:=Tryz.underlying0
 a0:=Tryz.isAgg0
 z0:=Tryz.sizeOf0
 v0:=Tryz.zeroValue0
 t3:=Tryz.underlying3
 a3:=Tryz.isAgg3
 z3:=Tryz.sizeOf3
 v3:=Tryz.zeroValue3
 t4:=Tryz.underlying4
 a4:=Tryz.isAgg4
 z4:=Tryz.sizeOf4
 v4:=Tryz.zeroValue4
 t5:=Tryz.underlying5
 a5:=Tryz.isAgg5
 z5:=Tryz.sizeOf5
 v5:=Tryz.zeroValue5
 t9:=Tryz.underlying9
 a9:=Tryz.isAgg9
 z9:=Tryz.sizeOf9
 v9:=Tryz.zeroValue9
 t22:=Tryz.underlying38
 a22:=Tryz.isAgg38
 z22:=Tryz.sizeOf38
 v22:=Tryz.zeroValue38
 t25:=Tryz.underlying258
 a25:=Tryz.isAgg258
 z25:=Tryz.sizeOf258
 v25:=Tryz.zeroValue258
 t39:=Tryz.underlying245
 a39:=Tryz.isAgg245
 z39:=Tryz.sizeOf245
 v39:=Tryz.zeroValue245
 t45:=Tryz.underlying302
 a45:=Tryz.isAgg302
 z45:=Tryz.sizeOf302
 v45:=Tryz.zeroValue302
 t46:=Tryz.underlying303
 a46:=Tryz.isAgg303
 z46:=Tryz.sizeOf303
 v46:=Tryz.zeroValue303
 t50:=Tryz.underlying307
 a50:=Tryz.isAgg307
 z50:=Tryz.sizeOf307
 v50:=Tryz.zeroValue307
 t53:=Tryz.underlying31
 a53:=Tryz.isAgg31
 z53:=Tryz.sizeOf31
 v53:=Tryz.zeroValue31
 t55:=Tryz.underlying48
 a55:=Tryz.isAgg48
 z55:=Tryz.sizeOf48
 v55:=Tryz.zeroValue48
 t66:=Tryz.underlying319
 a66:=Tryz.isAgg319
 z66:=Tryz.sizeOf319
 v66:=Tryz.zeroValue319
 t70:=Tryz.underlying322
 a70:=Tryz.isAgg322
 z70:=Tryz.sizeOf322
 v70:=Tryz.zeroValue322
 t76:=Tryz.underlying324
 a76:=Tryz.isAgg324
 z76:=Tryz.sizeOf324
 v76:=Tryz.zeroValue324
 t77:=Tryz.underlying325
 a77:=Tryz.isAgg325
 z77:=Tryz.sizeOf325
 v77:=Tryz.zeroValue325}
end Go.Proofs
