/- chain, plain: what a transaction spends and makes, what a block does, what is undone. -/
import Derived.Deep.CutRange
import Derived.Test.YtmpamcnlineceaaGreatDoorZG8
import Derived.Test.YtmpamcnlineceaaGreatDoorZG3
set_option linter.unusedVariables false
set_option linter.unusedSimpArgs false
set_option linter.unnecessarySimpa false
set_option linter.all false
set_option maxRecDepth 20000
set_option maxHeartbeats 16000000
namespace Go.Proofs.YtmpamcnlineceaaGreatDoor
open Go Go.RowKit Go.Maps Go.MapKept
open Go.Proofs.Tryz(prog)
open List(mem_map mem_append length_append length_take all_eq_true nil_append length_nil)
open Nat(le_refl zero_add min_eq_left)
variable {w:World}
def vJ (S:List zh) (t:TxD):List zh:=(yI t).map λq=>⟨q,yj S q⟩
def qX (S:List zh) (t:TxD):List yk:=(yI t).map (yj S)
def qb (t:TxD):List zh:=xP (idH t) t.outs
def spE (S:List zh) (t:TxD):Int:=
 if(yI t).all (xE S)=true then
  (if jo t (qX S t)=0 then(if xQ (yU S (yI t)) (qb t)=0 then 0 else 10) else jo t (qX S t))
 else 15
def spS (S:List zh) (t:TxD):List zh:=if spE S t=0 then qP (yU S (yI t)) (qb t) else S
def spG (S:List zh) (t:TxD):Zp:=⟨vJ S t,(qb t).map (·.at_)⟩
theorem Xg (t:TxD):(yI t).length=t.ins.length:=by simp[yI]
theorem Yv (t:TxD):(qb t).length=t.outs.length:=xZ _ _
theorem Zf (S:List zh) (t:TxD):(qX S t).length=t.ins.length:=by simp[qX,yI]
theorem ji (S:List zh) (t:TxD):(vJ S t).length=t.ins.length:=by simp[vJ,yI]
theorem zbF (t:TxD):((qb t).map (·.at_)).Nodup:=vm _ _
theorem zcb (S:List zh) (t:TxD):(vJ S t).map (·.at_)=yI t:=by simp[vJ,Function.comp_def]
theorem Qz {t:TxD} (h:yM t=0):yV t=true∧t.ins≠[]∧t.outs≠[]∧(yI t).Nodup∧(∀x∈t.outs,xX x=false)∧xW t.outs≤1125899906842624:=by
 unfold yM at h
 split at h
 ·rename_i h1
  split at h
  ·cases h
  ·rename_i h2
   split at h
   ·cases h
   ·rename_i h3
    split at h
    ·cases h
    ·rename_i h4
     split at h
     ·rename_i h5
      have a:t.outs.any xX=false:=by simpa using h3
      exact⟨h1,λe=>h2 (.inl (by rw[e];rfl)),λe=>h2 (.inr (by rw[e];rfl)),h5,λx b=>by simpa using List.any_eq_false.1 a x b,by omega⟩
     ·cases h
 ·cases h
theorem zd1 {t:TxD} {prev:List yk} (h:jo t prev=0):yM t=0:=by
 unfold jo at h
 split at h
 ·rename_i h1;exact h1
 ·exact h
theorem zem {S:List zh} (a:qg S) {q:zE} (h:xE S q=true):(⟨q,yj S q⟩:zh)∈S:=by
 obtain⟨c,d,e⟩:=Z0.1 h
 have b:=Zu a d
 rw[e] at b
 have:yj S q=c.out:=by unfold yj;rw[b];rfl
 rw[this,←e]
 exact d
theorem zaj {S:List zh} (a:qg S) {t:TxD} (h:(yI t).all (xE S)=true) {x:zh}:x∈vJ S t↔x∈S∧x.at_∈yI t:=by
 unfold vJ
 rw[mem_map]
 constructor
 ·rintro⟨q,b,rfl⟩
  exact⟨zem a (all_eq_true.1 h q b),b⟩
 ·rintro⟨c,d⟩
  refine⟨x.at_,d,?_⟩
  have:=Zu a c
  have e:yj S x.at_=x.out:=by unfold yj;rw[this];rfl
  rw[e]
theorem zcc {S:List zh} (ok:∀c∈S,c.ok) {t:TxD} (d:∀x∈t.ins,x.from_.ok):∀c∈vJ S t,c.ok:=by
 intro c a
 obtain⟨q,b,rfl⟩:=mem_map.1 a
 obtain⟨x,e,rfl⟩:=mem_map.1 b
 exact⟨d x e,vQ ok _⟩
theorem zbS {S:List zh} (ok:∀c∈S,c.ok) (t:TxD):∀x∈qX S t,x.ok:=by
 intro x a
 obtain⟨q,_,rfl⟩:=mem_map.1 a
 exact vQ ok q
theorem Vg {t:TxD} (a:∀x∈t.outs,x.ok) (b:t.outs.length≤1000):∀c∈qb t,c.ok:=Jh (vk t) a (by omega)
theorem VA {S:List zh} {ps:List zE} (a:ps.Nodup) (b:ps.all (xE S)=true):jE S ps=0∧vu S ps=yU S ps:=by
 have e:jE S ps=0:=by unfold jE;rw[if_pos a,if_pos b]
 exact⟨e,by unfold vu;rw[if_pos e]⟩
theorem zbX {S:List zh} (b:qg S) {t:TxD} (h:(yI t).all (xE S)=true) (i:(yI t).Nodup):xQ (yU S (yI t)) (vJ S t)=0∧qQ (yU S (yI t)) (vJ S t)=S:=by
 have f:∀c∈vJ S t,xE (yU S (yI t)) c.at_=false:=λc k=>by
  rw[jA]
  intro d l e
  have:=(jQ.1 l).2
  rw[e] at this
  exact this ((zaj b h).1 k).2
 have g:=Vs (by rw[zcb];exact i) f
 refine⟨g.1,?_⟩
 rw[g.2]
 refine qg.same (vD (Zn b) (by rw[zcb];exact i) f) b (λx=>?_)
 rw[vo,jQ,zaj b h]
 constructor
 ·rintro(⟨a,_⟩|⟨a,_⟩)<;>exact a
 ·intro j
  by_cases hp:x.at_∈yI t
  ·exact .inr ⟨j,hp⟩
  ·exact .inl ⟨j,hp⟩
theorem Xh {S l:List zh} (h:xQ S l=0):(l.map (·.at_)).Nodup∧∀c∈l,xE S c.at_=false:=by
 unfold xQ at h
 split at h
 ·rename_i h1
  split at h
  ·cases h
  ·rename_i h2
   refine⟨h1,λc b=>?_⟩
   have a:l.any (λc=>xE S c.at_)=false:=by simpa using h2
   simpa using List.any_eq_false.1 a c b
 ·cases h
theorem zat {S l:List zh} (d:qg S) (h:xQ S l=0):vu (qP S l) (l.map (·.at_))=S:=by
 obtain⟨i,g⟩:=Xh h
 have k:(l.map (·.at_)).all (xE (qP S l))=true:=all_eq_true.2 λq n=>by
  obtain⟨c,f,rfl⟩:=mem_map.1 n
  exact Z0.2 ⟨c,vo.2 (.inr f),rfl⟩
 rw[(VA i k).2]
 refine qg.same (Zn (vD d i g)) d (λx=>?_)
 rw[jQ,vo]
 constructor
 ·rintro⟨a|a,b⟩
  ·exact a
  ·exact absurd (mem_map.2 ⟨x,a,rfl⟩) b
 ·intro j
  refine⟨.inl j,λm=>?_⟩
  obtain⟨c,f,e⟩:=mem_map.1 m
  exact(jA.1 (g c f)) x j e.symm
theorem sp0 {S:List zh} {t:TxD} (h:spE S t=0):(yI t).all (xE S)=true∧jo t (qX S t)=0∧xQ (yU S (yI t)) (qb t)=0:=by
 unfold spE at h
 split at h
 ·rename_i h1
  split at h
  ·rename_i h2
   split at h
   ·rename_i h3
    exact⟨h1,h2,h3⟩
   ·cases h
  ·rename_i h2
   exact absurd h h2
 ·cases h
theorem zdF {S:List zh} (c:qg S) (t:TxD):qg (spS S t):=by
 unfold spS
 split
 ·rename_i h
  obtain⟨_,_,d⟩:=sp0 h
  obtain⟨a,b⟩:=Xh d
  exact vD (Zn c) a b
 ·exact c
theorem zhR {S:List zh} (ok:∀c∈S,c.ok) {t:TxD} (d:∀x∈t.outs,x.ok) (b:t.outs.length≤1000):∀c∈spS S t,c.ok:=by
 unfold spS
 split
 ·intro c a
  rcases vo.1 a with h|h
  ·exact ok c (jQ.1 h).1
  ·exact Vg d b c h
 ·exact ok
theorem zdE (S:List zh) (t:TxD):(spS S t).length≤S.length+t.outs.length:=by
 unfold spS
 split
 ·rw[(jd _ _).length_eq,length_append,Yv]
  have:(yU S (yI t)).length≤S.length:=List.length_filter_le _ _
  omega
 ·omega
theorem zgZ {S:List zh} (a:qg S) {t:TxD} (h:spE S t=0):qQ (vu (spS S t) (spG S t).made) (spG S t).took=S:=by
 obtain⟨b,c,d⟩:=sp0 h
 have f:=Qz (zd1 c)
 have e:spS S t=qP (yU S (yI t)) (qb t):=by unfold spS;rw[if_pos h]
 rw[e]
 show qQ (vu (qP (yU S (yI t)) (qb t)) ((qb t).map (·.at_))) (vJ S t)=S
 rw[zat (Zn a) d]
 exact(zbX a b f.2.2.2.1).2
structure StD where
 S:List zh
 ids:List zY
 chg:List Zp
def txE (K:List zY) (s:StD) (t:TxD):Int:=if yM t=0 then(if idH t∈K∨idH t∈s.ids then 19 else spE s.S t) else yM t
def txS (s:StD) (t:TxD):StD:=⟨spS s.S t,s.ids++[idH t],s.chg++[spG s.S t]⟩
def runT (K:List zY):List TxD→StD→Int×StD
 |[],s=>(0,s)
 |t::l,s=>if txE K s t=0 then runT K l (txS s t) else(txE K s t,s)
theorem XM {K:List zY} {t:TxD} {l:List TxD} {s:StD} (h:txE K s t=0):runT K (t::l) s=runT K l (txS s t):=by
 rw[runT,if_pos h]
theorem Vu {K:List zY} {t:TxD} {l:List TxD} {s:StD} (h:txE K s t≠0):runT K (t::l) s=(txE K s t,s):=by
 rw[runT,if_neg h]
theorem tx0 {K:List zY} {s:StD} {t:TxD} (h:txE K s t=0):yM t=0∧idH t∉K∧idH t∉s.ids∧spE s.S t=0:=by
 unfold txE at h
 split at h
 ·rename_i h1
  split at h
  ·cases h
  ·rename_i h2
   exact⟨h1,λe=>h2 (.inl e),λe=>h2 (.inr e),h⟩
 ·rename_i h1
  exact absurd h h1
def st0 (S:List zh):StD:=⟨S,[],[]⟩
def doR (K:List zY) (S:List zh) (b:y7):DoR:=
 if(runT K b.txs (st0 S)).1=0 then
  (if xQ (runT K b.txs (st0 S)).2.S (yZ b)=0 then⟨0,qP (runT K b.txs (st0 S)).2.S (yZ b),⟨b,(runT K b.txs (st0 S)).2.ids,(runT K b.txs (st0 S)).2.chg++[⟨[],(yZ b).map (·.at_)⟩]⟩⟩
   else⟨10,(runT K b.txs (st0 S)).2.S,⟨b,(runT K b.txs (st0 S)).2.ids,(runT K b.txs (st0 S)).2.chg⟩⟩)
 else⟨(runT K b.txs (st0 S)).1,(runT K b.txs (st0 S)).2.S,⟨b,(runT K b.txs (st0 S)).2.ids,(runT K b.txs (st0 S)).2.chg⟩⟩
structure VK (S0:List zh) (K:List zY) (n:Nat) (s:StD):Prop where
 srt:qg s.S
 ok:∀c∈s.S,c.ok
 len:s.S.length≤S0.length+8*n
 undo:qh s.chg s.S=S0
 il:s.ids.length=n
 cl:s.chg.length=n
 took:vw s.chg≤16*n
 new:∀x∈s.ids,x∉K
 iok:∀x∈s.ids,xU x
theorem VB (l:List Zp) (c:Zp):vw (l++[c])=vw l+(c.took.length+c.made.length):=by simp[vw]
theorem VG (l:List Zp) (c:Zp) (S:List zh):qh (l++[c]) S=qh l (qQ (vu S c.made) c.took):=by simp[qh,List.foldr_append]
theorem VK.start {S:List zh} (a:qg S) (ok:∀c∈S,c.ok) (K:List zY):VK S K 0 (st0 S):=
 ⟨a,ok,le_refl _,rfl,rfl,rfl,le_refl _,λx h=>(by cases h),λx h=>(by cases h)⟩
theorem zdq {t:TxD} (h:yV t=true):t.ins.length≤8∧t.outs.length≤8:=⟨(qi.1 h).2.1,(qi.1 h).2.2⟩
theorem VK.step {e:List zh} {K:List zY} {n:Nat} {s:StD} (h:VK e K n s) {t:TxD} (k:∀x∈t.outs,x.ok) (f:txE K s t=0):VK e K (n+1) (txS s t):=by
 obtain⟨g,i,l,j⟩:=tx0 f
 have m:=zdq (Qz g).1
 refine⟨zdF h.srt t,zhR h.ok k (by omega),?_,?_,?_,?_,?_,?_,?_⟩
 ·have a:=zdE s.S t
  have b:=h.len
  show(spS s.S t).length≤_
  omega
 ·show qh (s.chg++[spG s.S t]) (spS s.S t)=e
  rw[VG,zgZ h.srt j]
  exact h.undo
 ·show(s.ids++[idH t]).length=_
  rw[length_append,h.il];rfl
 ·show(s.chg++[spG s.S t]).length=_
  rw[length_append,h.cl];rfl
 ·show vw (s.chg++[spG s.S t])≤_
  rw[VB]
  have a:=h.took
  have b:(spG s.S t).took.length=t.ins.length:=ji _ _
  have c:(spG s.S t).made.length=t.outs.length:=by show((qb t).map (·.at_)).length=_;rw[List.length_map,Yv]
  omega
 ·intro x d
  rcases mem_append.1 d with d|d
  ·exact h.new x d
  ·simp at d;subst d;exact i
 ·intro x d
  rcases mem_append.1 d with d|d
  ·exact h.iok x d
  ·simp at d;subst d;exact vk t
theorem zdD {a:List zh} {K:List zY}:∀(l:List TxD) {n:Nat} {s:StD},VK a K n s→(∀t∈l,∀x∈t.outs,x.ok)→∃m,m≤n+l.length∧VK a K m (runT K l s).2
 |[],n,s,h,_=>⟨n,le_refl _,h⟩
 |t::l,n,s,h,ho=>by
  by_cases h0:txE K s t=0
  ·rw[XM h0]
   obtain⟨m,d,b⟩:=zdD l (h.step (ho t (.head _)) h0) (λu c=>ho u (.tail _ c))
   exact⟨m,by simp only[List.length_cons];omega,b⟩
  ·rw[Vu h0]
   exact⟨n,by omega,h⟩
theorem zcC {K:List zY} {S:List zh} (e:qg S) (ok:∀c∈S,c.ok) {b:y7} (f:∀t∈b.txs,∀x∈t.outs,x.ok) (k:∀x∈b.pay,x.ok) (q:b.txs.length≤16) (i:b.pay.length≤8):
  qg (doR K S b).S∧(∀c∈(doR K S b).S,c.ok)∧(doR K S b).S.length≤S.length+136∧qh (doR K S b).d.chg (doR K S b).S=S∧(doR K S b).d.blk=b∧(doR K S b).d.ids.length≤16∧(doR K S b).d.chg.length≤17∧vw (doR K S b).d.chg≤264∧(∀x∈(doR K S b).d.ids,x∉K)∧∀x∈(doR K S b).d.ids,xU x:=by
 obtain⟨m,r,h⟩:=zdD b.txs (VK.start e ok K) f
 have j:m≤16:=by omega
 have l:=h.len
 have n:=h.il
 have o:=h.cl
 have p:=h.took
 unfold doR
 split
 ·split
  ·rename_i hz hput
   obtain⟨a,c⟩:=Xh hput
   refine⟨vD h.srt a c,?_,?_,?_,rfl,?_,?_,?_,h.new,h.iok⟩
   ·intro x d
    rcases vo.1 d with d|d
    ·exact h.ok x d
    ·exact Jh (Jg b) k (by omega) x d
   ·show(qP _ _).length≤_
    rw[(jd _ _).length_eq,length_append,jD]
    omega
   ·show qh (_++[_]) (qP _ _)=S
    rw[VG]
    show qh _ (qQ (vu (qP _ _) ((yZ b).map (·.at_))) [])=S
    rw[zat h.srt hput]
    rw[show qQ (runT K b.txs (st0 S)).2.S []=(runT K b.txs (st0 S)).2.S from(Vs (by simp) (λc g=>by cases g)).2]
    exact h.undo
   ·dsimp only
    omega
   ·dsimp only
    rw[length_append]
    simp
    omega
   ·dsimp only
    rw[VB]
    simp only[length_nil,List.length_map,jD]
    omega
  ·exact⟨h.srt,h.ok,(by dsimp only;omega),h.undo,rfl,(by dsimp only;omega),(by dsimp only;omega),(by dsimp only;omega),h.new,h.iok⟩
 ·exact⟨h.srt,h.ok,(by dsimp only;omega),h.undo,rfl,(by dsimp only;omega),(by dsimp only;omega),(by dsimp only;omega),h.new,h.iok⟩
def jb (K:List zY) (S:List zh) (bs:List zU) (b:y7):Int:=if 1024≤bs.length then 18 else if xC b=true then(if b.pay.any xX=true then 11 else(doR K S b).E) else 5
def YE (K:List zY) (S:List zh) (bs:List zU) (b:y7):List zh:=if jb K S bs b=0 then(doR K S b).S else S
def JV (K:List zY) (S:List zh) (bs:List zU) (b:y7):List zU:=if jb K S bs b=0 then bs++[(doR K S b).d] else bs
theorem zbj {K:List zY} {S:List zh} {bs:List zU} {b:y7} (h:jb K S bs b=0):bs.length<1024∧xC b=true∧b.pay.any xX=false∧(doR K S b).E=0:=by
 unfold jb at h
 split at h
 ·cases h
 ·split at h
  ·split at h
   ·cases h
   ·exact⟨by omega,‹_›,by simpa using ‹¬(b.pay.any xX=true)›,h⟩
  ·cases h
theorem zhz {K:List zY} {S:List zh} {b:y7} (h:(doR K S b).E=0):(runT K b.txs (st0 S)).1=0∧xQ (runT K b.txs (st0 S)).2.S (yZ b)=0∧(doR K S b).S=qP (runT K b.txs (st0 S)).2.S (yZ b)∧(doR K S b).d=⟨b,(runT K b.txs (st0 S)).2.ids,(runT K b.txs (st0 S)).2.chg++[⟨[],(yZ b).map (·.at_)⟩]⟩:=by
 unfold doR at h⊢
 split at h
 ·rename_i h1
  split at h
  ·rename_i h2
   rw[if_pos h1,if_pos h2]
   exact⟨h1,h2,rfl,rfl⟩
  ·cases h
 ·rename_i h1
  exact absurd h h1
def BOk (b:y7):Prop:=(∀t∈b.txs,(∀x∈t.ins,x.from_.ok)∧∀x∈t.outs,x.ok)∧∀x∈b.pay,x.ok
theorem YD.oks {v:Value} {L:List TxD} (h:YD w v L):∀t∈L,(∀x∈t.ins,x.from_.ok)∧∀x∈t.outs,x.ok:=λt b=>by
 obtain⟨i,hi⟩:=List.mem_iff_getElem?.1 b
 obtain⟨_,_,_,_,_,_,a⟩:=h.at_ hi
 exact a.oks
theorem xT.oks {b:y7} {cs:List Value} (h:xT w b cs):BOk b:=by
 obtain⟨_,_,_,_,_,_,a,c⟩:=h
 exact⟨c.oks,a.1⟩
def zJ (bs:List zU):List zY:=bs.flatMap (·.ids)
theorem Zw (bs:List zU) (d:zU):zJ (bs++[d])=zJ bs++d.ids:=by simp[zJ]
inductive Jn (S0:List zh):List zU→List zh→Prop
 |nil:Jn S0 [] S0
 |snoc {bs:List zU} {S:List zh} {b:y7} (h:Jn S0 bs S) (hb:BOk b) (hc:jb (zJ bs) S bs b=0):Jn S0 (bs++[(doR (zJ bs) S b).d]) (doR (zJ bs) S b).S
theorem Jn.last {e:List zh} {bs:List zU} {d:zU} {S:List zh} (h:Jn e (bs++[d]) S):∃S',Jn e bs S'∧BOk d.blk∧jb (zJ bs) S' bs d.blk=0∧d=(doR (zJ bs) S' d.blk).d∧S=(doR (zJ bs) S' d.blk).S:=by
 generalize f:bs++[d]=l at h
 cases h with
 |nil=>simp at f
 |@snoc bs' S' b h hb hc=>
  obtain⟨g,c⟩:=List.append_inj' f rfl
  simp only[List.cons.injEq,and_true] at c
  subst g
  have a:d.blk=b:=by
   rw[c]
   rw[(zhz (zbj hc).2.2.2).2.2.2]
  exact⟨S',h,by rw[a];exact hb,by rw[a];exact hc,by rw[a];exact c,by rw[a]⟩
theorem Ji {b:y7} (h:xC b=true):b.pay.length≤8∧b.txs.length≤16∧∀t∈b.txs,yV t=true:=by
 simp only[xC,Bool.and_eq_true,decide_eq_true_eq,all_eq_true] at h
 exact⟨h.1,h.2.1,h.2.2⟩
structure HOk (S0:List zh) (bs:List zU) (S:List zh):Prop where
 srt:qg S
 ok:∀c∈S,c.ok
 len:S.length≤S0.length+136*bs.length
 ds:∀d∈bs,d.ids.length≤16∧d.chg.length≤17∧vw d.chg≤264∧(∀x∈d.ids,xU x)∧BOk d.blk∧xC d.blk=true
theorem Jn.good {e:List zh} {bs:List zU} {S:List zh} (h:Jn e bs S) (g:qg e) (ok:∀c∈e,c.ok):HOk e bs S:=by
 induction h with
 |nil=>exact⟨g,ok,by simp,λd h=>by cases h⟩
 |@snoc bs S b h hb hc ih=>
  obtain⟨u,j,v,w⟩:=zbj hc
  obtain⟨q,r,x⟩:=Ji j
  obtain⟨k,l,s,-,i,m,n,o,-,f⟩:=zcC (K:=zJ bs) ih.srt ih.ok (λt p=>(hb.1 t p).2) hb.2 r q
  refine⟨k,l,?_,λd a=>?_⟩
  ·have:=ih.len
   rw[length_append]
   simp only[List.length_cons,length_nil]
   omega
  ·rcases mem_append.1 a with a|a
   ·exact ih.ds d a
   ·simp at a
    subst a
    exact⟨m,n,o,f,by rw[i];exact hb,by rw[i];exact j⟩
theorem Jn.undo {a:List zh} {bs:List zU} {d:zU} {S:List zh} (h:Jn a (bs++[d]) S) (f:qg a) (ok:∀c∈a,c.ok):Jn a bs (qh d.chg S)∧jb (zJ bs) (qh d.chg S) bs d.blk=0∧d=(doR (zJ bs) (qh d.chg S) d.blk).d∧S=(doR (zJ bs) (qh d.chg S) d.blk).S∧BOk d.blk∧∀x∈d.ids,x∉zJ bs:=by
 obtain⟨S',j,e,k,b,i⟩:=h.last
 have l:=j.good f ok
 obtain⟨u,o,v,w⟩:=zbj k
 obtain⟨r,s,y⟩:=Ji o
 obtain⟨-,-,-,g,-,-,-,-,m,-⟩:=zcC (K:=zJ bs) l.srt l.ok (λt p=>(e.1 t p).2) e.2 s r
 have n:qh d.chg S=S':=by rw[←b,←i] at g;exact g
 rw[n]
 exact⟨j,k,b,i,e,λx q=>m x (by rw[←b];exact q)⟩
theorem Y6 {bs:List zU} {d:zU} (h:∀x∈d.ids,x∉zJ bs):∀x,x∈(zJ (bs++[d])).filter (λx=> !decide (x∈d.ids))↔x∈zJ bs:=λx=>by
 rw[Zw]
 simp only[List.mem_filter,mem_append,Bool.not_eq_true',decide_eq_false_iff_not]
 constructor
 ·rintro⟨a|a,b⟩
  ·exact a
  ·exact absurd a b
 ·intro a
  exact⟨.inl a,λe=>h x e a⟩
structure vO {α:Type} (B:Nat) (ty:TypeId) (k:Nat) (q:World→α→List Value→Prop) (V:Nat→Prop) (w:World) (v:Value) (L:List α) (css:List (List Value)):Prop where
 row:w.ownsRow B ty k v L.length (css.flatMap id)
 cl:css.length=L.length
 ck:∀cs∈css,cs.length=k
 data:∀(i:Nat) (d:α) (cs:List Value),L[i]? =some d→css[i]? =some cs→Kept (λj=>V j∨v.ownBlock=some j) w (λw=>q w d cs)
section
variable {α:Type} {B:Nat} {ty:TypeId} {k:Nat} {q:World→α→List Value→Prop} {V:Nat→Prop} {w w':World} {v:Value} {L:List α} {css:List (List Value)}
theorem vO.nil (B:Nat) (ty:TypeId) (k:Nat) (q:World→α→List Value→Prop) (V:Nat→Prop) (w:World):vO B ty k q V w (.slice none 0 0) ([]:List α) []:=
 ⟨World.ownsRow_nil w B ty k,rfl,λ_ h=>(by cases h),λi d cs h=>by simp at h⟩
theorem vO.form (h:vO B ty k q V w v L css):∃a c,v=.slice a L.length c:=h.row.slice.arg.form
theorem vO.lt (h:vO B ty k q V w v L css):∀j,v.ownBlock=some j→B≤j∧j<w.heap.size:=λj a=>h.row.lt j a
theorem vO.fr (h:vO B ty k q V w v L css) {W:Nat→Prop} (f:Fr W w w') (m:∀j,j<w.heap.size→W j→V j) (a:∀j,v.ownBlock=some j→¬W j):vO B ty k q V w' v L css:=
 ⟨zf h.row f a,h.cl,h.ck,λi d cs g l=>(h.data i d cs g l).step ((Fr.mono (W:=λj=>W j∧j<w.heap.size) ⟨f.os,f.tape,f.output,f.size,λk c a=>f.block k c (λe=>a ⟨e,c⟩)⟩ (λj b=>.inl (m j b.2 b.1)))) (λ_ _ e=>e)⟩
theorem vO.fr0 (h:vO B ty k q V w v L css) (f:Fr No w w'):vO B ty k q V w' v L css:=h.fr f (λ_ _ e=>e.elim) (λ_ _ e=>e)
theorem vO.vary (h:vO B ty k q V w v L css) {V':Nat→Prop} (c:∀j,j<w.heap.size→V' j→V j):vO B ty k q V' w v L css:=
 ⟨h.row,h.cl,h.ck,λi d cs a b=>(h.data i d cs a b).step (Fr.refl _ _) (λj f e=>e.imp_left (c j f))⟩
theorem vO.append {P:Program} {t ty2:TypeId} {bytes:Nat} {z:Value} (h:vO B ty k q V w v L css) (I:P.underlying t=some (.slice ty)) (a:(P.info? ty).map (λi=>(i.zero,i.size,i.bytes))=some (some z,k,bytes)) (y:z.cells.size=k) (r:0<k)
  {d:α} {cs:List Value} (H:Kept (λj=>V j∨v.ownBlock=some j) w (λw=>q w d cs)) (m:cs.length=k) (F:∀u∈cs,u.oneCell'=true) (o:(L.length+1)*bytes≤140737488355328) (s:L.length+1≤maxLen) (G:B≤w.heap.size):
  ∃g w',(Builtin.append_ #[t,t] ty2 #[v,.slice (some ⟨w.heap.size,0,none⟩) 1 1]).run P (w.alloc (.cells cs.toArray ty))=.ok g w'∧vO B ty k q V w' g (L++[d]) (css++[cs])∧Fr (λj=>v.ownBlock=some j) w w'∧∀j,g.ownBlock=some j→v.ownBlock=some j∨w.heap.size≤j:=by
 obtain⟨g,w',D,E,n,K,A⟩:=yw (P:=P) w B t ty2 ty k bytes z I a y r h.row cs m F o s G
 refine⟨g,w',D,⟨?_,?_,?_,?_⟩,n,A⟩
 ·rw[length_append,List.flatMap_append]
  simpa using E
 ·rw[length_append,length_append,h.cl];rfl
 ·intro x f
  rcases mem_append.1 f with f|f
  ·exact h.ck x f
  ·simp at f;subst f;exact m
 ·intro i e c b l
  have C:∀j,j<w.heap.size→(V j∨g.ownBlock=some j)→(V j∨v.ownBlock=some j):=λj M e=>e.imp_right (λe=>(A j e).resolve_right (by omega))
  by_cases hi:i<L.length
  ·rw[List.getElem?_append_left hi] at b
   rw[List.getElem?_append_left (by rw[h.cl];exact hi)] at l
   exact(h.data i e c b l).step (n.mono (λj e=>.inr e)) C
  ·have p:i=L.length:=by have:=(List.getElem?_eq_some_iff.1 b).1;simp only[length_append,List.length_singleton] at this;omega
   subst p
   rw[List.getElem?_append_right (le_refl _),Nat.sub_self] at b
   rw[List.getElem?_append_right (by rw[h.cl];exact le_refl _),h.cl,Nat.sub_self] at l
   simp at b l
   subst b
   subst l
   exact H.step (n.mono (λj e=>.inr e)) C
theorem vO.rows (h:vO B ty k q V w v L css) (a:0<k) (b:L.length≤maxLen) {U:Nat→Prop} (l:∀j,j<w.heap.size→U j→V j) (n:∀j,v.ownBlock=some j→¬U j):Kept U w (λw=>xB k q w v L):=λw' f=>by
 refine xB.own a (zf h.row f n) h.cl h.ck b (λi d cs c g=>?_)
 refine((h.data i d cs c g).step (V':=U) (Fr.refl _ _) (λj m e=>.inl (l j m e))) w' f
end
theorem zfn {B:Nat} {v:Value} {k:List Int} (h:yC w B v k) (ok:∀b∈k,0≤b∧b≤255) {V:Nat→Prop} (a:∀j,V j→j<B):Kept V w (λw=>VT w v k):=
 λw' f=>⟨ok,(zf h f (λb c d=>by have:=(h.lt b c).1;have:=a b d;omega)).slice.arg⟩
theorem zfG:vz prog 106=some (34,[(0,33),(33,1)]):=by kernel_rfl
theorem zgx {p:zE} (e:p.ok) (a:Option Addr) (n c:Nat):Jb (([(0,33),(33,1)]:List (Nat×Nat)).toArray[·]?) 0 [(0,.agg (zi p).toArray),(1,.slice a n c)]:=by
 have b:(Value.agg (zi p).toArray).cells.size=33:=by show(zi p).toArray.size=33;simpa using zF e
 have d:(Value.slice a n c).cells.size=1:=rfl
 simp only[Jb,b,d]
 exact⟨rfl,rfl,trivial⟩
theorem zfF (p:zE) (a:Option Addr) (n c:Nat):qB [(0,.agg (zi p).toArray),(1,.slice a n c)]=inC p (.slice a n c):=by
 have b:(Value.agg (zi p).toArray).cells.toList=zi p:=by show(zi p).toArray.toList=_;simp
 have d:(Value.slice a n c).cells.toList=[.slice a n c]:=rfl
 simp only[qB,List.flatMap_cons,List.flatMap_nil,b,d,inC,List.append_nil]
theorem zfk:(prog.info? 106).map (λi=>(i.zero,i.size))=some (some (.agg (inC vn (.slice none 0 0)).toArray),34):=by kernel_rfl
theorem zfl:(prog.info? 62).map (λi=>(i.zero,i.size))=some (some (.agg (txC 0 (.slice none 0 0) (.slice none 0 0)).toArray),3):=by kernel_rfl
theorem Qr (w:World):(zeroValue 62).run prog w=.ok (.agg (txC 0 (.slice none 0 0) (.slice none 0 0)).toArray) w:=by kernel_rfl
theorem zeO (t:Int) (a:Option Addr) (n c:Nat) (w:World):(Instr.build 62 #[(0,.int .u32 t),(2,.slice a n c)]).run prog w=.ok (.agg [.int .u32 t,.slice none 0 0,.slice a n c].toArray) w:=by kernel_rfl
theorem zaK {a b c:Value} (e:a.oneCell'=true) (f:b.oneCell'=true) (g:c.oneCell'=true):∀u∈[a,b,c],u.oneCell'=true:=λu d=>by
 simp only[List.mem_cons,List.not_mem_nil,or_false] at d
 rcases d with rfl|rfl|rfl
 ·exact e
 ·exact f
 ·exact g
def zdk (T:TypeId) (B:Nat) (l:List yk) (z:Option Addr→Nat→List Value) (w2:World) (s:Value) (wc:World):Prop:=
 ∃qd pa pc,s=.pointer (some ⟨qd,0,none⟩)∧B≤qd∧Fr No w2 wc∧wc.heap[qd]? =some (.cells (z pa pc).toArray T (0,0))∧wc.ownsRow B 68 33 (.slice pa l.length pc) l.length (l.flatMap zx)∧∀j,(Value.slice pa l.length pc).ownBlock=some j→j≠qd
abbrev zdi (t:Int) (n:Nat) (pa:Option Addr) (pc:Nat):List Value:=[.int .u64 t,.slice pa n pc,.slice none 0 0]
abbrev zTx (t:Int) (n:Nat) (pa:Option Addr) (pc:Nat):List Value:=[.int .u32 t,.slice none 0 0,.slice pa n pc]
def ziH (wc:World) (qd:Nat) (b:y7) (pa:Option Addr) (pc:Nat) (n:Nat) (wr:World):Prop:=
 ∃tv css,wr.heap[qd]? =some (.cells #[.int .u64 b.tag,.slice pa b.pay.length pc,tv] 36 (0,0))∧vO wc.heap.size 62 3 TxQ (λj=>j<wc.heap.size) wr tv (b.txs.take n) css∧Fr (λj=>j=qd) wc wr
def ziG (wd:World) (qu:Nat) (t:TxD) (va:Option Addr) (vc:Nat) (m:Nat) (wi:World):Prop:=
 ∃iv ics,wi.heap[qu]? =some (.cells #[.int .u32 t.ver,iv,.slice va t.outs.length vc] 62 (0,0))∧vO wd.heap.size 106 34 InQ (λj=>j<wd.heap.size) wi iv (t.ins.take m) ics∧Fr (λj=>j=qu) wd wi
theorem zgH (w:World) {b:y7} {cs:List Value} (ht:xT w b cs) (hN:b.pay.length≤1000) (hT:b.txs.length≤1000) (hI:∀t∈b.txs,t.ins.length≤1000∧t.outs.length≤1000∧∀x∈t.ins,x.key.length≤1000):
  Calls prog 32 #[.agg cs.toArray] w (zeI w b):=by
 obtain⟨ia,ic,oa,oc,rfl,hv,ho,a7⟩:=ht
 have zB:=jY
 have zT:=Qr
 have zI:=vX
 have f1:Fr No w (w.alloc (.cells #[.int .u64 b.tag,.slice ia b.pay.length ic,.slice oa b.txs.length oc] 36)):=(frN w).alloc _
 have ah:Fr No (w.alloc (.cells #[.int .u64 b.tag,.slice ia b.pay.length ic,.slice oa b.txs.length oc] 36)) _:=(frN _).alloc (.cells xY.toArray 36)
 obtain⟨c0,c1,c2,-⟩:=qC w (.int .u64 b.tag) (.slice ia b.pay.length ic) (.slice oa b.txs.length oc) 36
 have C0:=J (ah.cell c0 _root_.id)
 have C1:=J (ah.cell c1 _root_.id)
 have C2:=J (ah.cell c2 _root_.id)
 have F2:=J (f1.trans0 ah)
 have B2:=J (xK (w.alloc (.cells #[.int .u64 b.tag,.slice ia b.pay.length ic,.slice oa b.txs.length oc] 36)) (.cells xY.toArray 36) (n:=w.heap.size+1) (by simp))
 have HO:=J (ho.keep F2.o)
 have bk:=J (a7.keep0 F2.o)
 have Z2:=@J (((w.alloc (.cells #[.int .u64 b.tag,.slice ia b.pay.length ic,.slice oa b.txs.length oc] 36)).alloc (.cells xY.toArray 36)).heap.size=w.heap.size+2) (by simp)
 have HN:=J hN
 have HI:=J hI
 have HV:=J hv
 clear c0 c1 c2 f1 ah ho hv hN a7 hI
 show Calls prog 32 #[.agg #[.int .u64 b.tag,.slice ia b.pay.length ic,.slice oa b.txs.length oc]] w _
 go_enter Tryz.func32,Tryz.ntmps32
 go_wp2_with fail
 generalize (w.alloc (.cells #[.int .u64 b.tag,.slice ia b.pay.length ic,.slice oa b.txs.length oc] 36)).alloc (.cells xY.toArray 36)=w2 at*
 go_cut [3] from 9 to 14 (λs3 wc=>zdk 36 w2.heap.size b.pay (zdi b.tag b.pay.length) w2 s3 wc)
 case first=>
  have I:=J (frN w2).drew
  have af:=J (HO.o.keep I.o)
  have d:=J (I.o.cell C0.o _root_.id)
  have g:=J (I.o.cell C1.o _root_.id)
  have Zd:=@J (w2.drew.heap.size=w2.heap.size) (rfl)
  refine jH 8 [0,1,2,3,4,5,6,7] (λw'=>w'.cell? ⟨w.heap.size,0,none⟩=some (.int .u64 b.tag)∧w'.cell? ⟨w.heap.size,1,none⟩=some (.slice ia b.pay.length ic)) (by kernel_rfl) (by kernel_rfl) (by kernel_rfl) (by kernel_rfl) ?_ (λK hK=>?_)
  ·exact⟨d.o,g.o⟩
  generalize w2.drew=E at*
  (((first|(refine y5 0 (by kernel_rfl) rfl rfl ?_;apply Exists.intro;refine⟨?_,?_⟩;(focus(first|(intro w' hS;obtain⟨Z,s2⟩:=hS;exact goS))))|(refine y6 0 (by kernel_rfl) rfl rfl ?_));try simp only[Act.put,pA,pB,pC]);((first|(refine y5 1 (by kernel_rfl) rfl rfl ?_;apply Exists.intro;refine⟨?_,?_⟩;(focus(first|(intro w' hS;obtain⟨Z,s2⟩:=hS;exact goS))))|(refine y6 1 (by kernel_rfl) rfl rfl ?_));try simp only[Act.put,pA,pB,pC]);((first|(refine y5 2 (by kernel_rfl) rfl rfl ?_;apply Exists.intro;refine⟨?_,?_⟩;(focus(first|(intro w' hS;obtain⟨Z,s2⟩:=hS;exact goS))))|(refine y6 2 (by kernel_rfl) rfl rfl ?_));try simp only[Act.put,pA,pB,pC]);((first|(refine y5 3 (by kernel_rfl) rfl rfl ?_;apply Exists.intro;refine⟨?_,?_⟩;(focus(first|(intro w' hS;obtain⟨Z,s2⟩:=hS;exact goS))))|(refine y6 3 (by kernel_rfl) rfl rfl ?_));try simp only[Act.put,pA,pB,pC]))
  refine Xb 4 6 (by kernel_rfl) rfl rfl rfl rfl (λK' hK'=>?_) (λK' hK'=>?_)
  ·obtain⟨pv,F,X,u,Y,-⟩:=vy E (k:=[]) (World.ownsRow_nil E w2.heap.size _ 33) af.o (by have:=HN.o;simp;omega) (by have:=Zd.o;omega) 22
   rw[length_nil,zero_add,nil_append] at u
   obtain⟨l,o,R⟩:=u.slice.arg.form
   subst R
   have A1:=J X
   have y:=@J (Fr No E F) (Y.mono (λj e=>by cases e))
   have O4:=J u
   clear X u Y
   refine zQ rfl rfl rfl A1.o ?_
   refine nXt hK' ?_ λhS=>?_
   ·exact⟨y.o.cell d.o _root_.id,y.o.cell g.o _root_.id⟩
   try simp only[Act.put,pA,pB,pC]
   (((first|(refine y5 5 (by kernel_rfl) rfl rfl ?_;apply Exists.intro;refine⟨?_,?_⟩;(focus(first|exact λw' _=>yl (t:=36) rfl rfl (Qm _ _ _ _ _)|(intro w' hS;obtain⟨Z,s2⟩:=hS;exact goS))))|(refine y6 5 (by kernel_rfl) rfl rfl ?_));try simp only[Act.put,pA,pB,pC]))
   refine qq 6 (by kernel_rfl) rfl rfl (λK' hK'=>?_)
   refine yg (y4 rfl (jY _)) ?_
   have N:=J ((frN F).alloc (.cells (xY).toArray 36))
   refine nXt hK' ?_ λhS=>?_
   ·exact⟨N.o.cell (y.o.cell d.o _root_.id) _root_.id,N.o.cell (y.o.cell g.o _root_.id) _root_.id⟩
   try simp only[Act.put,pA,pB,pC]
   refine qq 7 (by kernel_rfl) rfl rfl (λK' hK'=>?_)
   refine xx (zj (w:=F) (ty:=36) (cs:=(zdi b.tag b.pay.length) l o) rfl rfl rfl rfl xg (zaK rfl rfl rfl)) ?_
   have O:=J ((frN F).alloc (.cells ((zdi b.tag b.pay.length) l o).toArray 36))
   refine nXt hK' ?_ λhS=>?_
   ·exact⟨O.o.cell (y.o.cell d.o _root_.id) _root_.id,O.o.cell (y.o.cell g.o _root_.id) _root_.id⟩
   try simp only[Act.put,pA,pB,pC]
   refine j7 (hK.out _ _ ?_)
   go_wp2_with fail
   go_meet
   case rel=>exact⟨F.heap.size,l,o,rfl,by have:=y.o.size;have:=Zd.o;omega,I.o.trans0 (y.o.trans0 O.o),zS F (.cells ((zdi b.tag b.pay.length) l o).toArray 36),zf O4.o O.o (λ_ _=>_root_.id),λj a e=>by have:=(O4.o.lt j a).2;omega⟩
  ·refine yg (y4 rfl (jY _)) ?_
   have N:=J ((frN E).alloc (.cells (xY).toArray 36))
   have B5:=J (zS E (.cells (xY).toArray 36))
   have Q5:=@J ((E.alloc (.cells (xY).toArray 36)).heap.size=E.heap.size+1) (by simp)
   generalize E.alloc (.cells (xY).toArray 36)=F at*
   generalize au:E.heap.size=G at*
   refine nXt hK' ?_ λhS=>?_
   ·exact⟨N.o.cell d.o _root_.id,N.o.cell g.o _root_.id⟩
   try simp only[Act.put,pA,pB,pC]
   refine qq 4 (by kernel_rfl) rfl rfl (λK' hK'=>?_)
   obtain⟨pv,w5,X,u,Y,-⟩:=vy F (k:=[]) (World.ownsRow_nil F (w2.heap.size+1) _ 33) (af.o.keep N.o) (by have:=HN.o;simp;omega) (by have:=Zd.o;have:=Q5.o;omega) 22
   rw[length_nil,zero_add,nil_append] at u
   obtain⟨l,o,R⟩:=u.slice.arg.form
   subst R
   have A1:=J X
   have y:=@J (Fr No F w5) (Y.mono (λj e=>by cases e))
   have O4:=J u
   clear X u Y
   refine zQ rfl rfl rfl A1.o ?_
   have L:=J (N.o.trans0 y.o)
   have aa:=J (y.o.obj B5.o _root_.id)
   refine nXt hK' ?_ λhS=>?_
   ·exact⟨L.o.cell d.o _root_.id,L.o.cell g.o _root_.id⟩
   try simp only[Act.put,pA,pB,pC]
   (((first|(refine y5 5 (by kernel_rfl) rfl rfl ?_;apply Exists.intro;refine⟨?_,?_⟩;(focus(first|exact λw' _=>yl (t:=36) rfl rfl (Qm _ _ _ _ _)|(intro w' hS;obtain⟨Z,s2⟩:=hS;exact goS))))|(refine y6 5 (by kernel_rfl) rfl rfl ?_));try simp only[Act.put,pA,pB,pC]))
   refine qq 7 (by kernel_rfl) rfl rfl (λK' hK'=>?_)
   refine xx (zy (ty:=36) (b:=G) (off:=0) (cs:=(zdi b.tag b.pay.length) l o) rfl rfl rfl (zM aa.o (le_refl 3)) xg (zaK rfl rfl rfl)) ?_
   have O:=J (zv G ((zdi b.tag b.pay.length) l o) 0 w5)
   have M:=@J (Fr No E _) (L.o.trans O.o (λi hi e=>by omega))
   refine nXt hK' ?_ λhS=>?_
   ·exact⟨M.o.cell d.o _root_.id,M.o.cell g.o _root_.id⟩
   try simp only[Act.put,pA,pB,pC]
   refine j7 (hK.out _ _ ?_)
   go_wp2_with fail
   go_meet
   case rel=>exact⟨G,l,o,rfl,by have:=Zd.o;omega,I.o.trans0 M.o,zc4 (cs:=(zdi b.tag b.pay.length) l o) aa.o rfl,qs (zf O4.o O.o (λj a e=>by have:=(O4.o.lt j a).1;have:=Zd.o;omega)) (Nat.le_succ _),λj a e=>by have:=(O4.o.lt j a).1;have:=Zd.o;omega⟩
 case rest=>
  rename World=>wz
  obtain⟨G,l,o,rfl,au,fc,bq,op,aX⟩:=hcut
  have FC:=J fc
  have BQ:=J bq
  have OP:=J op
  have QD:=J au
  have NQ:=J aX
  have bf:=J (fc.cell C2.o _root_.id)
  have c2:=bf.o
  have bc:=J (fc.obj B2.o _root_.id)
  have QL:=J (yu bq)
  clear fc bq op au aX
  go_wp2_with fail
  clear c2
  go_loopw [18] (λiv wr=>∃n:Nat,iv=.int .i64 n∧n≤b.txs.length∧ziH wz G b l o n wr) (λiv _=>b.txs.length-(intOf iv).toNat)
  case atStart=>exact⟨0,rfl,Nat.zero_le _,.slice none 0 0,[],BQ.o,vO.nil _ _ _ _ _ _,Fr.refl _ _⟩
  case round=>
   obtain⟨n,rfl,hn,tv,css,aU,aG,fr⟩:=hrel
   have FR:=J fr
   have az:=J aU
   have KR:=J aG
   have FW:=@J (Fr No w2 wr) (FC.o.trans fr (λj a e=>by have:=QD.o;omega))
   obtain⟨q,r,a8⟩:=aG.form
   rw[length_take,min_eq_left hn] at a8
   subst a8
   clear fr aU aG
   by_cases bA:n<b.txs.length
   ·have i1:(n:Int)<(b.txs.length:Int):=by omega
    obtain⟨t,hx⟩:∃x,b.txs[n]? =some x:=⟨_,List.getElem?_eq_getElem bA⟩
    have HX:=J hx
    obtain⟨bb,off,bH,ts,bD,hr,hq⟩:=(bk.o.keep0 FW.o).at_ hx
    cases bD
    obtain⟨ja,jc,ka,kc,rfl,al,ax,ak⟩:=hq
    have TV:=J al
    have R1:=@J (wr.rangeAt bb (off+n*3) [.int .u32 t.ver,.slice ja t.ins.length jc,.slice ka t.outs.length kc]) (hr)
    have TI:=J (HI.o t (List.mem_of_getElem? hx))
    have QA:=@J (wr.heap.size<(wr.alloc (.cells #[.int .u32 t.ver,.slice ja t.ins.length jc,.slice ka t.outs.length kc] 62)).heap.size) (by simp)
    have FA:=J ((frN wr).alloc (.cells #[.int .u32 t.ver,.slice ja t.ins.length jc,.slice ka t.outs.length kc] 62))
    obtain⟨d0,d1,d2,-⟩:=qC wr (.int .u32 t.ver) (.slice ja t.ins.length jc) (.slice ka t.outs.length kc) 62
    have D0:=J d0
    have D1:=J d1
    have D2:=J d2
    have aM:=J (ak.keep FA.o)
    have bj:=J (ax.keep0 FA.o)
    clear hr hx al ax ak d0 d1 d2
    have⟨K0,K1⟩:=tZ2
    go_wp2_with ((first|((with_reducible refine zt ?_);clear K0;refine ziU rfl rfl rfl R1.o rfl ?_)|((with_reducible refine zr ?_);clear K1;refine ze rfl (zj (w:=wr) (ty:=62) (cs:=[.int .u32 t.ver,.slice ja t.ins.length jc,.slice ka t.outs.length kc]) rfl rfl rfl rfl qN (zaK rfl rfl rfl)) ?_;generalize wr.alloc (.cells #[.int .u32 t.ver,.slice ja t.ins.length jc,.slice ka t.outs.length kc] 62)=wq at*));go_frame)
    have aT:=J TI.o.2.1
    go_cut [6] from 22 to 27 (λs6 wd=>zdk 62 wq.heap.size t.outs (zTx t.ver t.outs.length) wq s6 wd)
    case first=>
     have I:=J (frN wq).drew
     have af:=J (aM.o.keep I.o)
     have d:=J (I.o.cell D0.o _root_.id)
     have g:=J (I.o.cell D2.o _root_.id)
     have Zd:=@J (wq.drew.heap.size=wq.heap.size) (rfl)
     refine jH 8 [0,1,2,3,4,5,6,7] (λw'=>w'.cell? ⟨wr.heap.size,0,none⟩=some (.int .u32 t.ver)∧w'.cell? ⟨wr.heap.size,2,none⟩=some (.slice ka t.outs.length kc)) (by kernel_rfl) (by kernel_rfl) (by kernel_rfl) (by kernel_rfl) ?_ (λK hK=>?_)
     ·exact⟨d.o,g.o⟩
     generalize wq.drew=E at*
     (((first|(refine y5 0 (by kernel_rfl) rfl rfl ?_;apply Exists.intro;refine⟨?_,?_⟩;(focus(first|(intro w' hS;obtain⟨Z,s2⟩:=hS;exact goS))))|(refine y6 0 (by kernel_rfl) rfl rfl ?_));try simp only[Act.put,pA,pB,pC]);((first|(refine y5 1 (by kernel_rfl) rfl rfl ?_;apply Exists.intro;refine⟨?_,?_⟩;(focus(first|(intro w' hS;obtain⟨Z,s2⟩:=hS;exact goS))))|(refine y6 1 (by kernel_rfl) rfl rfl ?_));try simp only[Act.put,pA,pB,pC]);((first|(refine y5 2 (by kernel_rfl) rfl rfl ?_;apply Exists.intro;refine⟨?_,?_⟩;(focus(first|(intro w' hS;obtain⟨Z,s2⟩:=hS;exact goS))))|(refine y6 2 (by kernel_rfl) rfl rfl ?_));try simp only[Act.put,pA,pB,pC]);((first|(refine y5 3 (by kernel_rfl) rfl rfl ?_;apply Exists.intro;refine⟨?_,?_⟩;(focus(first|(intro w' hS;obtain⟨Z,s2⟩:=hS;exact goS))))|(refine y6 3 (by kernel_rfl) rfl rfl ?_));try simp only[Act.put,pA,pB,pC]))
     refine Xb 4 6 (by kernel_rfl) rfl rfl rfl rfl (λK' hK'=>?_) (λK' hK'=>?_)
     ·obtain⟨pv,F,X,u,Y,-⟩:=vy E (k:=[]) (World.ownsRow_nil E wq.heap.size _ 33) af.o (by have:=aT.o;simp;omega) (by have:=Zd.o;omega) 22
      rw[length_nil,zero_add,nil_append] at u
      obtain⟨l,o,R⟩:=u.slice.arg.form
      subst R
      have A1:=J X
      have y:=@J (Fr No E F) (Y.mono (λj e=>by cases e))
      have O4:=J u
      clear X u Y
      refine zQ rfl rfl rfl A1.o ?_
      refine nXt hK' ?_ λhS=>?_
      ·exact⟨y.o.cell d.o _root_.id,y.o.cell g.o _root_.id⟩
      try simp only[Act.put,pA,pB,pC]
      (((first|(refine y5 5 (by kernel_rfl) rfl rfl ?_;apply Exists.intro;refine⟨?_,?_⟩;(focus(first|exact λw' _=>yl (t:=62) rfl rfl (zeO _ _ _ _ _)|(intro w' hS;obtain⟨Z,s2⟩:=hS;exact goS))))|(refine y6 5 (by kernel_rfl) rfl rfl ?_));try simp only[Act.put,pA,pB,pC]))
      refine qq 6 (by kernel_rfl) rfl rfl (λK' hK'=>?_)
      refine yg (y4 rfl (Qr _)) ?_
      have N:=J ((frN F).alloc (.cells (txC 0 (.slice none 0 0) (.slice none 0 0)).toArray 62))
      refine nXt hK' ?_ λhS=>?_
      ·exact⟨N.o.cell (y.o.cell d.o _root_.id) _root_.id,N.o.cell (y.o.cell g.o _root_.id) _root_.id⟩
      try simp only[Act.put,pA,pB,pC]
      refine qq 7 (by kernel_rfl) rfl rfl (λK' hK'=>?_)
      refine xx (zj (w:=F) (ty:=62) (cs:=(zTx t.ver t.outs.length) l o) rfl rfl rfl rfl qN (zaK rfl rfl rfl)) ?_
      have O:=J ((frN F).alloc (.cells ((zTx t.ver t.outs.length) l o).toArray 62))
      refine nXt hK' ?_ λhS=>?_
      ·exact⟨O.o.cell (y.o.cell d.o _root_.id) _root_.id,O.o.cell (y.o.cell g.o _root_.id) _root_.id⟩
      try simp only[Act.put,pA,pB,pC]
      refine j7 (hK.out _ _ ?_)
      go_wp2_with fail
      go_meet
      case rel=>exact⟨F.heap.size,l,o,rfl,by have:=y.o.size;have:=Zd.o;omega,I.o.trans0 (y.o.trans0 O.o),zS F (.cells ((zTx t.ver t.outs.length) l o).toArray 62),zf O4.o O.o (λ_ _=>_root_.id),λj a e=>by have:=(O4.o.lt j a).2;omega⟩
     ·refine yg (y4 rfl (Qr _)) ?_
      have N:=J ((frN E).alloc (.cells (txC 0 (.slice none 0 0) (.slice none 0 0)).toArray 62))
      have B5:=J (zS E (.cells (txC 0 (.slice none 0 0) (.slice none 0 0)).toArray 62))
      have Q5:=@J ((E.alloc (.cells (txC 0 (.slice none 0 0) (.slice none 0 0)).toArray 62)).heap.size=E.heap.size+1) (by simp)
      generalize E.alloc (.cells (txC 0 (.slice none 0 0) (.slice none 0 0)).toArray 62)=F at*
      generalize au:E.heap.size=G at*
      refine nXt hK' ?_ λhS=>?_
      ·exact⟨N.o.cell d.o _root_.id,N.o.cell g.o _root_.id⟩
      try simp only[Act.put,pA,pB,pC]
      refine qq 4 (by kernel_rfl) rfl rfl (λK' hK'=>?_)
      obtain⟨pv,w5,X,u,Y,-⟩:=vy F (k:=[]) (World.ownsRow_nil F (wq.heap.size+1) _ 33) (af.o.keep N.o) (by have:=aT.o;simp;omega) (by have:=Zd.o;have:=Q5.o;omega) 22
      rw[length_nil,zero_add,nil_append] at u
      obtain⟨l,o,R⟩:=u.slice.arg.form
      subst R
      have A1:=J X
      have y:=@J (Fr No F w5) (Y.mono (λj e=>by cases e))
      have O4:=J u
      clear X u Y
      refine zQ rfl rfl rfl A1.o ?_
      have L:=J (N.o.trans0 y.o)
      have aa:=J (y.o.obj B5.o _root_.id)
      refine nXt hK' ?_ λhS=>?_
      ·exact⟨L.o.cell d.o _root_.id,L.o.cell g.o _root_.id⟩
      try simp only[Act.put,pA,pB,pC]
      (((first|(refine y5 5 (by kernel_rfl) rfl rfl ?_;apply Exists.intro;refine⟨?_,?_⟩;(focus(first|exact λw' _=>yl (t:=62) rfl rfl (zeO _ _ _ _ _)|(intro w' hS;obtain⟨Z,s2⟩:=hS;exact goS))))|(refine y6 5 (by kernel_rfl) rfl rfl ?_));try simp only[Act.put,pA,pB,pC]))
      refine qq 7 (by kernel_rfl) rfl rfl (λK' hK'=>?_)
      refine xx (zy (ty:=62) (b:=G) (off:=0) (cs:=(zTx t.ver t.outs.length) l o) rfl rfl rfl (zM aa.o (le_refl 3)) qN (zaK rfl rfl rfl)) ?_
      have O:=J (zv G ((zTx t.ver t.outs.length) l o) 0 w5)
      have M:=@J (Fr No E _) (L.o.trans O.o (λi hi e=>by omega))
      refine nXt hK' ?_ λhS=>?_
      ·exact⟨M.o.cell d.o _root_.id,M.o.cell g.o _root_.id⟩
      try simp only[Act.put,pA,pB,pC]
      refine j7 (hK.out _ _ ?_)
      go_wp2_with fail
      go_meet
      case rel=>exact⟨G,l,o,rfl,by have:=Zd.o;omega,I.o.trans0 M.o,zc4 (cs:=(zTx t.ver t.outs.length) l o) aa.o rfl,qs (zf O4.o O.o (λj a e=>by have:=(O4.o.lt j a).1;have:=Zd.o;omega)) (Nat.le_succ _),λj a e=>by have:=(O4.o.lt j a).1;have:=Zd.o;omega⟩
    case rest=>
     rename World=>wd
     obtain⟨qu,va,vc,rfl,aZ,fd,bu,ou,aY⟩:=hcut
     have I:=J fd
     have BU:=J bu
     have OU:=J ou
     have QU:=J aZ
     have NU:=J aY
     have bg:=J (fd.cell D1.o _root_.id)
     have bx:=bg.o
     have UL:=J (yu bu)
     clear fd bu ou aZ aY
     go_wp2_with fail
     clear bx
     have VZ:=@J (∀j,j<wz.heap.size→j<wd.heap.size) (λj a=>by have:=FR.o.size;have:=FA.o.size;have:=I.o.size;omega)
     have bw:=@J (G<wq.heap.size∧wr.heap.size<wq.heap.size) (by have:=yu az.o;have:=FA.o.size;exact⟨by omega,QA.o⟩)
     have bJ:=TI.o.1
     go_loopw [31] (λiv s=>∃m:Nat,iv=.int .i64 m∧m≤t.ins.length∧ziG wd qu t va vc m s) (λiv _=>t.ins.length-(intOf iv).toNat)
     case atStart=>exact⟨0,rfl,Nat.zero_le _,.slice none 0 0,[],BU.o,vO.nil _ _ _ _ _ _,Fr.refl _ _⟩
     case round=>
      obtain⟨m,rfl,hm,iv,ba,aV,aF,fi⟩:=hrel
      rename World=>s
      have FI:=J fi
      have aA:=J aV
      have KI:=J aF
      obtain⟨A,B,aW⟩:=aF.form
      rw[length_take,min_eq_left hm] at aW
      subst aW
      have aC:=@J (Fr No wq s) (I.o.trans fi (λj a e=>by have:=QU.o;omega))
      clear fi aV aF
      by_cases bB:m<t.ins.length
      ·have i2:(m:Int)<(t.ins.length:Int):=by omega
       obtain⟨x,av⟩:∃x,t.ins[m]? =some x:=⟨_,List.getElem?_eq_getElem bB⟩
       have bm:=J av
       obtain⟨b2,bG,bF,xs,bE,a6,bC⟩:=(bj.o.keep0 aC.o).at_ av
       cases bE
       obtain⟨C,D,rfl,H,ay⟩:=bC
       have aE:=J H
       have br:=J ay
       have R2:=J a6
       have IL:=J (vl H (.slice C x.key.length D))
       have PL:=J (zF H)
       have KL:=J (TI.o.2.2 x (List.mem_of_getElem? av))
       have FB:=J ((frN s).alloc (.cells (inC x.from_ (.slice C x.key.length D)).toArray 106))
       have aN:=J (jO s (p:=x.from_) (kv:=.slice C x.key.length D) H)
       have QB:=@J ((s.alloc (.cells (inC x.from_ (.slice C x.key.length D)).toArray 106)).heap.size=s.heap.size+1) (by simp)
       clear a6 av H ay
       have⟨K0,K1⟩:=tZ2
       go_wp2_with ((first|((with_reducible refine zt ?_);clear K0;refine ziV rfl rfl rfl R2.o IL.o ?_)|((with_reducible refine zr ?_);clear K1;refine zi4 (w:=s) (cs:=inC x.from_ (.slice C x.key.length D)) rfl rfl rfl rfl IL.o qD ?_;generalize s.alloc (.cells (inC x.from_ (.slice C x.key.length D)).toArray 106)=wj at*));go_frame)
       have ar:=J (FB.o.trans0 (frN wj).drew)
       have aK:=J (ar.o.obj aA.o _root_.id)
       have aL:=@J (wj.drew.cell? ⟨qu,1,none⟩=some (.slice A m B)) (by have:=zm aK.o 1 _ rfl;simpa using this)
       have aQ:=J (KI.o.fr0 ar.o)
       have RZ:=@J (wj.drew.rangeAt s.heap.size 0 (zi x.from_)∧wj.drew.cell? ⟨s.heap.size,33,none⟩=some (.slice C x.key.length D)) (⟨zb aN.o.1 (frN wj).drew _root_.id,(frN wj).drew.cell aN.o.2 _root_.id⟩)
       have aR:=J (br.o.keep ar.o)
       have QZ:=@J (wj.drew.heap.size=s.heap.size+1) (QB.o)
       have UQ:=@J (qu<s.heap.size) (yu aA.o)
       refine yD [ff,ff,ff,ff,ff,ff,tt,ff,tt,tt,ff,tt] (λw'=>w'.cell? ⟨qu,1,none⟩=some (.slice A m B)∧w'.rangeAt s.heap.size 0 (zi x.from_)∧w'.cell? ⟨s.heap.size,33,none⟩=some (.slice C x.key.length D)) (by kernel_rfl) (by kernel_rfl) 11 (by kernel_rfl) (by kernel_rfl) ?_ (λK hK=>?_)
       ·exact⟨aL.o,RZ.o.1,RZ.o.2⟩
       generalize wj.drew=z at*
       obtain⟨kv,w9,X,u,Y,-⟩:=yq z (yC.nil z z.heap.size) aR.o.2 (by simp;have:=KL.o;omega) (le_refl _) 84
       rw[nil_append] at u
       obtain⟨an,ao,bz⟩:=u.form
       subst bz
       have A1:=J X
       have F9:=@J (Fr No z w9) (Y.mono (λj e=>by cases e))
       have K9:=J u
       clear X u Y
       have aD:=J (vl aE.o (.slice an x.key.length ao))
       have bs:=J (aQ.o.fr0 F9.o)
       have bp:=@J (Kept (λj=>j<wd.heap.size∨(Value.slice A m B).ownBlock=some j) w9 (λw=>InQ w x (inC x.from_ (.slice an x.key.length ao)))) (λw' f=>⟨an,ao,rfl,aE.o,zfn K9.o aR.o.1 (V:=λj=>j<wd.heap.size∨(Value.slice A m B).ownBlock=some j) (λj a=>by
        have:=FI.o.size
        have:=QZ.o
        rcases a with a|a
        ·omega
        ·have:=(aQ.o.lt j a).2;omega) w' f⟩)
       obtain⟨v5,c,b1,Q,b3,b4⟩:=bs.o.append (P:=prog) (t:=60) (ty2:=60) (bytes:=64) zf3 zgB rfl (by decide) bp.o aD.o qD (by rw[length_take];have:=TI.o.1;omega) (by rw[length_take];unfold maxLen;have:=TI.o.1;omega) (by have:=F9.o.size;have:=FI.o.size;have:=QZ.o;omega)
       have B1:=J b1
       have aO:=@J (vO wd.heap.size 106 34 InQ (λj=>j<wd.heap.size) c v5 (t.ins.take (m+1)) (ba++[inC x.from_ (.slice an x.key.length ao)])) (by rw[List.take_add_one,bm.o];exact Q)
       have bh:=J b4
       have aq:=J b3
       obtain⟨T,W,S⟩:=Q.form
       rw[length_append,length_take,min_eq_left hm] at S
       simp only[List.length_singleton] at S
       subst S
       clear b1 Q b3 b4
       have ag:=@J (∀j,(Value.slice A m B).ownBlock=some j→wd.heap.size≤j∧j<s.heap.size) (λj a=>KI.o.lt j a)
       have bd:=J (F9.o.obj aK.o _root_.id)
       have ad:=J (aq.o.obj bd.o (λe=>by have:=(ag.o _ e).1;have:=UL.o;omega))
       have aS:=@J (c.cell? ⟨qu,1,none⟩=some (.slice A m B)) (by have:=zm ad.o 1 _ rfl;simpa using this)
       have aw:=@J (c.rangeAt s.heap.size 0 (zi x.from_)∧c.cell? ⟨s.heap.size,33,none⟩=some (.slice C x.key.length D)) (⟨zb (zb RZ.o.1 F9.o _root_.id) aq.o (λe=>by have:=(ag.o _ e).2;omega),aq.o.cell (F9.o.cell RZ.o.2 _root_.id) (λe=>by have h:s.heap.size<s.heap.size:=(ag.o _ e).2;omega)⟩)
       have bI:=zW (i:=1) ad.o
       have S9:=@J (∀w',Fr No z w'→w'.cell? ⟨qu,1,none⟩=some (.slice A m B)∧w'.rangeAt s.heap.size 0 (zi x.from_)∧w'.cell? ⟨s.heap.size,33,none⟩=some (.slice C x.key.length D)) (λw' f=>⟨f.cell aL.o _root_.id,zb RZ.o.1 f _root_.id,f.cell RZ.o.2 _root_.id⟩)
       have fs:Fr (λj=>j=qu) c (c.setCell ⟨qu,1,none⟩ (.slice T (m+1) W)):=(Fr.refl (λj=>j=qu) c).setCell ⟨qu,1,none⟩ (.inr rfl) _
       have aJ:=J (heap_setCell_same c qu 1 _ _ (.slice T (m+1) W) ad.o)
       have aP:=J (aO.o.fr fs (λj _ e=>by rw[e];exact UL.o) (λj a e=>by
        rcases bh.o j a with h|h
        ·have:=(ag.o _ h).1;have:=UL.o;omega
        ·have:=F9.o.size;have:=QZ.o;have:=UQ.o;omega))
       have aB:=@J (Fr (λj=>j=qu) wd (c.setCell ⟨qu,1,none⟩ (.slice T (m+1) W))) ((((FI.o.trans0 ar.o).trans0 F9.o).trans aq.o (λj a e=>by have:=(ag.o _ e).1;omega)).trans fs (λj _ e=>e))
       clear fs
       repeat((first|(refine ym rfl ?_;constructor;constructor;(focus(first|exact zi1 rfl (λw h=>h.2.1) PL.o|(rintro w' ⟨Z,s2,s3⟩;exact goS))))|(refine yn rfl ?_));try simp only[Act.put,pA,pB,pC])
       (refine yf rfl (λK' hK'=>?_))
       refine zQ rfl rfl rfl A1.o ?_
       refine hK'.out _ _ (λ_=>?_) (λhS=>?_)
       ·exact S9.o _ F9.o
       try simp only[Act.put,pA,pB,pC]
       repeat((first|(refine ym rfl ?_;constructor;constructor;(focus(first|exact zi1 rfl (λw h=>h.2.1) PL.o|exact λw' _=>qj (t:=106) (vs:=[(0,.agg (zi x.from_).toArray),(1,.slice an x.key.length ao)]) rfl rfl zfG (zgx aE.o _ _ _) (zfF _ _ _ _) (by rw[aD.o])|(rintro w' ⟨Z,s2,s3⟩;exact goS))))|(refine yn rfl ?_));try simp only[Act.put,pA,pB,pC])
       (refine yf rfl (λK' hK'=>?_))
       refine yg (zL (t:=60) rfl rfl zf3 zfk rfl (by decide) (by decide) aD.o) ?_
       refine hK'.out _ _ (λ_=>?_) (λhS=>?_)
       ·exact S9.o _ (F9.o.alloc _)
       try simp only[Act.put,pA,pB,pC]
       (refine yf rfl (λK' hK'=>?_))
       refine zQ rfl rfl rfl B1.o ?_
       refine hK'.out _ _ (λ_=>?_) (λhS=>?_)
       ·exact⟨aS.o,aw.o.1,aw.o.2⟩
       try simp only[Act.put,pA,pB,pC]
       repeat((first|(refine ym rfl ?_;constructor;constructor;(focus(first|(rintro w' ⟨Z,s2,s3⟩;exact goS))))|(refine yn rfl ?_));try simp only[Act.put,pA,pB,pC])
       (refine yf rfl (λK' hK'=>?_))
       go_simp
       refine hK'.out _ _ (λh=>absurd rfl h) (λhS=>?_)
       refine qp (hK.out _ _ ?_)
       go_wp2_with fail
       go_roundw
       case rel=>exact⟨m+1,by go_num,by omega,_,_,aJ.o,aP.o,aB.o⟩
       case measure=>simp[intOf];omega
      ·have ai:m=t.ins.length:=by omega
       have i2:¬(m:Int)<(t.ins.length:Int):=by omega
       have ae:=@J (Fr No wr s) (FA.o.trans0 aC.o)
       have aI:=J (ae.o.obj az.o _root_.id)
       have bt:=J (KR.o.fr0 ae.o)
       have cA:s.cell? ⟨G,2,none⟩=some (.slice q n r):=by have:=zm aI.o 2 _ rfl;simpa using this
       have RU:=J (zm aA.o)
       have KT:=@J (Kept (λj=>j<wz.heap.size∨(Value.slice q n r).ownBlock=some j) s (λw=>TxQ w t [.int .u32 t.ver,.slice A m B,.slice va t.outs.length vc])) (by
        have k1:vO wd.heap.size 106 34 InQ (λj=>j<wd.heap.size) s (.slice A m B) t.ins ba:=by have:=KI.o;rw[ai,List.take_length] at this;rw[ai];exact this
        have k2:=k1.rows (U:=λj=>j<wz.heap.size∨(Value.slice q n r).ownBlock=some j) (by decide) (by unfold maxLen;have:=TI.o.1;omega) (λj a e=>e.elim (VZ.o j) (λe=>by have:=(KR.o.lt j e).2;have:=FA.o.size;have:=I.o.size;omega)) (λj a e=>by
         have h1:=(k1.lt j a).1
         rcases e with e|e
         ·have:=VZ.o j e;omega
         ·have:=(KR.o.lt j e).2;have:=FA.o.size;have:=I.o.size;omega)
        have k3:=Yt (V:=λj=>j<wz.heap.size∨(Value.slice q n r).ownBlock=some j) (zf OU.o FI.o (λj a e=>NU.o j a e)) aM.o.1 (λj e=>by
         rcases e with e|e
         ·have:=FR.o.size;have:=FA.o.size;omega
         ·have:=(KR.o.lt j e).2;have:=FA.o.size;omega)
        intro w' f
        exact⟨A,B,va,vc,by rw[ai];rfl,TV.o,by have:=k2 w' f;rw[ai] at this;exact this,k3 w' f⟩)
       obtain⟨v5,c,b1,Q,b3,b4⟩:=bt.o.append (P:=prog) (t:=34) (ty2:=34) (bytes:=56) zf4 zgC rfl (by decide) KT.o rfl (zaK rfl rfl rfl) (by rw[length_take];omega) (by rw[length_take];unfold maxLen;omega) (by have:=FR.o.size;have:=ae.o.size;omega)
       have B1:=J b1
       have bn:=@J (vO wz.heap.size 62 3 TxQ (λj=>j<wz.heap.size) c v5 (b.txs.take (n+1)) (css++[[.int .u32 t.ver,.slice A m B,.slice va t.outs.length vc]])) (by rw[List.take_add_one,HX.o];exact Q)
       obtain⟨T,W,S⟩:=Q.form
       rw[length_append,length_take,min_eq_left hn] at S
       simp only[List.length_singleton] at S
       subst S
       have NT:=@J (∀j,(Value.slice q n r).ownBlock=some j→wz.heap.size≤j∧j<wr.heap.size) (λj a=>KR.o.lt j a)
       have ab:=J (b3.obj aI.o (λe=>by have:=(NT.o _ e).1;have:=QL.o;omega))
       have cB:c.cell? ⟨G,2,none⟩=some (.slice q n r):=by have:=zm ab.o 2 _ rfl;simpa using this
       have fB:=zW (i:=2) ab.o
       have fs:Fr (λj=>j=G) c (c.setCell ⟨G,2,none⟩ (.slice T (n+1) W)):=(Fr.refl (λj=>j=G) c).setCell ⟨G,2,none⟩ (.inr rfl) _
       have aH:=J (heap_setCell_same c G 2 _ _ (.slice T (n+1) W) ab.o)
       have bo:=J (bn.o.fr fs (λj _ e=>by rw[e];exact QL.o) (λj a e=>by
        rcases b4 j a with h|h
        ·have:=(NT.o _ h).1;have:=QL.o;omega
        ·have:=ae.o.size;have:=bw.o.1;have:=aC.o.size;omega))
       have aB:=@J (Fr (λj=>j=G) wz (c.setCell ⟨G,2,none⟩ (.slice T (n+1) W))) (((FR.o.trans0 ae.o).trans b3 (λj a e=>by have:=(NT.o _ e).1;omega)).trans fs (λj _ e=>e))
       clear b1 Q b3 b4 fs ai
       have⟨K0,K1,K2⟩:=tZ3
       go_wp2_with (((with_reducible refine zt ?_);first|(clear K0;refine ziU rfl rfl rfl RU.o rfl ?_)|(clear K1;refine zg rfl (zL (t:=34) rfl rfl zf4 zfl rfl (by decide) (by decide) rfl) ?_)|(clear K2;at_builtin;refine zk rfl rfl rfl rfl B1.o ?_));go_frame)
       go_roundw
       case rel=>exact⟨n+1,by go_num,by omega,_,_,aH.o,bo.o,aB.o⟩
       case measure=>simp[intOf];omega
   ·have aj:n=b.txs.length:=by omega
    have i1:¬(n:Int)<(b.txs.length:Int):=by omega
    have R6:=J (zm az.o)
    have BZ:=J (FR.o.obj bc.o (λe=>by have:=QD.o;have:=Z2.o;omega))
    have bl:=@J (∀V:Nat→Prop,(∀j,V j→j<w2.heap.size)→Kept V wr (λw=>xT w b [.int .u64 b.tag,.slice l b.pay.length o,.slice q n r])) (λV hV w' f=>by
     have k1:vO wz.heap.size 62 3 TxQ (λj=>j<wz.heap.size) wr (.slice q n r) b.txs css:=by have:=KR.o;rw[aj,List.take_length] at this;rw[aj];exact this
     have k2:=k1.rows (U:=V) (by decide) (by unfold maxLen;omega) (λj a e=>by have:=hV j e;have:=QD.o;have:=QL.o;omega) (λj a e=>by have:=(k1.lt j a).1;have:=hV j e;have:=QD.o;have:=QL.o;omega) w' f
     have k3:=Yt (V:=V) (zf OP.o FR.o (λj a e=>NQ.o j a e)) HO.o.1 hV w' f
     exact⟨l,o,q,r,by rw[aj];rfl,HV.o,k3,by rw[aj] at k2;exact k2⟩)
    clear aj
    have⟨K0,K1⟩:=tZ2
    go_wp2_with ((first|((with_reducible refine zt ?_);clear K0;refine ziS rfl rfl rfl R6.o rfl ?_)|((with_reducible refine zr ?_);clear K1;refine ze rfl (zy (ty:=36) (b:=w.heap.size+1) (off:=0) (cs:=[.int .u64 b.tag,.slice l b.pay.length o,.slice q n r]) rfl rfl rfl (zM BZ.o (le_refl 3)) xg (zaK rfl rfl rfl)) ?_));go_frame)
    have BE:=zc4 (cs:=[.int .u64 b.tag,.slice l b.pay.length o,.slice q n r]) BZ.o rfl
    have fE:=zv (w.heap.size+1) [.int .u64 b.tag,.slice l b.pay.length o,.slice q n r] 0 wr
    refine bodyPost_ret (v:=.agg [.int .u64 b.tag,.slice l b.pay.length o,.slice q n r].toArray) (results_cell_row (P:=prog) (fn:=Tryz.f32) rfl _ _ (w.heap.size+1) 36 _ (0,0) _ rfl BE Tryz.underlying36 rfl xg) rfl ⟨_,rfl,(F2.o.trans0 FW.o).trans fE (λi hi e=>by omega),λV hV w' f=>bl.o (λj=>V j∨j=w.heap.size+1) (λj a=>by have:=Z2.o;rcases a with a|a;have:=hV j a;omega;omega) w' ((fE.mono (λj a=>.inr a)).trans (f.mono (λj a=>.inl a)) (λ_ _ h=>h))⟩
end Go.Proofs.YtmpamcnlineceaaGreatDoor
