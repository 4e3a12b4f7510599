/- slices.Clone of inputs, outputs, bytes; own: a transaction in memory of its own. -/
import Derived.Test.YtbcllfjmabiafaaGreatDoorPG16
import Derived.Test.YtbcllfjmabiafaaGreatDoorPG8
import Derived.Test.YtbcllfjmabiafaaGreatDoorPG18
import Derived.Test.YtbcllfjmabiafaaGreatDoorPG2
import Derived.Test.YtbcllfjmabiafaaGreatDoorPG15
import Derived.Test.YtbcllfjmabiafaaGreatDoorPG13
set_option linter.unusedVariables false
set_option linter.unusedSimpArgs false
set_option linter.unnecessarySimpa false
set_option linter.all false
set_option maxRecDepth 20000
set_option maxHeartbeats 16000000
namespace Go.Proofs.YtbcllfjmabiafaaGreatDoor
open Go Go.RowKit Go.Maps Go.MapKept
open Go.Proofs.Tryz(prog)
open List(mem_map mem_of_getElem? length_map)
open Nat(le_refl zero_le)
variable {cs:List Value} {v:Value} {w:World}
theorem Yg (w:World) {l:List yC} (i:xg w v l) (D:l.length≤100000):
  Calls prog 90 #[v] w λe w'=>∃j,e=.returned j∧w'.ownsRow w.heap.size 58 33 j l.length (l.flatMap zF)∧Fr No w w':=by
 have C:∀(w:World) (a:Option Addr) (n c q o:Nat),(binOp .eql 22 (.slice a n c) (.slice none q o)).run prog w=.ok (.bool a.isNone) w:=λw a n c q o=>Lib.run_eql_slice_nil w _ _ a n c q o qO
 by_cases hnil:v=.slice none 0 0
 ·subst hnil
  have B:l=[]:=by
   obtain⟨a,c,h⟩:=(i.2).form
   injection h with h1 h2 h3
   exact List.eq_nil_of_length_eq_zero h2.symm
  subst B
  go_enter Tryz.func90,Tryz.ntmps90
  go_wp2
  go_ret
  exact⟨_,rfl,World.ownsRow_nil _ _ _ _,Fr.refl _ _⟩
 ·have u:xQ (w.alloc (.cells #[] 58)) v l.length (l.flatMap zF):=(i.2).keep ((Fr.refl _ _).alloc _)
  obtain⟨j,w',d,t,s,-,p⟩:=Jn (P:=prog) (w.alloc (.cells #[] 58)) w.heap.size 22 22 58 33 40 _ qO JG rfl (by decide) (.slice (some ⟨w.heap.size,0,none⟩) 0 0) 0 [] (World.ownsRow_made w #[] 0 (le_refl _) (zero_le _) rfl) v l.length (l.flatMap zF) u (zfi i.1) (zfj) (by omega) (by unfold maxLen;omega) (by simp) hnil
  have r:Fr No w w':=Fr.grown ((Fr.refl _ w).alloc _) s (λk A=>by simp[Value.ownBlock] at A;exact .inl (by omega))
  have f:∃b n c,v=.slice (some b) n c:=by
   rcases(i.2) with(⟨h,_⟩|⟨g,go,z,h,_⟩)|⟨a0,z,h,-⟩
   ·exact absurd h hnil
   ·exact⟨_,_,_,h⟩
   ·exact⟨_,_,_,h⟩
  obtain⟨b,n,c,rfl⟩:=f
  have m:=Hd d
  have y:=@Hd (w'.ownsRow w.heap.size 58 33 j l.length (l.flatMap zF)) (by simpa using t)
  have x:=Hd r
  clear u d t s p r hnil
  go_enter Tryz.func90,Tryz.ntmps90
  go_wp2_with (at_builtin;refine zJ rfl rfl rfl rfl m.o ?_)
  go_ret
  exact⟨_,rfl,y.o,x.o⟩
theorem zdV (w:World) {l:List Int} (p:zbE w v l) (D:l.length≤100000):
  Calls prog 91 #[v] w λe w'=>∃i,e=.returned i∧w'.ownsRow w.heap.size 5 1 i l.length (l.map zQ)∧Fr No w w':=by
 have C:∀(w:World) (a:Option Addr) (n c q m:Nat),(binOp .eql 110 (.slice a n c) (.slice none q m)).run prog w=.ok (.bool a.isNone) w:=λw a n c q m=>Lib.run_eql_slice_nil w _ _ a n c q m Qb
 by_cases hnil:v=.slice none 0 0
 ·subst hnil
  have B:l=[]:=by
   obtain⟨a,c,h⟩:=(p.2).form
   injection h with h1 h2 h3
   exact List.eq_nil_of_length_eq_zero h2.symm
  subst B
  go_enter Tryz.func91,Tryz.ntmps91
  go_wp2
  go_ret
  exact⟨_,rfl,World.ownsRow_nil _ _ _ _,Fr.refl _ _⟩
 ·have u:xQ (w.alloc (.cells #[] 5)) v l.length (l.map zQ):=(p.2).keep ((Fr.refl _ _).alloc _)
  obtain⟨i,w',d,t,s,-,o⟩:=Jn (P:=prog) (w.alloc (.cells #[] 5)) w.heap.size 110 110 5 1 1 _ Qb Qr rfl (by decide) (.slice (some ⟨w.heap.size,0,none⟩) 0 0) 0 [] (World.ownsRow_made w #[] 0 (le_refl _) (zero_le _) rfl) v l.length (l.map zQ) u (by simp) (zc1) (by omega) (by unfold maxLen;omega) (by simp) hnil
  have r:Fr No w w':=Fr.grown ((Fr.refl _ w).alloc _) s (λk A=>by simp[Value.ownBlock] at A;exact .inl (by omega))
  have f:∃b n c,v=.slice (some b) n c:=by
   rcases(p.2) with(⟨h,_⟩|⟨g,go,z,h,_⟩)|⟨a0,z,h,-⟩
   ·exact absurd h hnil
   ·exact⟨_,_,_,h⟩
   ·exact⟨_,_,_,h⟩
  obtain⟨b,n,c,rfl⟩:=f
  have j:=Hd d
  have y:=@Hd (w'.ownsRow w.heap.size 5 1 i l.length (l.map zQ)) (by simpa using t)
  have x:=Hd r
  clear u d t s o r hnil
  go_enter Tryz.func91,Tryz.ntmps91
  go_wp2_with (at_builtin;refine zJ rfl rfl rfl rfl j.o ?_)
  go_ret
  exact⟨_,rfl,y.o,x.o⟩
theorem VH (w:World) {L:List InD} {V:Nat→Prop} (r:Kept V w (λw=>Vw w v L)) (N:L.length≤100000):
  Calls prog 89 #[v] w λe w'=>∃(y:Value) (css:List (List Value)),e=.returned y∧css.length=L.length∧(∀(i:Nat) (d:InD) (cs:List Value),L[i]? =some d→css[i]? =some cs→Kept V w' (λw=>InQ w d cs))∧(∀cs∈css,cs.length=34)∧w'.ownsRow w.heap.size 112 34 y L.length (css.flatMap id)∧Fr No w w':=by
 have K:∀(w:World) (a:Option Addr) (n c x t:Nat),(binOp .eql 25 (.slice a n c) (.slice none x t)).run prog w=.ok (.bool a.isNone) w:=λw a n c x t=>Lib.run_eql_slice_nil w _ _ a n c x t Qd
 obtain⟨M,P,rfl⟩:=r.now.form
 have u:Fr No w (w.alloc (.cells #[] 112)):=(frN w).alloc _
 obtain⟨css,y,w',f,k,m,g,q,p,A⟩:=zfX (w.alloc (.cells #[] 112)) (World.ownsRow_made w #[] 0 (le_refl _) (zero_le _) rfl) (V:=λj=>V j∨j=w.heap.size) (r.step u.of0 (λj O h=>h.resolve_right (by omega))) (by omega) (by simp)
 rw[Nat.zero_add,List.nil_append] at q
 have z:Fr No w w':=u.trans p (λi hi e=>by simp[Value.ownBlock] at e;omega)
 have o:Fr (λj=>(Value.slice (some ⟨w.heap.size,0,none⟩) 0 0).ownBlock=some j) (w.alloc (.cells #[] 112)) w':=p
 cases M with
 |none=>
  have I:L=[]:=by
   cases L with
   |nil=>rfl
   |cons d l=>
    obtain⟨b,off,cap,cs,e,-⟩:=r.now.at_ (i:=0) rfl
    injection e with e
    cases e
  subst I
  clear f q p A m g k
  go_enter Tryz.func89,Tryz.ntmps89
  go_wp2
  go_ret
  exact⟨_,[],rfl,rfl,λi d cs h=>(by simp at h),λ_ h=>(by cases h),World.ownsRow_nil _ _ _ _,Fr.refl _ _⟩
 |some ad=>
  have s:=Hd f
  have F:=Hd q
  have B:=Hd z
  have D:=@Hd (∀(i:Nat) (d:InD) (cs:List Value),L[i]? =some d→css[i]? =some cs→Kept V w' (λw=>InQ w d cs)) (λi d cs G H=>(m i d cs G H).step (V':=V) (o.mono (λj e=>.inr (by simpa[Value.ownBlock] using e.symm))) (λ_ _ h=>.inl h))
  have C:=Hd g
  have E:=Hd k
  clear f q p z A m g k o r u
  go_enter Tryz.func89,Tryz.ntmps89
  go_wp2_with (at_builtin;refine zJ rfl rfl rfl rfl s.o ?_)
  go_ret
  exact⟨_,css,rfl,E.o,D.o,C.o,F.o,B.o⟩
theorem qz {b off:Nat} (h:w.rangeAt b off cs) (a:cs≠[]):b<w.heap.size:=by
 cases cs with
 |nil=>exact absurd rfl a
 |cons v r=>exact World.block_lt_of_cell? w ⟨b,off+0,none⟩ (h 0 v rfl)
theorem zcX {w w':World} {n:Nat} (h:xQ w v n cs) {W:Nat→Prop} (f:Fr W w w') (c:∀j,j<w.heap.size→¬W j):xQ w' v n cs:=
 h.imp (λh=>h.keep f (λj a=>c j (by
  rcases h with⟨rfl,_⟩|⟨d,off,cap,rfl,e,g,i,b⟩
  ·cases a
  ·simp[Value.ownBlock] at a;subst a;exact b))) id
theorem zie {L:List InD} (h:Vw w v L) {V:Nat→Prop} (g:∀j,j<w.heap.size→¬V j):Kept V w (λw=>Vw w v L):=λw' f=>by
 obtain⟨q,r,e,n,h⟩:=h
 refine⟨q,r,e,n,λi d hi=>?_⟩
 obtain⟨b,off,cs,k,a,o,p,rfl,l,c⟩:=h i d hi
 have m:=qz a (by unfold inC;simp)
 exact⟨b,off,_,k,za a f (g b m),o,p,rfl,l,c.1,zcX c.2 f g⟩
theorem VS {k r:Nat} {v:Value} (b:r<k):∀ {css:List (List Value)} {m:Nat} {cs:List Value},(∀c∈css,c.length=k)→css[m]? =some cs→(css.flatMap id).set (m*k+r) v=(css.set m (cs.set r v)).flatMap id
 |[],m,cs,_,h=>by simp at h
 |c::l,0,cs,hk,h=>by
  simp at h
  subst h
  have a:=hk c (.head _)
  simp only[List.flatMap_cons,id,List.set_cons_zero,Nat.zero_mul,Nat.zero_add]
  rw[List.set_append_left _ _ (by omega)]
 |c::l,m+1,cs,hk,h=>by
  have a:=hk c (.head _)
  have ih:=VS (v:=v) b (css:=l) (m:=m) (λx d=>hk x (.tail _ d)) (by simpa using h)
  simp only[List.flatMap_cons,id,List.set_cons_succ] at ih⊢
  rw[←ih,Nat.succ_mul,List.set_append_right _ _ (by omega)]
  congr 2
  omega
theorem zk1 {p:zx} (ok:p.ok) (a b:Value):(inC p a).set 33 b=inC p b:=by
 unfold inC
 rw[List.set_append_right _ _ (by rw[zW ok];exact le_refl _),zW ok]
 rfl
def zm4 (B:Nat) (t:TxD) (w2:World) (s:Value) (wc:World):Prop:=
 ∃(qd:Nat) (ia:Option Addr) (ic:Nat) (oa:Option Addr) (oc:Nat) (css:List (List Value)),s=.pointer (some ⟨qd,0,none⟩)∧B≤qd∧Fr No w2 wc∧
  wc.heap[qd]? =some (.cells #[.int .u32 t.ver,.slice ia t.ins.length ic,.slice oa t.outs.length oc] 27 (0,0))∧
  css.length=t.ins.length∧(∀(i:Nat) (d:InD) (cs:List Value),t.ins[i]? =some d→css[i]? =some cs→Kept (λj=>B≤j) wc (λw=>InQ w d cs))∧(∀cs∈css,cs.length=34)∧
  wc.ownsRow B 112 34 (.slice ia t.ins.length ic) t.ins.length (css.flatMap id)∧wc.ownsRow B 58 33 (.slice oa t.outs.length oc) t.outs.length (t.outs.flatMap zF)∧
  (∀j,(Value.slice ia t.ins.length ic).ownBlock=some j→j≠qd∧(Value.slice oa t.outs.length oc).ownBlock≠some j)
theorem zfZ (t:Int) (a b:Option Addr) (n c m d:Nat) (w:World):(Instr.build 27 #[(0,.int .u32 t),(1,.slice a n c),(2,.slice b m d)]).run prog w=.ok (.agg [.int .u32 t,.slice a n c,.slice b m d].toArray) w:=by kernel_rfl
def zm5 (w:World) (t:TxD) (e:Ending) (w':World):Prop:=∃cs,e=.returned (.agg cs.toArray)∧Fr No w w'∧∀V:Nat→Prop,(∀j,V j→j<w.heap.size)→Kept V w' (λw=>TxQ w t cs)
structure zmc (B qd:Nat) (ia:Option Addr) (ic:Nat) (t:TxD) (wz wr:World) (n:Nat) (css:List (List Value)):Prop where
 len:css.length=t.ins.length
 c34:∀cs∈css,cs.length=34
 row:wr.ownsRow B 112 34 (.slice ia t.ins.length ic) t.ins.length (css.flatMap id)
 new:∀(i:Nat) (d:InD) (cs:List Value),i<n→t.ins[i]? =some d→css[i]? =some cs→Kept (λj=>j<B∨(Value.slice ia t.ins.length ic).ownBlock=some j) wr (λw=>InQ w d cs)
 old:∀(i:Nat) (d:InD) (cs:List Value),n≤i→t.ins[i]? =some d→css[i]? =some cs→Kept (λj=>B≤j) wr (λw=>InQ w d cs)
 fr:Fr (λj=>(Value.slice ia t.ins.length ic).ownBlock=some j) wz wr
theorem zaT (w:World) {t:TxD} (ht:TxQ w t cs) (hI:t.ins.length≤1000∧t.outs.length≤1000∧∀x∈t.ins,x.key.length≤1000):
  Calls prog 50 #[.agg cs.toArray] w (zm5 w t):=by
 obtain⟨ia,ic,oa,oc,rfl,hv,hi,ho⟩:=ht
 have zT:=JZ
 have f1:Fr No w (w.alloc (.cells #[.int .u32 t.ver,.slice ia t.ins.length ic,.slice oa t.outs.length oc] 27)):=(frN w).alloc _
 have Y:Fr No (w.alloc (.cells #[.int .u32 t.ver,.slice ia t.ins.length ic,.slice oa t.outs.length oc] 27)) _:=(frN _).alloc (.cells (txC 0 (.slice none 0 0) (.slice none 0 0)).toArray 27)
 obtain⟨c0,c1,c2,-⟩:=qI w t.ver (.slice ia t.ins.length ic) (.slice oa t.outs.length oc)
 have F2:=Hd (f1.trans0 Y)
 have FD:=Hd (F2.o.drew)
 have Q:=Hd ((Y.drew).cell c0 _root_.id)
 have R:=Hd ((Y.drew).cell c1 _root_.id)
 have S:=Hd ((Y.drew).cell c2 _root_.id)
 have B2:=Hd (yU (w.alloc (.cells #[.int .u32 t.ver,.slice ia t.ins.length ic,.slice oa t.outs.length oc] 27)) (.cells (txC 0 (.slice none 0 0) (.slice none 0 0)).toArray 27) (n:=w.heap.size+1) (by simp))
 have HO:=Hd (ho.keep FD.o)
 have HK:=Hd ((zie hi (V:=λj=>w.heap.size+2≤j) (λj c=>by omega)).step FD.o.of0 (λ_ _ h=>h))
 have Z2:=@Hd (((w.alloc (.cells #[.int .u32 t.ver,.slice ia t.ins.length ic,.slice oa t.outs.length oc] 27)).alloc (.cells (txC 0 (.slice none 0 0) (.slice none 0 0)).toArray 27)).heap.size=w.heap.size+2) (by simp)
 have HV:=Hd hv
 have HI:=Hd hI
 clear c0 c1 c2 f1 Y ho hv hi hI
 show Calls prog 50 #[.agg #[.int .u32 t.ver,.slice ia t.ins.length ic,.slice oa t.outs.length oc]] w _
 go_enter Tryz.func50,Tryz.ntmps50
 go_wp2_with fail
 generalize (w.alloc (.cells #[.int .u32 t.ver,.slice ia t.ins.length ic,.slice oa t.outs.length oc] 27)).alloc (.cells (txC 0 (.slice none 0 0) (.slice none 0 0)).toArray 27)=w2 at*
 go_cut [3] from 5 to 14 (λs3 wc=>zm4 (w.heap.size+2) t w2 s3 wc)
 case first=>
  refine JM 11 [0,1,2,3,4,5,6,7,8,9,10] (λw'=>w'.cell? ⟨w.heap.size,0,none⟩=some (.int .u32 t.ver)∧w'.cell? ⟨w.heap.size,1,none⟩=some (.slice ia t.ins.length ic)∧w'.cell? ⟨w.heap.size,2,none⟩=some (.slice oa t.outs.length oc)) (by kernel_rfl) (by kernel_rfl) (by kernel_rfl) (by kernel_rfl) ?_ (λK hK=>?_)
  ·exact⟨Q.o,R.o,S.o⟩
  have X:=@Hd (w2.drew.heap.size=w.heap.size+2) (Z2.o)
  have FW:=@Hd (Fr No w2 w2.drew) ((frN w2).drew)
  generalize w2.drew=w3 at*
  (((first|(refine yX 0 (by kernel_rfl) rfl rfl ?_;apply Exists.intro;refine⟨?_,?_⟩;(focus(first|(intro w' hS;obtain⟨s1,s2,s3⟩:=hS;exact goS))))|(refine yY 0 (by kernel_rfl) rfl rfl ?_));try simp only[Act.put,pA,pB,pC]);((first|(refine yX 1 (by kernel_rfl) rfl rfl ?_;apply Exists.intro;refine⟨?_,?_⟩;(focus(first|(intro w' hS;obtain⟨s1,s2,s3⟩:=hS;exact goS))))|(refine yY 1 (by kernel_rfl) rfl rfl ?_));try simp only[Act.put,pA,pB,pC]);((first|(refine yX 2 (by kernel_rfl) rfl rfl ?_;apply Exists.intro;refine⟨?_,?_⟩;(focus(first|(intro w' hS;obtain⟨s1,s2,s3⟩:=hS;exact goS))))|(refine yY 2 (by kernel_rfl) rfl rfl ?_));try simp only[Act.put,pA,pB,pC]);((first|(refine yX 3 (by kernel_rfl) rfl rfl ?_;apply Exists.intro;refine⟨?_,?_⟩;(focus(first|(intro w' hS;obtain⟨s1,s2,s3⟩:=hS;exact goS))))|(refine yY 3 (by kernel_rfl) rfl rfl ?_));try simp only[Act.put,pA,pB,pC]);((first|(refine yX 5 (by kernel_rfl) rfl rfl ?_;apply Exists.intro;refine⟨?_,?_⟩;(focus(first|(intro w' hS;obtain⟨s1,s2,s3⟩:=hS;exact goS))))|(refine yY 5 (by kernel_rfl) rfl rfl ?_));try simp only[Act.put,pA,pB,pC]);((first|(refine yX 6 (by kernel_rfl) rfl rfl ?_;apply Exists.intro;refine⟨?_,?_⟩;(focus(first|(intro w' hS;obtain⟨s1,s2,s3⟩:=hS;exact goS))))|(refine yY 6 (by kernel_rfl) rfl rfl ?_));try simp only[Act.put,pA,pB,pC]))
  refine XJ 4 9 (by kernel_rfl) rfl rfl rfl rfl (λK' hK'=>?_) (λK' hK'=>?_)
  ·skip
   go_simp
   refine(VH w3 (HK.o.step (frN w3).of0 (λ_ _ h=>h)) (by have:=HI.o.1;omega)).mono ?_
   rintro e H ⟨aM,css,rfl,F,aa,Z,z,f4⟩
   obtain⟨m,o,ak⟩:=z.slice.arg.form
   subst ak
   have u:=Hd f4
   have CL:=Hd F
   have KP:=Hd aa
   have af:=Hd Z
   have W:=Hd z
   clear F aa Z z f4
   refine nXt hK' ?_ λhS=>?_
   ·exact⟨u.o.cell Q.o _root_.id,u.o.cell R.o _root_.id,u.o.cell S.o _root_.id⟩
   try simp only[Act.put,pA,pB,pC]
   refine XJ 7 9 (by kernel_rfl) rfl rfl rfl rfl (λK' hK'=>?_) (λK' hK'=>?_)
   ·skip
    go_simp
    refine(Yg H (HO.o.keep u.o) (by have:=HI.o.2.1;omega)).mono ?_
    rintro e w5 ⟨aC,rfl,p,f5⟩
    obtain⟨k,l,ab⟩:=p.slice.arg.form
    subst ab
    have I:=Hd f5
    have T:=Hd p
    clear p f5
    have a:=Hd (u.o.trans0 I.o)
    refine nXt hK' ?_ λhS=>?_
    ·exact⟨a.o.cell Q.o _root_.id,a.o.cell R.o _root_.id,a.o.cell S.o _root_.id⟩
    try simp only[Act.put,pA,pB,pC]
    (((first|(refine yX 8 (by kernel_rfl) rfl rfl ?_;apply Exists.intro;refine⟨?_,?_⟩;(focus(first|exact λw' _=>yv (t:=27) rfl rfl (zfZ t.ver m k t.ins.length o t.outs.length l w')|(intro w' hS;obtain⟨s1,s2,s3⟩:=hS;exact goS))))|(refine yY 8 (by kernel_rfl) rfl rfl ?_));try simp only[Act.put,pA,pB,pC]))
    refine xW 9 (by kernel_rfl) rfl rfl (λK' hK'=>?_)
    refine yD (xH rfl (JZ _)) ?_
    have F6:=Hd ((frN w5).alloc (.cells (txC 0 (.slice none 0 0) (.slice none 0 0)).toArray 27))
    refine nXt hK' ?_ λhS=>?_
    ·exact⟨F6.o.cell (a.o.cell Q.o _root_.id) _root_.id,F6.o.cell (a.o.cell R.o _root_.id) _root_.id,F6.o.cell (a.o.cell S.o _root_.id) _root_.id⟩
    try simp only[Act.put,pA,pB,pC]
    refine xW 10 (by kernel_rfl) rfl rfl (λK' hK'=>?_)
    refine xp (zj (w:=w5) (ty:=27) (cs:=[.int .u32 t.ver,.slice m t.ins.length o,.slice k t.outs.length l]) rfl rfl rfl rfl xt (jC rfl rfl rfl)) ?_
    have E:=Hd ((frN w5).alloc (.cells ([.int .u32 t.ver,.slice m t.ins.length o,.slice k t.outs.length l]).toArray 27))
    refine nXt hK' ?_ λhS=>?_
    ·exact⟨E.o.cell (a.o.cell Q.o _root_.id) _root_.id,E.o.cell (a.o.cell R.o _root_.id) _root_.id,E.o.cell (a.o.cell S.o _root_.id) _root_.id⟩
    try simp only[Act.put,pA,pB,pC]
    refine JH (hK.out _ _ ?_)
    go_wp2_with fail
    go_meet
    case rel=>exact⟨w5.heap.size,m,o,k,l,css,rfl,by have:=a.o.size;have:=X.o;omega,FW.o.trans0 (a.o.trans0 E.o),ye w5 (.cells ([.int .u32 t.ver,.slice m t.ins.length o,.slice k t.outs.length l]).toArray 27),CL.o,λi d cs D y=>(KP.o i d cs D y).step (I.o.trans0 E.o).of0 (λ_ _ h=>h),af.o,yu (zb (zb W.o I.o (λ_ _=>_root_.id)) E.o (λ_ _=>_root_.id)) (by have:=X.o;omega),yu (zb T.o E.o (λ_ _=>_root_.id)) (by have:=u.o.size;have:=X.o;omega),λj c=>⟨by have:=(W.o.lt j c).2;have:=I.o.size;omega,λe=>by have:=(W.o.lt j c).2;have:=(T.o.lt j e).1;omega⟩⟩
   ·refine yD (xH rfl (JZ _)) ?_
    have FA:=Hd ((frN H).alloc (.cells (txC 0 (.slice none 0 0) (.slice none 0 0)).toArray 27))
    have BA:=Hd (ye H (.cells (txC 0 (.slice none 0 0) (.slice none 0 0)).toArray 27))
    have ZA:=@Hd ((H.alloc (.cells (txC 0 (.slice none 0 0) (.slice none 0 0)).toArray 27)).heap.size=H.heap.size+1) (by simp)
    generalize H.alloc (.cells (txC 0 (.slice none 0 0) (.slice none 0 0)).toArray 27)=wa at*
    generalize an:H.heap.size=G at*
    have s:=Hd (u.o.trans0 FA.o)
    refine nXt hK' ?_ λhS=>?_
    ·exact⟨s.o.cell Q.o _root_.id,s.o.cell R.o _root_.id,s.o.cell S.o _root_.id⟩
    try simp only[Act.put,pA,pB,pC]
    refine xW 7 (by kernel_rfl) rfl rfl (λK' hK'=>?_)
    go_simp
    refine(Yg wa (HO.o.keep s.o) (by have:=HI.o.2.1;omega)).mono ?_
    rintro e w5 ⟨aC,rfl,p,f5⟩
    obtain⟨k,l,ab⟩:=p.slice.arg.form
    subst ab
    have I:=Hd f5
    have T:=Hd p
    clear p f5
    have a:=Hd (s.o.trans0 I.o)
    have B5:=Hd (I.o.obj BA.o _root_.id)
    refine nXt hK' ?_ λhS=>?_
    ·exact⟨a.o.cell Q.o _root_.id,a.o.cell R.o _root_.id,a.o.cell S.o _root_.id⟩
    try simp only[Act.put,pA,pB,pC]
    (((first|(refine yX 8 (by kernel_rfl) rfl rfl ?_;apply Exists.intro;refine⟨?_,?_⟩;(focus(first|exact λw' _=>yv (t:=27) rfl rfl (zfZ t.ver m k t.ins.length o t.outs.length l w')|(intro w' hS;obtain⟨s1,s2,s3⟩:=hS;exact goS))))|(refine yY 8 (by kernel_rfl) rfl rfl ?_));try simp only[Act.put,pA,pB,pC]))
    refine xW 10 (by kernel_rfl) rfl rfl (λK' hK'=>?_)
    refine xp (zU (ty:=27) (b:=G) (off:=0) (cs:=[.int .u32 t.ver,.slice m t.ins.length o,.slice k t.outs.length l]) rfl rfl rfl (yb B5.o (le_refl 3)) xt (jC rfl rfl rfl)) ?_
    have E:=Hd (zy G ([.int .u32 t.ver,.slice m t.ins.length o,.slice k t.outs.length l]) 0 w5)
    have HQ:=@Hd (w3.heap.size≤G) (by have:=u.o.size;omega)
    have C:=@Hd (Fr No w3 _) (a.o.trans E.o (λi hi e=>by have:=HQ.o;omega))
    refine nXt hK' ?_ λhS=>?_
    ·exact⟨C.o.cell Q.o _root_.id,C.o.cell R.o _root_.id,C.o.cell S.o _root_.id⟩
    try simp only[Act.put,pA,pB,pC]
    refine JH (hK.out _ _ ?_)
    go_wp2_with fail
    go_meet
    case rel=>exact⟨G,m,o,k,l,css,rfl,by have:=HQ.o;have:=X.o;omega,FW.o.trans0 C.o,zcQ (cs:=[.int .u32 t.ver,.slice m t.ins.length o,.slice k t.outs.length l]) B5.o rfl,CL.o,λi d cs D y=>((KP.o i d cs D y).step (FA.o.trans0 I.o).of0 (λ_ _ h=>h)).step (E.o.mono (λj e=>by have:=HQ.o;have:=X.o;omega)) (λ_ _ h=>h),af.o,yu (zb (zb W.o (FA.o.trans0 I.o) (λ_ _=>_root_.id)) E.o (λj c e=>by have:=(W.o.lt j c).2;omega)) (by have:=X.o;omega),yu (zb T.o E.o (λj c e=>by have:=(T.o.lt j c).1;have:=ZA.o;omega)) (by have:=HQ.o;have:=X.o;have:=ZA.o;omega),λj c=>⟨by have:=(W.o.lt j c).2;omega,λe=>by have:=(W.o.lt j c).2;have:=(T.o.lt j e).1;have:=ZA.o;omega⟩⟩
  ·refine yD (xH rfl (JZ _)) ?_
   have FA:=Hd ((frN w3).alloc (.cells (txC 0 (.slice none 0 0) (.slice none 0 0)).toArray 27))
   have BA:=Hd (ye w3 (.cells (txC 0 (.slice none 0 0) (.slice none 0 0)).toArray 27))
   have ZA:=@Hd ((w3.alloc (.cells (txC 0 (.slice none 0 0) (.slice none 0 0)).toArray 27)).heap.size=w3.heap.size+1) (by simp)
   generalize w3.alloc (.cells (txC 0 (.slice none 0 0) (.slice none 0 0)).toArray 27)=wa at*
   generalize an:w3.heap.size=G at*
   refine nXt hK' ?_ λhS=>?_
   ·exact⟨FA.o.cell Q.o _root_.id,FA.o.cell R.o _root_.id,FA.o.cell S.o _root_.id⟩
   try simp only[Act.put,pA,pB,pC]
   refine xW 4 (by kernel_rfl) rfl rfl (λK' hK'=>?_)
   go_simp
   refine(VH wa (HK.o.step (FA.o).of0 (λ_ _ h=>h)) (by have:=HI.o.1;omega)).mono ?_
   rintro e H ⟨aM,css,rfl,F,aa,Z,z,f4⟩
   obtain⟨m,o,ak⟩:=z.slice.arg.form
   subst ak
   have u:=Hd f4
   have CL:=Hd F
   have KP:=Hd aa
   have af:=Hd Z
   have W:=Hd z
   clear F aa Z z f4
   have s:=Hd (FA.o.trans0 u.o)
   refine nXt hK' ?_ λhS=>?_
   ·exact⟨s.o.cell Q.o _root_.id,s.o.cell R.o _root_.id,s.o.cell S.o _root_.id⟩
   try simp only[Act.put,pA,pB,pC]
   refine xW 7 (by kernel_rfl) rfl rfl (λK' hK'=>?_)
   go_simp
   refine(Yg H (HO.o.keep s.o) (by have:=HI.o.2.1;omega)).mono ?_
   rintro e w5 ⟨aC,rfl,p,f5⟩
   obtain⟨k,l,ab⟩:=p.slice.arg.form
   subst ab
   have I:=Hd f5
   have T:=Hd p
   clear p f5
   have a:=Hd (s.o.trans0 I.o)
   have B5:=Hd (I.o.obj (u.o.obj BA.o _root_.id) _root_.id)
   refine nXt hK' ?_ λhS=>?_
   ·exact⟨a.o.cell Q.o _root_.id,a.o.cell R.o _root_.id,a.o.cell S.o _root_.id⟩
   try simp only[Act.put,pA,pB,pC]
   (((first|(refine yX 8 (by kernel_rfl) rfl rfl ?_;apply Exists.intro;refine⟨?_,?_⟩;(focus(first|exact λw' _=>yv (t:=27) rfl rfl (zfZ t.ver m k t.ins.length o t.outs.length l w')|(intro w' hS;obtain⟨s1,s2,s3⟩:=hS;exact goS))))|(refine yY 8 (by kernel_rfl) rfl rfl ?_));try simp only[Act.put,pA,pB,pC]))
   refine xW 10 (by kernel_rfl) rfl rfl (λK' hK'=>?_)
   refine xp (zU (ty:=27) (b:=G) (off:=0) (cs:=[.int .u32 t.ver,.slice m t.ins.length o,.slice k t.outs.length l]) rfl rfl rfl (yb B5.o (le_refl 3)) xt (jC rfl rfl rfl)) ?_
   have E:=Hd (zy G ([.int .u32 t.ver,.slice m t.ins.length o,.slice k t.outs.length l]) 0 w5)
   have C:=@Hd (Fr No w3 _) (a.o.trans E.o (λi hi e=>by omega))
   refine nXt hK' ?_ λhS=>?_
   ·exact⟨C.o.cell Q.o _root_.id,C.o.cell R.o _root_.id,C.o.cell S.o _root_.id⟩
   try simp only[Act.put,pA,pB,pC]
   refine JH (hK.out _ _ ?_)
   go_wp2_with fail
   go_meet
   case rel=>exact⟨G,m,o,k,l,css,rfl,by have:=X.o;omega,FW.o.trans0 C.o,zcQ (cs:=[.int .u32 t.ver,.slice m t.ins.length o,.slice k t.outs.length l]) B5.o rfl,CL.o,λi d cs D y=>((KP.o i d cs D y).step I.o.of0 (λ_ _ h=>h)).step (E.o.mono (λj e=>by have:=X.o;omega)) (λ_ _ h=>h),af.o,yu (zb (zb W.o I.o (λ_ _=>_root_.id)) E.o (λj c e=>by have:=(W.o.lt j c).1;have:=ZA.o;omega)) (by have:=X.o;have:=ZA.o;omega),yu (zb T.o E.o (λj c e=>by have:=(T.o.lt j c).1;have:=u.o.size;have:=ZA.o;omega)) (by have:=X.o;have:=ZA.o;have:=u.o.size;omega),λj c=>⟨by have:=(W.o.lt j c).1;have:=ZA.o;omega,λe=>by have:=(W.o.lt j c).2;have:=(T.o.lt j e).1;omega⟩⟩
 case rest=>
  rename World=>wz
  obtain⟨G,A,q,N,O,css,rfl,an,fc,bq,F,ax,ah,z,p,av⟩:=hcut
  have FC:=Hd fc
  have T:=Hd p
  have AP:=Hd av
  have aD:=Hd (fc.obj B2.o _root_.id)
  have c1:wz.cell? ⟨G,1,none⟩=some (.slice A t.ins.length q):=by have:=zv bq 1 _ rfl;simpa using this
  have L8:=Hd HI.o.1
  have BQ:=Hd bq
  have HR:=@Hd (∃css,zmc (w.heap.size+2) G A q t wz wz 0 css) (⟨css,F,ah,z,λi d cs h D y=>absurd h (Nat.not_lt_zero i),λi d cs h D y=>ax i d cs D y,Fr.refl _ _⟩)
  clear an fc bq F ax ah z p av
  have iz:=HI.o.1
  go_wp2_with fail
  clear c1
  go_loopw [17] (λiv wr=>∃n:Nat,iv=.int .i64 n∧n≤t.ins.length∧∃css,zmc (w.heap.size+2) G A q t wz wr n css) (λiv _=>t.ins.length-(intOf iv).toNat)
  case atStart=>exact⟨0,rfl,zero_le _,HR.o⟩
  case round=>
   obtain⟨n,rfl,hn,css,aB⟩:=hrel
   have B:=Hd aB
   clear aB
   by_cases az:n<t.ins.length
   ·have i1:(n:Int)<(t.ins.length:Int):=by omega
    obtain⟨x,hx⟩:∃x,t.ins[n]? =some x:=⟨_,List.getElem?_eq_getElem az⟩
    have HX:=Hd hx
    obtain⟨cs,hcs⟩:∃cs,css[n]? =some cs:=⟨_,List.getElem?_eq_getElem (by rw[B.o.len];exact az)⟩
    obtain⟨ka,kc,aw,ad,ai⟩:=(B.o.old n x cs (le_refl _) hx hcs).now
    have au:=Hd ai
    have ar:=@Hd (css[n]? =some (inC x.from_ (.slice ka x.key.length kc))) (by rw[hcs,aw])
    have aj:=Hd ad
    obtain⟨g,cap,aJ,ay,aK⟩:=yZ (f:=id) (by decide) B.o.c34 B.o.row ar.o
    cases aJ
    have GL:=Hd ((B.o.row.lt g rfl))
    have FZ:=Hd B.o.fr
    have AG:=Hd (AP.o g rfl)
    have NQ:=@Hd (G≠g) (λe=>AG.o.1 e.symm)
    have aq:=@Hd (wr.cell? ⟨G,1,none⟩=some (.slice (some ⟨g,0,none⟩) t.ins.length q)) (by
     have:=zv (FZ.o.obj BQ.o (λe=>by cases e;exact NQ.o rfl)) 1 _ rfl
     simpa using this)
    have CK:=@Hd (wr.cell? ⟨g,n*34+33,none⟩=some (.slice ka x.key.length kc)) ((zhe ay ad).2)
    have aH:=Hd (HI.o.2.2 x (mem_of_getElem? hx))
    have i2:(n:Int)<(t.ins.length:Int):=i1
    clear hx hcs aw ad ai ay aK
    go_wp2_with fail
    have ae:=Hd ((frN wr).drew)
    refine yw [ff,ff,ff,ff,ff,ff,ff,ff,ff,tt,ff,ff,tt] (λw'=>w'.cell? ⟨G,1,none⟩=some (.slice (some ⟨g,0,none⟩) t.ins.length q)∧w'.cell? ⟨g,n*34+33,none⟩=some (.slice ka x.key.length kc)) (by kernel_rfl) (by kernel_rfl) 12 (by kernel_rfl) (by kernel_rfl) ?_ (λK hK=>?_)
    ·exact⟨ae.o.cell aq.o _root_.id,ae.o.cell CK.o _root_.id⟩
    repeat((first|(refine yk rfl ?_;constructor;constructor;(focus(first|(rintro w' ⟨s1,s2⟩;exact goS))))|(refine yl rfl ?_));try simp only[Act.put,pA,pB,pC])
    (refine yf rfl (λK' hK'=>?_))
    go_simp
    refine(zdV wr.drew (au.o.keep ae.o) (by have:=aH.o;omega)).mono ?_
    rintro e H ⟨kv,rfl,al,f4⟩
    obtain⟨L,M,aL⟩:=al.slice.arg.form
    subst aL
    have u:=Hd (ae.o.trans0 f4)
    have KO:=Hd al
    clear al f4
    refine hK'.out _ _ (λ_=>?_) (λhS=>?_)
    ·exact⟨u.o.cell aq.o _root_.id,u.o.cell CK.o _root_.id⟩
    try simp only[Act.put,pA,pB,pC]
    repeat((first|(refine yk rfl ?_;constructor;constructor;(focus(first|(rintro w' ⟨s1,s2⟩;exact goS))))|(refine yl rfl ?_));try simp only[Act.put,pA,pB,pC])
    have ag:=Hd (zb B.o.row u.o (λ_ _=>_root_.id))
    have fz:H.frozen? ⟨g,n*34+33,none⟩=false:=ag.o.frozenAt _
    have cz:=u.o.cell CK.o _root_.id
    have NK:=@Hd (n*34+33+1≤t.ins.length*34) (by omega)
    have fs:Fr (λj=>j=g) H (H.setCell ⟨g,n*34+33,none⟩ (.slice L x.key.length M)):=(Fr.refl (λj=>j=g) H).setCell _ (.inr rfl) _
    have FS:=Hd fs
    have aI:=@Hd (zmc (w.heap.size+2) G (some ⟨g,0,none⟩) q t wz (H.setCell ⟨g,n*34+33,none⟩ (.slice L x.key.length M)) (n+1) (css.set n (inC x.from_ (.slice L x.key.length M)))) (by
     refine⟨by rw[List.length_set];exact B.o.len,λcs hc=>?_,?_,λi d cs hi D y=>?_,λi d cs hi D y=>?_,?_⟩
     ·rcases List.mem_or_eq_of_mem_set hc with hc|rfl
      ·exact B.o.c34 cs hc
      ·exact jf aj.o _
     ·have D:=vP ag.o (n*34+33) (cs:=[.slice L x.key.length M]) (by have:=NK.o;simpa using this)
      have y:=VS (r:=33) (v:=.slice L x.key.length M) (by decide) B.o.c34 ar.o
      rw[zk1 aj.o] at y
      rw[←y]
      exact D
     ·by_cases hin:i=n
      ·subst hin
       rw[HX.o] at D
       cases D
       rw[List.getElem?_set_self (by have:=B.o.len;omega)] at y
       cases y
       have hk:=ze1 KO.o au.o.1 (V:=λj=>j<w.heap.size+2∨(Value.slice (some ⟨g,0,none⟩) t.ins.length q).ownBlock=some j) (λj c=>by
        have h3:=FZ.o.size
        have h4:=FC.o.size
        have h5:=Z2.o
        have h6:=GL.o.2
        show j<wr.heap.size
        rcases c with c|c
        ·omega
        ·simp[Value.ownBlock] at c;omega)
       exact(hk.step (FS.o.mono (λj e=>.inr (by rw[e];rfl))) (λ_ _ h=>h)).imp (λw' _ h=>⟨L,M,rfl,aj.o,h⟩)
      ·rw[List.getElem?_set_ne (by omega)] at y
       exact((B.o.new i d cs (by omega) D y).step u.o.of0 (λ_ _ h=>h)).step (FS.o.mono (λj e=>.inr (by rw[e];rfl))) (λ_ _ h=>h)
     ·rw[List.getElem?_set_ne (by omega)] at y
      exact((B.o.old i d cs (by omega) D y).step u.o.of0 (λ_ _ h=>h)).step (FS.o.mono (λj e=>by rw[e];exact GL.o.1)) (λ_ _ h=>h)
     ·exact(FZ.o.trans0 u.o).trans FS.o (λj _ e=>by rw[e];rfl))
    clear fs
    (refine yf rfl (λK' hK'=>?_))
    go_simp
    refine hK'.out _ _ (λh=>absurd rfl h) (λhS=>?_)
    refine xV (hK.out _ _ ?_)
    go_wp2_with fail
    go_roundw
    case rel=>exact⟨n+1,by go_num,by omega,_,aI.o⟩
    case measure=>simp[intOf];omega
   ·have aA:n=t.ins.length:=by omega
    have i1:¬(n:Int)<(t.ins.length:Int):=by omega
    have aF:=Hd aA
    have FZ:=Hd B.o.fr
    have aE:=Hd (FZ.o.obj BQ.o (λe=>(AP.o G e).1 rfl))
    have RU:=Hd (zv aE.o)
    have ao:=Hd (FZ.o.obj aD.o (λe=>by have:=(B.o.row.lt _ e).1;omega))
    have aG:=@Hd (∀V:Nat→Prop,(∀j,V j→j<w.heap.size+2)→Kept V wr (λw=>TxQ w t [.int .u32 t.ver,.slice A t.ins.length q,.slice N t.outs.length O])) (λV hV w' f=>by
     have k1:vl (w.heap.size+2) 112 34 InQ (λj=>j<w.heap.size+2) wr (.slice A t.ins.length q) t.ins css:=⟨B.o.row,B.o.len,B.o.c34,λi d cs D y=>B.o.new i d cs (by rw[aF.o];exact(List.getElem?_eq_some_iff.1 D).1) D y⟩
     have k2:=k1.rows (U:=V) (by decide) (by unfold maxLen;have:=L8.o;omega) (λj _ e=>hV j e) (λj c e=>by have:=(k1.lt j c).1;have:=hV j e;omega) w' f
     have k3:=zaO (V:=V) (zb T.o FZ.o (λj c e=>(AP.o j e).2 c)) HO.o.1 hV w' f
     exact⟨A,q,N,O,rfl,HV.o,k2,k3⟩)
    clear aA
    have⟨K0,K1⟩:=tZ2
    go_wp2_with ((first|((with_reducible refine zt ?_);clear K0;refine znT rfl rfl rfl RU.o rfl ?_)|((with_reducible refine zr ?_);clear K1;refine zi rfl (zU (ty:=27) (b:=w.heap.size+1) (off:=0) (cs:=[.int .u32 t.ver,.slice A t.ins.length q,.slice N t.outs.length O]) rfl rfl rfl (yb ao.o (le_refl 3)) xt (jC rfl rfl rfl)) ?_));go_frame)
    have BE:=zcQ (cs:=[.int .u32 t.ver,.slice A t.ins.length q,.slice N t.outs.length O]) ao.o rfl
    have fE:=zy (w.heap.size+1) [.int .u32 t.ver,.slice A t.ins.length q,.slice N t.outs.length O] 0 wr
    refine bodyPost_ret (v:=.agg [.int .u32 t.ver,.slice A t.ins.length q,.slice N t.outs.length O].toArray) (results_cell_row (P:=prog) (fn:=Tryz.f50) rfl _ _ (w.heap.size+1) 27 _ (0,0) _ rfl BE Tryz.underlying27 rfl xt) rfl ⟨_,rfl,?_,λV hV w' f=>aG.o (λj=>V j∨j=w.heap.size+1) (λj c=>by rcases c with c|c;have:=hV j c;omega;omega) w' ((fE.mono (λj c=>.inr c)).trans (f.mono (λj c=>.inl c)) (λ_ _ h=>h))⟩
    exact(((F2.o.trans0 FC.o).trans FZ.o (λj c e=>by have:=(B.o.row.lt _ e).1;omega))).trans fE (λi hi e=>by omega)
theorem zeu:prog.underlying 131=some (.slice 118):=by kernel_rfl
theorem ze0:(prog.info? 118).map (λi=>(i.zero,i.size,i.bytes))=some (some (.agg #[.int .u64 0,.int .i64 0]),2,16):=by kernel_rfl
theorem zic:(prog.info? 118).map (λi=>(i.zero,i.size))=some (some (.agg #[.int .u64 0,.int .i64 0]),2):=by kernel_rfl
def vL (L:List zL) (U:List zf) (n:Nat):List zL:=(L.take n).filter λe=>decide (e.id∉U)
theorem zf1 {L:List zL} {U:List zf} {n:Nat} {e:zL} (h:L[n]? =some e):vL L U (n+1)=if e.id∈U then vL L U n else vL L U n++[e]:=by
 unfold vL
 rw[List.take_add_one,h,Option.toList_some,List.filter_append]
 by_cases hu:e.id∈U
 ·simp[hu]
 ·simp[hu]
theorem zhO (L:List zL) (U:List zf) (n:Nat):(vL L U n).length≤L.length:=by
 unfold vL
 have a:=List.length_filter_le (λe=>decide (zL.id e∉U)) (L.take n)
 have b:(L.take n).length≤L.length:=by rw[List.length_take];omega
 omega
section
variable {w0 w:World} {p ma ms g N:Nat} {VG X:Nat→Prop} {C:zf→List Value} {L:List zL}
theorem yn.mapLen (h:yn w0 w p ma ms g VG X C L N) {M:List (zf×List Value)} (l:xR w ma M) (i:∀x cs,(x,cs)∈M↔∃e∈L,e.id=x∧cs=C x):M.length=L.length:=by
 have j:=l.nodup
 have k:=h.nd
 have f:∀x,x∈M.map (·.1)↔x∈zR L:=λx=>by
  constructor
  ·intro a
   obtain⟨y,m,rfl⟩:=mem_map.1 a
   obtain⟨e,d,hi,_⟩:=(i y.1 y.2).1 m
   rw[←hi]
   exact mem_map.2 ⟨e,d,rfl⟩
  ·intro a
   obtain⟨e,d,rfl⟩:=mem_map.1 a
   exact mem_map.2 ⟨(e.id,C e.id),(i _ _).2 ⟨e,d,rfl,rfl⟩,rfl⟩
 have b:=xB j (λx a=>(f x).1 a)
 have c:=xB k (λx a=>(f x).2 a)
 rw[length_map] at b c
 unfold zR at b c
 rw[length_map] at b c
 omega
def zaz (w0 w:World) (p ma ms g:Nat) (VG X:Nat→Prop) (C:zf→List Value) (L:List zL) (N:Nat) (x:Int×Int) (ps:List zf) (e:Ending) (w':World):Prop:=
 ∃gv,e=.returned (.tuple #[gv,.int .i64 (Jz L x ps)])∧∃VG',yn w0 w' p ma ms g VG' X C (xb L (vn L x ps)) N∧Fr (poV p ma ms VG) w w'∧(∀j,VG' j→VG j)∧
  w'.ownsRow w.heap.size 45 32 gv (vn L x ps).length ((vn L x ps).flatMap zd)
theorem zaz.none {w':World} {x:Int×Int} {ps:List zf} {c:Int} (h:yn w0 w p ma ms g VG X C L N) (b:Jz L x ps=c) (a:vn L x ps=[]) (f:Fr No w w'):zaz w0 w p ma ms g VG X C L N x ps (.returned (.tuple #[.slice none 0 0,.int .i64 c])) w':=
 ⟨_,by rw[b],VG,by rw[a,Zs];exact h.fr0 f,f.of0,λ_ h=>h,by rw[a];exact World.ownsRow_nil _ _ _ _⟩
theorem zke (h:yn w0 w p ma ms g VG X C L N) (bD:N≤900) (aE:L.Pairwise λa b=>∀q∈z6 a.tx,q∉z6 b.tx) (aL:∀e∈L,e.tx.ins.length≤1000) (Z:∀e∈L,WOk (wgt e)) {x:Int×Int} (hx:WOk x) {ps:List zf} (hv:y4 w v ps) (bt:ps.length≤1000):
  Calls prog 49 #[.pointer (some ⟨p,0,none⟩),.agg (y6 x).toArray,v] w (zaz w0 w p ma ms g VG X C L N x ps):=by
 obtain⟨dW,uW,rW⟩:=Qn
 have zh:=yJ
 have m:=Hd h
 have HV:=Hd hv
 have AP:=Hd aE
 have a6:=Hd aL
 have aA:=Hd Z
 have HX:=Hd hx
 have LN:=Hd h.len
 have f1:Fr No w (w.alloc (.cells (y6 x).toArray 118)):=(frN w).alloc _
 have F1:=Hd f1
 have RW:=Hd (zq w (y6 x) 118)
 have c0:=(h.fr0 f1).cells.1
 have c2:=(h.fr0 f1).cells.2.2
 obtain⟨M,hM,hm⟩:=h.am
 have a7:=Hd (h.mapLen hM hm)
 have Y:=λty=>(hM.keep f1 id).lenRun YG ty
 rw[a7.o] at Y
 have ai:=Hd Y
 have HM:=Hd hM
 have a8:=Hd hm
 clear h hv aE aL Z hx f1 hM hm Y
 by_cases h32:L.length<32
 ·have RE:=@Hd (Jz L x ps=0∧vn L x ps=[]) (⟨by unfold Jz;rw[if_pos h32],by unfold vn;rw[if_pos h32]⟩)
  have i1:(L.length:Int)<32:=by omega
  go_enter Tryz.func49,Tryz.ntmps49
  go_wp2_with (refine zg rfl (jr rfl rfl (ai.o _)) ?_)
  go_ret2
  exact zaz.none m.o RE.o.1 RE.o.2 F1.o
 have i1:¬(L.length:Int)<32:=by omega
 have aS:=λw' (f:Fr No w w')=>zlI (m.o.gr.fr0 f) (by omega) (HV.o.keep f) bt
 have ba:=Hd aS
 have aZ:=Hd (λw' (f:Fr No w w')=>zgW (m.o.gr.fr0 f) (by omega))
 have bl:=@Hd (∀y∈upS (gOf L) ps,zV y) (λy hy=>m.o.gr.okId y ((qk ps).subset hy))
 have UL:=@Hd ((upS (gOf L) ps).length≤1000) (by have:=xB (m.o.gr.gok.nd.sublist (qk ps)) (λx hx=>(qk ps).subset hx);rw[yO] at this;unfold zR at this;rw[length_map] at this;have:=LN.o;omega)
 have CD:=@Hd (vL L (upS (gOf L) ps) L.length=Xj L ps) (by unfold vL Xj;rw[List.take_length])
 have bb:=@Hd ((ids (gOf L)).length=L.length) (by rw[yO];unfold zR;simp)
 have aj:=@Hd (∀r,Xi L ps=r→Jz L x ps=(match r with|none=>18|some e=>if Yq (wgt e) x<0 then 0 else 18)∧vn L x ps=(match r with|none=>[]|some e=>if Yq (wgt e) x<0 then y9 (gOf L) [e.id] else[])) (λr hr=>by
  unfold Jz vn
  rw[if_neg h32,if_neg h32,hr]
  exact⟨rfl,rfl⟩)
 have WP:=@Hd (Xi L ps=(Zg ((Xj L ps).map wgt) (Xj L ps).length).bind λk=>(Xj L ps)[k]?) (rfl)
 have iL:L.length≤900:=by have:=LN.o;omega
 clear aS h32
 generalize hU:upS (gOf L) ps=U at*
 go_enter Tryz.func49,Tryz.ntmps49
 have⟨H,K1,K2⟩:=tZ3
 go_wp2_with ((first|((with_reducible refine zt ?_);clear H;refine zg rfl (jr rfl rfl (ai.o _)) ?_;generalize bE:w.heap.size=qw at*;generalize bz:w.alloc (.cells (y6 x).toArray 118)=w1 at*;clear bz)|(clear K1;go_at_call 85;refine(ba.o _ F1.o).mono ?_;rintro e w2 ⟨uv,rfl,o⟩;obtain⟨ua,uc,bu⟩:=o.1.slice.arg.form;subst bu;have aW:=Hd o.2;have F2:=Hd (F1.o.trans0 o.2);have UI:=Hd (y4.own o.1 bl.o);clear o;have bB:=(m.o.fr0 F2.o).cells.2.2)|(clear K2;go_at_call 47;refine(aZ.o _ F2.o).mono ?_;rintro e w3 ⟨av,rfl,o⟩;obtain⟨aa,ac,bp⟩:=o.1.slice.arg.form;subst bp;have ay:=Hd o.2;have F3:=Hd (F2.o.trans0 o.2);have AI:=Hd (y4.own o.1 (λy hy=>m.o.gr.okId y hy));clear o;have bk:=Hd (UI.o.keep ay.o)));go_frame)
 have H3:=Hd (m.o.fr0 F3.o)
 rw[bb.o]
 go_loopw [9,10,34] (λov wv iv wr=>∃n:Nat,iv=.int .i64 n∧n≤L.length∧∃ia ic wa wc,ov=.slice ia (vL L U n).length ic∧wv=.slice wa (vL L U n).length wc∧wr.ownsRow w3.heap.size 45 32 (.slice ia (vL L U n).length ic) (vL L U n).length (((vL L U n).map (·.id)).flatMap zd)∧wr.ownsRow w3.heap.size 118 2 (.slice wa (vL L U n).length wc) (vL L U n).length (((vL L U n).map wgt).flatMap y6)∧(∀j,(Value.slice ia (vL L U n).length ic).ownBlock=some j→(Value.slice wa (vL L U n).length wc).ownBlock=some j→False)∧Fr No w3 wr) (λ_ _ iv _=>L.length-(intOf iv).toNat)
 case atStart=>exact⟨0,rfl,zero_le _,none,0,none,0,rfl,rfl,World.ownsRow_nil _ _ _ _,World.ownsRow_nil _ _ _ _,λj h _=>(by cases h),Fr.refl _ _⟩
 case round=>
  obtain⟨n,rfl,hn,ia,ic,wa,wc,rfl,rfl,aM,Z,aG,aJ⟩:=hrel
  have FR:=Hd aJ
  have D:=Hd aM
  have WO:=Hd Z
  have DS:=Hd aG
  have CL:=Hd (zhO L U n)
  clear aJ aM Z aG
  by_cases bs:n<L.length
  ·have i2:(n:Int)<(L.length:Int):=by omega
   obtain⟨e,O⟩:∃e,L[n]? =some e:=⟨_,List.getElem?_eq_getElem bs⟩
   have V:(ids (gOf L))[n]? =some e.id:=by rw[yO];unfold zR;rw[List.getElem?_map,O];rfl
   obtain⟨b,off,cap,e0,hr,-⟩:=(AI.o.keep FR.o).at_ V
   injection e0 with e1 e2 e3
   subst e1
   have G:=Hd (AI.o.1 e.id (mem_of_getElem? V))
   have Q:=Hd (zu G.o)
   have R1:=Hd hr
   have RN:=Hd (zq wr (zd e.id) 45)
   have FA:=Hd ((frN wr).alloc (.cells (zd e.id).toArray 45))
   have ad:=Hd (YS _ (bk.o.keep (FR.o.trans0 FA.o)) (by have:=UL.o;omega) e.id G.o)
   have SN:=Hd (zf1 (U:=U) O)
   have ah:=Hd (mem_of_getElem? O)
   clear hr O V e2 e3
   by_cases hu:e.id∈U
   ·have du:decide (e.id∈U)=true:=decide_eq_true hu
    rw[du] at ad
    rw[if_pos hu] at SN
    clear hu du
    have⟨H,K1,K2,K3⟩:=tZ4
    go_wp2_with ((first|((with_reducible refine zt ?_);first|(clear H;refine znV rfl rfl rfl R1.o Q.o ?_)|(clear K2;refine znV rfl rfl rfl RN.o Q.o ?_))|((with_reducible refine zr ?_);clear K1;refine zn3 (w:=wr) (cs:=zd e.id) rfl rfl rfl rfl Q.o zE ?_)|(clear K3;go_at_call 86;refine ad.o.mono ?_;rintro e' w5 ⟨rfl,F⟩;have A:=Hd (FA.o.trans0 F);clear F));go_frame)
    go_roundw
    case rel=>exact⟨n+1,by go_num,by omega,ia,ic,wa,wc,by rw[SN.o],by rw[SN.o],by rw[SN.o];exact zb D.o A.o (λ_ _=>id),by rw[SN.o];exact zb WO.o A.o (λ_ _=>id),by rw[SN.o];exact DS.o,FR.o.trans0 A.o⟩
    case measure=>simp[intOf];omega
   ·have du:decide (e.id∈U)=false:=decide_eq_false hu
    rw[du] at ad
    rw[if_neg hu] at SN
    clear hu du
    obtain⟨ta,tc,oa,oc,aF⟩:=(H3.o.data e ah.o).now.form
    have ak:Yp C L e.id=[.int .u32 e.tx.ver,.slice ta e.tx.ins.length tc,.slice oa e.tx.outs.length oc,.int .u64 e.fee,.int .i64 e.size,.int .u64 e.added]:=by
     unfold Yp
     rw[if_pos (show e.id∈zR L from mem_map.2 ⟨e,ah.o,rfl⟩),aF]
    have LK:=Hd (λw' (h':xR w' ma M)=>Jw (w:=w') G.o h' a8.o ak)
    clear aF ak
    have⟨H,K1,K2,K3,K4,K5,K6⟩:=tZ7
    go_wp2_with ((first|((with_reducible refine zt ?_);first|(clear H;refine znV rfl rfl rfl R1.o Q.o ?_)|(clear K2;refine znV rfl rfl rfl RN.o Q.o ?_)|(clear K4;refine znV rfl rfl rfl aC.o Q.o ?_)|(clear K5;refine zg rfl (zK (t:=37) rfl rfl y7 xD rfl (by decide) (by decide) Q.o) ?_)|(clear K6;at_builtin;refine zJ rfl rfl rfl rfl A1.o ?_))|((with_reducible refine zr ?_);clear K1;refine zn3 (w:=wr) (cs:=zd e.id) rfl rfl rfl rfl Q.o zE ?_;generalize aP:wr.heap.size=qx at*)|(clear K3;go_at_call 86;refine ad.o.mono ?_;rintro e' w5 ⟨rfl,F⟩;have A:=Hd (FA.o.trans0 F);have aC:=Hd (za RN.o F id);clear F;obtain⟨v6,w6,a1,a2,a3,-,a5⟩:=yA (P:=prog) w5 w3.heap.size 37 37 45 32 32 _ y7 xA rfl (by decide) (zb D.o A.o (λ_ _=>id)) (zd e.id) Q.o zE (by have:=CL.o;omega) (by have:=CL.o;unfold maxLen;omega) (by have:=FR.o.size;have:=A.o.size;omega);obtain⟨au,aw,bx⟩:=a2.slice.arg.form;subst bx;have A1:=Hd a1;have A2:=Hd a2;have A3:=Hd a3;have A5:=Hd a5;clear a1 a2 a3 a5));go_frame)
    have NI:=@Hd (∀j,(Value.slice ia (vL L U n).length ic).ownBlock=some j→w3.heap.size≤j∧j<qx) (λj s=>⟨(D.o.lt j s).1,by rw[←aP];exact(D.o.lt j s).2⟩)
    have NW:=@Hd (∀j,(Value.slice wa (vL L U n).length wc).ownBlock=some j→w3.heap.size≤j∧j<qx) (λj s=>⟨(WO.o.lt j s).1,by rw[←aP];exact(WO.o.lt j s).2⟩)
    have aX:=@Hd (Fr No w3 w6) ((FR.o.trans0 A.o).trans A3.o (λi hi e=>by have:=(NI.o i e).1;omega))
    have bh:=Hd (za aC.o A3.o (λe=>by have:=(NI.o _ e).2;omega))
    have bn:=Hd (zb (zb WO.o A.o (λ_ _=>id)) A3.o (λj s e=>DS.o j e s))
    have FD:=Hd ((frN w6).drew)
    have ab:=Hd (aX.o.trans0 FD.o)
    have u:=Hd (H3.o.fr0 ab.o)
    have ao:=Hd (za bh.o FD.o id)
    have az:=Hd (HM.o.keep (F3.o.trans0 ab.o) id)
    have bo:=Hd (zb bn.o FD.o (λ_ _=>id))
    have ax:=Hd (zb A2.o FD.o (λ_ _=>id))
    have D6:=@Hd (∀j,(Value.slice au ((vL L U n).length+1) aw).ownBlock=some j→(Value.slice wa (vL L U n).length wc).ownBlock=some j→False) (λj h1 h2=>by
     rcases A5.o j h1 with h|h
     ·exact DS.o j h h2
     ·have:=(NW.o j h2).2;have:=A.o.size;omega)
    refine wrLx [ff,ff,ff,ff,ff,ff,ff,ff,tt,tt,ff] (λw'=>w'.cell? ⟨p,0,none⟩=some (.map (some ma))∧w'.rangeAt qx 0 (zd e.id)∧xR w' ma M) ?_ (λK hK=>?_)
    ·exact⟨u.o.cells.1,ao.o,az.o⟩
    generalize w6.drew=w7 at*
    obtain⟨v8,w8,b1,b2,b3,-,b5⟩:=yA (P:=prog) w7 w3.heap.size 131 131 118 2 16 _ zeu ze0 rfl (by decide) bo.o (y6 (wgt e)) rfl Qe (by have:=CL.o;omega) (by have:=CL.o;unfold maxLen;omega) ab.o.size
    obtain⟨aT,aU,ag⟩:=b2.slice.arg.form
    subst ag
    have B1:=Hd b1
    have B2:=Hd b2
    have B3:=Hd b3
    have B5:=Hd b5
    clear b1 b2 b3 b5
    have al:=@Hd (Fr No w3 w8) (ab.o.trans B3.o (λi hi e=>by have:=(NW.o i e).1;omega))
    have bj:=Hd (za ao.o B3.o (λe=>by have:=(NW.o _ e).2;omega))
    have I8:=Hd (zb ax.o B3.o (λj s e=>D6.o j s e))
    have D8:=@Hd (∀j,(Value.slice au ((vL L U n).length+1) aw).ownBlock=some j→(Value.slice aT ((vL L U n).length+1) aU).ownBlock=some j→False) (λj h1 h2=>by
     rcases B5.o j h2 with h|h
     ·exact D6.o j h1 h
     ·have:=(ax.o.lt j h1).2;omega)
    repeat((first|(refine zk rfl ?_;constructor;constructor;(focus(first|exact zn0 rfl (λw h=>h.2.1) Q.o|exact λw' h=>zY (t:=113) rfl rfl rfl (LK.o w' h.2.2)|exact λw' _=>qX (t:=120) (f:=1) rfl rfl (zjF e.tx.ver ta oa e.tx.ins.length tc e.tx.outs.length oc e.fee e.size e.added w')|(rintro w' ⟨s1,s2,s3⟩;exact goS))))|(refine zl rfl ?_));try simp only[Act.put,pA,pB,pC])
    (refine zM rfl (λK' hK'=>?_))
    refine yD (zK (t:=131) (cs:=y6 (wgt e)) rfl rfl zeu zic rfl (by decide) (by decide) rfl) ?_
    have FB:=Hd ((frN w7).alloc (.cells (y6 (wgt e)).toArray 118))
    refine nXt hK' ?_ λhS=>?_
    ·exact⟨FB.o.cell u.o.cells.1 id,za ao.o FB.o id,az.o.keep FB.o id⟩
    try simp only[Act.put,pA,pB,pC]
    (refine zM rfl (λK' hK'=>?_))
    refine yE rfl rfl rfl B1.o ?_
    refine nXt hK' ?_ λhS=>?_
    ·exact⟨(H3.o.fr0 al.o).cells.1,bj.o,HM.o.keep (F3.o.trans0 al.o) id⟩
    try simp only[Act.put,pA,pB,pC]
    repeat((first|(refine zk rfl ?_;constructor;constructor;(focus(first|(rintro w' -;exact goS))))|(refine zl rfl ?_));try simp only[Act.put,pA,pB,pC])
    refine zN (hK.out _ _ ?_)
    have T:=@Hd ((vL L U (n+1)).length=(vL L U n).length+1) (by rw[SN.o];simp)
    go_wp2_with fail
    go_roundw
    case rel=>exact⟨n+1,by go_num,by omega,au,aw,aT,aU,by rw[T.o],by rw[T.o],by rw[T.o,SN.o,List.map_append,List.flatMap_append];simpa using I8.o,by rw[T.o,SN.o,List.map_append,List.flatMap_append];simpa using B2.o,by rw[T.o];exact D8.o,al.o⟩
    case measure=>simp[intOf];omega
  ·have aO:n=L.length:=by omega
   have i2:¬(n:Int)<(L.length:Int):=by omega
   have CE:=@Hd (vL L U n=Xj L ps) (by rw[aO];exact CD.o)
   clear aO
   rw[CE.o]
   rw[CE.o] at D WO
   generalize hK:Xj L ps=K at*
   have KM:=@Hd (∀e∈K,e∈L∧e.id∉U) (λe O=>by
    rw[←hK] at O
    unfold Xj at O
    rw[hU] at O
    simpa using O)
   have KL:=@Hd (K.length≤900) (by have:=CL.o;rw[CE.o] at this;omega)
   have WI:=@Hd (Zz wr (.slice wa K.length wc) (K.map wgt)) (⟨λy hy=>by
    obtain⟨e,O,rfl⟩:=mem_map.1 hy
    exact aA.o e (KM.o e O).1,by rw[length_map];exact WO.o.slice.arg⟩)
   have II:=@Hd (y4 wr (.slice ia K.length ic) (K.map (·.id))) (⟨λy hy=>by
    obtain⟨e,O,rfl⟩:=mem_map.1 hy
    exact m.o.ids _ (mem_map.2 ⟨e,(KM.o e O).1,rfl⟩),by rw[length_map];exact D.o.slice.arg⟩)
   have ar:=ziY wr WI.o (by rw[length_map];have:=KL.o;omega)
   rw[length_map] at ar
   have S:=Hd ar
   have af:=Hd (za RW.o ((aW.o.trans0 ay.o).trans0 FR.o) id)
   clear ar hK
   have an:=Hd (F3.o.trans0 FR.o)
   cases hw:Zg (K.map wgt) K.length with
   |none=>
    have RE:=Hd (aj.o none (by rw[WP.o,hw];rfl))
    have WN:Zf (K.map wgt) K.length= -1:=by unfold Zf;rw[hw]
    rw[WN] at S
    clear hw WN
    have H:=tru
    go_wp2_with (clear H;go_at_call 87;refine S.o.mono ?_;rintro e w5 ⟨rfl,F⟩;have A:=Hd F;clear F;go_frame)
    refine wrLx [ff,ff,ff,ff,ff,ff,ff,ff,tt,ff,ff] (λ_=>True) ?_ (λK hK=>?_)
    ·trivial
    repeat((first|(refine zk rfl ?_;constructor;constructor;(focus(first|(rintro w' -;exact goS))))|(refine zl rfl ?_));try simp only[Act.put,pA,pB,pC])
    refine zN (hK.out _ _ ?_)
    go_wp2_with fail
    go_ret2
    exact zaz.none m.o RE.o.1 RE.o.2 ((an.o.trans0 A.o).drew)
   |some k=>
    have hk:=za0 _ _ k hw
    obtain⟨d,W⟩:∃d,K[k]? =some d:=⟨_,List.getElem?_eq_getElem hk⟩
    have RE:=Hd (aj.o (some d) (by rw[WP.o,hw];exact W))
    have WN:Zf (K.map wgt) K.length=k:=by unfold Zf;rw[hw]
    rw[WN] at S
    have EK:=Hd (KM.o d (mem_of_getElem? W))
    have G:=Hd (m.o.ids d.id (mem_map.2 ⟨d,EK.o.1,rfl⟩))
    have Q:=Hd (zu G.o)
    obtain⟨bw,ow,cw,e0,aR,-⟩:=WI.o.at_ (i:=k) (c:=wgt d) (by rw[List.getElem?_map,W];rfl)
    injection e0 with e1 e2 e3
    subst e1
    obtain⟨bi,oi,ci,e4,aQ,bq⟩:=II.o.at_ (i:=k) (c:=d.id) (by rw[List.getElem?_map,W];rfl)
    injection e4 with e5 e6 e7
    subst e5
    have ae:=Hd aR
    have bg:=Hd aQ
    have bc:=@Hd (w3.heap.size≤bi) ((D.o.lt bi rfl).1)
    have i5:¬(k:Int)<0:=by omega
    have i6:(k:Int)<(K.length:Int):=by omega
    have LS:=Hd (λw=>zjN (aA.o d EK.o.1) HX.o w)
    clear hw WN W aR aQ e2 e3 e6 e7 bq
    by_cases hc:Yq (wgt d) x<0
    ·have I:=@Hd (Jz L x ps=0∧vn L x ps=y9 (gOf L) [d.id]) (⟨by rw[RE.o.1];exact if_pos hc,by rw[RE.o.2];exact if_pos hc⟩)
     rw[decide_eq_true hc] at LS
     clear hc
     have H:=tru
     go_wp2_with (clear H;go_at_call 87;refine S.o.mono ?_;rintro e w5 ⟨rfl,F⟩;have A:=Hd F;clear F;go_frame)
     have B:=Hd (A.o.drew)
     refine wrLx [ff,ff,ff,ff,ff,ff,ff,ff,tt,ff,ff] (λw'=>w'.rangeAt bw (ow+k*2) (y6 (wgt d))∧w'.rangeAt qw 0 (y6 x)) ?_ (λK hK=>?_)
     ·exact⟨za ae.o B.o id,za af.o B.o id⟩
     generalize w5.drew=bA at*
     repeat((first|(refine zk rfl ?_;constructor;constructor;(focus(first|exact y5 (ty:=118) rfl (λw h=>h.1) uW rW (show _=some (y6 (wgt d)).length from xU)|exact y5 (ty:=118) rfl (λw h=>h.2) uW rW (show _=some (y6 x).length from xU)|(rintro w' ⟨s1,s2⟩;exact goS))))|(refine zl rfl ?_));try simp only[Act.put,pA,pB,pC])
     (refine zM rfl (λK' hK'=>?_))
     go_simp
     refine(LS.o _).mono ?_
     rintro e w6 ⟨rfl,f6⟩
     have z:=Hd (B.o.trans0 f6)
     clear f6
     refine nXt hK' ?_ λhS=>?_
     ·exact⟨za ae.o z.o id,za af.o z.o id⟩
     try simp only[Act.put,pA,pB,pC]
     repeat((first|(refine zk rfl ?_;constructor;constructor;(focus(first|(rintro w' ⟨s1,s2⟩;exact goS))))|(refine zl rfl ?_));try simp only[Act.put,pA,pB,pC])
     refine zN (hK.out _ _ ?_)
     have F6:=Hd (an.o.trans0 z.o)
     have bd:=Hd (za bg.o z.o id)
     have bm:=@Hd (∀j,VG j→j<w.heap.size) (m.o.gr.hi)
     go_wp2_with fail
     have F7:=Hd ((frN w6).drew)
     have R:=Hd (F6.o.trans0 F7.o)
     have u:=Hd (m.o.fr0 R.o)
     have aB:=Hd (za bd.o F7.o id)
     refine wrLx [ff,ff,ff,ff,ff,ff,ff,ff,tt,ff,ff,ff,ff,ff] (λw'=>w'.cell? ⟨p,2,none⟩=some (.pointer (some ⟨g,0,none⟩))∧w'.rangeAt bi (oi+k*32) (zd d.id)) ?_ (λK hK=>?_)
     ·exact⟨u.o.cells.2.2,aB.o⟩
     generalize w6.drew=w7 at*
     repeat((first|(refine zk rfl ?_;constructor;constructor;(focus(first|exact zn0 rfl (λw h=>h.2) Q.o|(rintro w' ⟨s1,s2⟩;exact goS))))|(refine zl rfl ?_));try simp only[Act.put,pA,pB,pC])
     (refine zM rfl (λK' hK'=>?_))
     go_simp
     refine(zjz u.o.gr (by omega) G.o).mono ?_
     rintro e' w8 ⟨gv,rfl,V8,aK,aH,ag,aq⟩
     obtain⟨ga,gc,br⟩:=aq.slice.arg.form
     subst br
     have aY:=@Hd (d.id∈ids (gOf L)) (by rw[yO];exact mem_map.2 ⟨d,EK.o.1,rfl⟩)
     have G8:=Hd aK
     have F8:=Hd aH
     have E:=Hd ag
     have O8:=Hd aq
     clear aK aH ag aq
     rw[if_pos aY.o]
     have c8:=Hd (F8.o.cell u.o.cells.2.2 u.o.apart.2.2.2.1)
     have bf:=Hd (za aB.o F8.o (λe=>by have:=bm.o _ e;have:=bc.o;have:=F3.o.size;omega))
     refine nXt hK' ?_ λhS=>?_
     ·exact⟨c8.o,bf.o⟩
     try simp only[Act.put,pA,pB,pC]
     repeat((first|(refine zk rfl ?_;constructor;constructor;(focus(first|(rintro w' ⟨s1,s2⟩;exact goS))))|(refine zl rfl ?_));try simp only[Act.put,pA,pB,pC])
     refine zN (hK.out _ _ ?_)
     have M8:=@Hd (JR w0 w8 p ma ms g X C L) (u.o.m.frV F8.o ⟨u.o.apart.2.2.2.1,u.o.apart.2.2.2.2.1,u.o.apart.2.2.2.2.2⟩ u.o.gr.lo (λj s=>u.o.sub j (.inr (.inr (.inr s)))) (λ_ _ h=>h) u.o.m.subX)
     have MW:=@Hd (ma<w.heap.size∧ms<w.heap.size) (⟨m.o.hi ma (.inr (.inl rfl)),m.o.hi ms (.inr (.inr (.inl rfl)))⟩)
     have aV:=@Hd (∀y∈y9 (gOf L) [d.id],zV y) (λy hy=>m.o.gr.okId y ((xh [d.id]).subset hy))
     have DL:=@Hd ((y9 (gOf L) [d.id]).length≤100000) (by have:=xB (m.o.gr.gok.nd.sublist (xh [d.id])) (λx hx=>(xh [d.id]).subset hx);rw[yO] at this;unfold zR at this;rw[length_map] at this;omega)
     have HD:=Hd (zjA M8.o AP.o m.o.nd a6.o (v:=.slice ga (y9 (gOf L) [d.id]).length gc) (l:=y9 (gOf L) [d.id]) (λw' f=>y4.own (zb O8.o f (λj s e=>by have:=(O8.o.lt j s).1;have:=R.o.size;have:=MW.o;rcases e with e|e<;>omega)) aV.o) (λy hy=>by rw[←yO];exact(xh [d.id]).subset hy) (m.o.gr.gok.nd.sublist (xh [d.id])) DL.o)
     have aD:=Hd (Yt m.o.gr.gok [d.id])
     rw[zbT aD.o] at G8
     generalize bC:y9 (gOf L) [d.id]=DD at*
     have H:=tru
     go_wp2_with (clear H;go_at_call 68;refine HD.o.mono ?_;rintro e' w9 ⟨rfl,aN,aI⟩;have M9:=Hd aN;have F9:=Hd aI;clear aN aI;go_frame)
     go_ret2
     refine⟨_,by rw[I.o.1];rfl,V8,?_,?_,E.o,?_⟩
     ·rw[I.o.2]
      exact M9.o.at_ (G8.o.frV F9.o (λj s e=>by rcases e with e|e;(rw[e] at s;exact u.o.apart.2.2.2.2.1 (E.o _ s));(rw[e] at s;exact u.o.apart.2.2.2.2.2 (E.o _ s))) (λj e=>by have:=m.o.lo3;rcases e with e|e<;>omega)) ⟨λe=>u.o.apart.2.2.2.1 (E.o _ e),λe=>u.o.apart.2.2.2.2.1 (E.o _ e),λe=>u.o.apart.2.2.2.2.2 (E.o _ e)⟩ (λj s=>m.o.sub j (s.imp_right (λh=>h.imp_right (λh=>h.imp_right (E.o j)))))
     ·exact(R.o.of0.trans F8.o (λj _ e=>.inr (.inr (.inr e)))).trans F9.o (λj _ e=>by rcases e with e|e;exact .inr (.inl e);exact .inr (.inr (.inl e)))
     ·rw[I.o.2]
      exact yu (zb O8.o F9.o (λj s e=>by have:=(O8.o.lt j s).1;have:=R.o.size;have:=MW.o;rcases e with e|e<;>omega)) R.o.size
    ·have I:=@Hd (Jz L x ps=18∧vn L x ps=[]) (⟨by rw[RE.o.1];exact if_neg hc,by rw[RE.o.2];exact if_neg hc⟩)
     rw[decide_eq_false hc] at LS
     clear hc
     have H:=tru
     go_wp2_with (clear H;go_at_call 87;refine S.o.mono ?_;rintro e w5 ⟨rfl,F⟩;have A:=Hd F;clear F;go_frame)
     have B:=Hd (A.o.drew)
     refine wrLx [ff,ff,ff,ff,ff,ff,ff,ff,tt,ff,ff] (λw'=>w'.rangeAt bw (ow+k*2) (y6 (wgt d))∧w'.rangeAt qw 0 (y6 x)) ?_ (λK hK=>?_)
     ·exact⟨za ae.o B.o id,za af.o B.o id⟩
     generalize w5.drew=bA at*
     repeat((first|(refine zk rfl ?_;constructor;constructor;(focus(first|exact y5 (ty:=118) rfl (λw h=>h.1) uW rW (show _=some (y6 (wgt d)).length from xU)|exact y5 (ty:=118) rfl (λw h=>h.2) uW rW (show _=some (y6 x).length from xU)|(rintro w' ⟨s1,s2⟩;exact goS))))|(refine zl rfl ?_));try simp only[Act.put,pA,pB,pC])
     (refine zM rfl (λK' hK'=>?_))
     go_simp
     refine(LS.o _).mono ?_
     rintro e w6 ⟨rfl,f6⟩
     have z:=Hd (B.o.trans0 f6)
     clear f6
     refine nXt hK' ?_ λhS=>?_
     ·exact⟨za ae.o z.o id,za af.o z.o id⟩
     try simp only[Act.put,pA,pB,pC]
     repeat((first|(refine zk rfl ?_;constructor;constructor;(focus(first|(rintro w' ⟨s1,s2⟩;exact goS))))|(refine zl rfl ?_));try simp only[Act.put,pA,pB,pC])
     refine zN (hK.out _ _ ?_)
     have F6:=Hd (an.o.trans0 z.o)
     go_wp2_with fail
     go_ret2
     exact zaz.none m.o I.o.1 I.o.2 F6.o
end
end Go.Proofs.YtbcllfjmabiafaaGreatDoor
