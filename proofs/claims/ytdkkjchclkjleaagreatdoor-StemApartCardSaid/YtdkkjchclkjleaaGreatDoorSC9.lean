/- slices.Clone of inputs, outputs, bytes; own: a transaction in memory of its own. -/
import Derived.Test.YtdkkjchclkjleaaGreatDoorProg
import Derived.Lib.Hide
import Derived.Test.YtdkkjchclkjleaaGreatDoorSC8
import Derived.Test.YtdkkjchclkjleaaGreatDoorSC4
import Derived.Test.YtdkkjchclkjleaaGreatDoorSC1
import Derived.Test.YtdkkjchclkjleaaGreatDoorSC7
import Derived.Test.YtdkkjchclkjleaaGreatDoorSC6
set_option linter.unusedVariables false
set_option linter.unusedSimpArgs false
set_option linter.unnecessarySimpa false
set_option linter.all false
set_option maxRecDepth 20000
set_option maxHeartbeats 16000000
namespace Go.Proofs.YtdkkjchclkjleaaGreatDoor
open Go Go.RowKit Go.Maps Go.MapKept
open Go.Proofs.Tryz(prog)
open List(mem_map getElem?_eq_getElem mem_append mem_of_getElem? length_map take_add_one mem_singleton take_length length_take getElem?_map filter_append any_eq_true drop_drop)
open Nat(le_refl zero_le le_trans)
theorem jt (w:World) {v:Value} {l:List yE} (i:xy w v l) (D:l.length≤100000):
  Calls prog 81 #[v] w λe w'=>∃j,e=.returned j∧w'.ownsRow w.heap.size 103 33 j l.length (l.flatMap zJ)∧Fr No w w':=by
 have C:∀(w:World) (a:Option Addr) (n c q o:Nat),(binOp .eql 22 (.slice a n c) (.slice none q o)).run prog w=.ok (.bool a.isNone) w:=λw a n c q o=>Lib.run_eql_slice_nil w _ _ a n c q o qO
 by_cases hnil:v=.slice none 0 0
 ·subst hnil
  have B:l=[]:=by
   obtain⟨a,c,h⟩:=(i.2).form
   injection h with h1 h2 h3
   exact List.eq_nil_of_length_eq_zero h2.symm
  subst B
  go_enter Tryz.func81,Tryz.ntmps81
  go_wp2
  go_ret
  exact⟨_,rfl,World.ownsRow_nil _ _ _ _,Fr.refl _ _⟩
 ·have u:y7 (w.alloc (.cells #[] 103)) v l.length (l.flatMap zJ):=(i.2).keep ((Fr.refl _ _).alloc _)
  obtain⟨j,w',d,t,s,-,p⟩:=Jk (P:=prog) (w.alloc (.cells #[] 103)) w.heap.size 22 22 103 33 40 _ qO Jz rfl (by decide) (.slice (some ⟨w.heap.size,0,none⟩) 0 0) 0 [] (World.ownsRow_made w #[] 0 (le_refl _) (zero_le _) rfl) v l.length (l.flatMap zJ) u (ze3 i.1) (ze4) (by omega) (by unfold maxLen;omega) (by simp) hnil
  have r:Fr No w w':=Fr.grown ((Fr.refl _ w).alloc _) s (λk A=>by simp[Value.ownBlock] at A;exact .inl (by omega))
  have f:∃b n c,v=.slice (some b) n c:=by
   rcases(i.2) with(⟨h,_⟩|⟨g,go,z,h,_⟩)|⟨a0,z,h,-⟩
   ·exact absurd h hnil
   ·exact⟨_,_,_,h⟩
   ·exact⟨_,_,_,h⟩
  obtain⟨b,n,c,rfl⟩:=f
  have m:=J d
  have y:=@J (w'.ownsRow w.heap.size 103 33 j l.length (l.flatMap zJ)) (by simpa using t)
  have x:=J r
  clear u d t s p r hnil
  go_enter Tryz.func81,Tryz.ntmps81
  go_wp2_with (at_builtin;refine zR rfl rfl rfl rfl m.o ?_)
  go_ret
  exact⟨_,rfl,y.o,x.o⟩
theorem Vb (w:World) {v:Value} {l:List Int} (p:zbj w v l) (D:l.length≤100000):
  Calls prog 82 #[v] w λe w'=>∃i,e=.returned i∧w'.ownsRow w.heap.size 5 1 i l.length (l.map zM)∧Fr No w w':=by
 have C:∀(w:World) (a:Option Addr) (n c q m:Nat),(binOp .eql 106 (.slice a n c) (.slice none q m)).run prog w=.ok (.bool a.isNone) w:=λw a n c q m=>Lib.run_eql_slice_nil w _ _ a n c q m Xv
 by_cases hnil:v=.slice none 0 0
 ·subst hnil
  have B:l=[]:=by
   obtain⟨a,c,h⟩:=(p.2).form
   injection h with h1 h2 h3
   exact List.eq_nil_of_length_eq_zero h2.symm
  subst B
  go_enter Tryz.func82,Tryz.ntmps82
  go_wp2
  go_ret
  exact⟨_,rfl,World.ownsRow_nil _ _ _ _,Fr.refl _ _⟩
 ·have u:y7 (w.alloc (.cells #[] 5)) v l.length (l.map zM):=(p.2).keep ((Fr.refl _ _).alloc _)
  obtain⟨i,w',d,t,s,-,o⟩:=Jk (P:=prog) (w.alloc (.cells #[] 5)) w.heap.size 106 106 5 1 1 _ Xv XM rfl (by decide) (.slice (some ⟨w.heap.size,0,none⟩) 0 0) 0 [] (World.ownsRow_made w #[] 0 (le_refl _) (zero_le _) rfl) v l.length (l.map zM) u (by simp) (zcu) (by omega) (by unfold maxLen;omega) (by simp) hnil
  have r:Fr No w w':=Fr.grown ((Fr.refl _ w).alloc _) s (λk A=>by simp[Value.ownBlock] at A;exact .inl (by omega))
  have f:∃b n c,v=.slice (some b) n c:=by
   rcases(p.2) with(⟨h,_⟩|⟨g,go,z,h,_⟩)|⟨a0,z,h,-⟩
   ·exact absurd h hnil
   ·exact⟨_,_,_,h⟩
   ·exact⟨_,_,_,h⟩
  obtain⟨b,n,c,rfl⟩:=f
  have j:=J d
  have y:=@J (w'.ownsRow w.heap.size 5 1 i l.length (l.map zM)) (by simpa using t)
  have x:=J r
  clear u d t s o r hnil
  go_enter Tryz.func82,Tryz.ntmps82
  go_wp2_with (at_builtin;refine zR rfl rfl rfl rfl j.o ?_)
  go_ret
  exact⟨_,rfl,y.o,x.o⟩
theorem Zi (w:World) {v:Value} {L:List InD} {V:Nat→Prop} (r:Kept V w (λw=>QS w v L)) (O:L.length≤100000):
  Calls prog 80 #[v] w λe w'=>∃(y:Value) (css:List (List Value)),e=.returned y∧css.length=L.length∧(∀(i:Nat) (d:InD) (cs:List Value),L[i]? =some d→css[i]? =some cs→Kept V w' (λw=>InQ w d cs))∧(∀cs∈css,cs.length=34)∧w'.ownsRow w.heap.size 108 34 y L.length (css.flatMap id)∧Fr No w w':=by
 have M:∀(w:World) (a:Option Addr) (n c x t:Nat),(binOp .eql 32 (.slice a n c) (.slice none x t)).run prog w=.ok (.bool a.isNone) w:=λw a n c x t=>Lib.run_eql_slice_nil w _ _ a n c x t Xw
 obtain⟨N,Q,rfl⟩:=r.now.form
 have u:Fr No w (w.alloc (.cells #[] 108)):=(frN w).alloc _
 obtain⟨css,y,w',f,k,m,g,q,p,A⟩:=zfH (w.alloc (.cells #[] 108)) (World.ownsRow_made w #[] 0 (le_refl _) (zero_le _) rfl) (V:=λj=>V j∨j=w.heap.size) (r.step u.of0 (λj P h=>h.resolve_right (by omega))) (by omega) (by simp)
 rw[Nat.zero_add,List.nil_append] at q
 have z:Fr No w w':=u.trans p (λi hi e=>by simp[Value.ownBlock] at e;omega)
 have o:Fr (λj=>(Value.slice (some ⟨w.heap.size,0,none⟩) 0 0).ownBlock=some j) (w.alloc (.cells #[] 108)) w':=p
 cases N with
 |none=>
  have K:L=[]:=by
   cases L with
   |nil=>rfl
   |cons d l=>
    obtain⟨b,off,G,cs,e,-⟩:=r.now.at_ (i:=0) rfl
    injection e with e
    cases e
  subst K
  clear f q p A m g k
  go_enter Tryz.func80,Tryz.ntmps80
  go_wp2
  go_ret
  exact⟨_,[],rfl,rfl,λi d cs h=>(by simp at h),λ_ h=>(by cases h),World.ownsRow_nil _ _ _ _,Fr.refl _ _⟩
 |some ad=>
  have s:=J f
  have F:=J q
  have B:=J z
  have D:=@J (∀(i:Nat) (d:InD) (cs:List Value),L[i]? =some d→css[i]? =some cs→Kept V w' (λw=>InQ w d cs)) (λi d cs H I=>(m i d cs H I).step (V':=V) (o.mono (λj e=>.inr (by simpa[Value.ownBlock] using e.symm))) (λ_ _ h=>.inl h))
  have C:=J g
  have E:=J k
  clear f q p z A m g k o r u
  go_enter Tryz.func80,Tryz.ntmps80
  go_wp2_with (at_builtin;refine zR rfl rfl rfl rfl s.o ?_)
  go_ret
  exact⟨_,css,rfl,E.o,D.o,C.o,F.o,B.o⟩
theorem jH {w:World} {b off:Nat} {cs:List Value} (h:w.rangeAt b off cs) (a:cs≠[]):b<w.heap.size:=by
 cases cs with
 |nil=>exact absurd rfl a
 |cons v r=>exact World.block_lt_of_cell? w ⟨b,off+0,none⟩ (h 0 v rfl)
theorem zho {w w':World} {v:Value} {n:Nat} {cs:List Value} (h:y7 w v n cs) {W:Nat→Prop} (f:Fr W w w') (d:∀j,j<w.heap.size→¬W j):y7 w' v n cs:=
 h.imp (λh=>h.keep f (λj a=>d j (by
  rcases h with⟨rfl,_⟩|⟨e,off,b,rfl,g,i,k,c⟩
  ·cases a
  ·simp[Value.ownBlock] at a;subst a;exact c))) id
theorem zcS {w:World} {v:Value} {L:List InD} (h:QS w v L) {V:Nat→Prop} (g:∀j,j<w.heap.size→¬V j):Kept V w (λw=>QS w v L):=λw' f=>by
 obtain⟨q,r,e,n,h⟩:=h
 refine⟨q,r,e,n,λi d hi=>?_⟩
 obtain⟨b,off,cs,k,a,o,p,rfl,l,c⟩:=h i d hi
 have m:=jH a (by unfold inC;simp)
 exact⟨b,off,_,k,za a f (g b m),o,p,rfl,l,c.1,zho c.2 f g⟩
theorem Xm {k r:Nat} {v:Value} (b:r<k):∀ {css:List (List Value)} {m:Nat} {cs:List Value},(∀c∈css,c.length=k)→css[m]? =some cs→(css.flatMap id).set (m*k+r) v=(css.set m (cs.set r v)).flatMap id
 |[],m,cs,_,h=>by simp at h
 |c::l,0,cs,hk,h=>by
  simp at h
  subst h
  have a:=hk c (.head _)
  simp only[List.flatMap_cons,id,List.set_cons_zero,Nat.zero_mul,Nat.zero_add]
  rw[List.set_append_left _ _ (by omega)]
 |c::l,m+1,cs,hk,h=>by
  have a:=hk c (.head _)
  have ih:=Xm (v:=v) b (css:=l) (m:=m) (λx d=>hk x (.tail _ d)) (by simpa using h)
  simp only[List.flatMap_cons,id,List.set_cons_succ] at ih⊢
  rw[←ih,Nat.succ_mul,List.set_append_right _ _ (by omega)]
  congr 2
  omega
theorem zgU {p:zF} (ok:p.ok) (a b:Value):(inC p a).set 33 b=inC p b:=by
 unfold inC
 rw[List.set_append_right _ _ (by rw[zY ok];exact le_refl _),zY ok]
 rfl
def zlS (B:Nat) (t:TxD) (w2:World) (s:Value) (wc:World):Prop:=
 ∃(qd:Nat) (ia:Option Addr) (ic:Nat) (oa:Option Addr) (oc:Nat) (css:List (List Value)),s=.pointer (some ⟨qd,0,none⟩)∧B≤qd∧Fr No w2 wc∧
  wc.heap[qd]? =some (.cells #[.int .u32 t.ver,.slice ia t.ins.length ic,.slice oa t.outs.length oc] 34 (0,0))∧
  css.length=t.ins.length∧(∀(i:Nat) (d:InD) (cs:List Value),t.ins[i]? =some d→css[i]? =some cs→Kept (λj=>B≤j) wc (λw=>InQ w d cs))∧(∀cs∈css,cs.length=34)∧
  wc.ownsRow B 108 34 (.slice ia t.ins.length ic) t.ins.length (css.flatMap id)∧wc.ownsRow B 103 33 (.slice oa t.outs.length oc) t.outs.length (t.outs.flatMap zJ)∧
  (∀j,(Value.slice ia t.ins.length ic).ownBlock=some j→j≠qd∧(Value.slice oa t.outs.length oc).ownBlock≠some j)
theorem V7 (t:Int) (a b:Option Addr) (n c m d:Nat) (w:World):(Instr.build 34 #[(0,.int .u32 t),(1,.slice a n c),(2,.slice b m d)]).run prog w=.ok (.agg [.int .u32 t,.slice a n c,.slice b m d].toArray) w:=by kernel_rfl
def zlV (w:World) (t:TxD) (e:Ending) (w':World):Prop:=∃cs,e=.returned (.agg cs.toArray)∧Fr No w w'∧∀V:Nat→Prop,(∀j,V j→j<w.heap.size)→Kept V w' (λw=>TxQ w t cs)
structure zhk (B qd:Nat) (ia:Option Addr) (ic:Nat) (t:TxD) (wz wr:World) (n:Nat) (css:List (List Value)):Prop where
 len:css.length=t.ins.length
 c34:∀cs∈css,cs.length=34
 row:wr.ownsRow B 108 34 (.slice ia t.ins.length ic) t.ins.length (css.flatMap id)
 new:∀(i:Nat) (d:InD) (cs:List Value),i<n→t.ins[i]? =some d→css[i]? =some cs→Kept (λj=>j<B∨(Value.slice ia t.ins.length ic).ownBlock=some j) wr (λw=>InQ w d cs)
 old:∀(i:Nat) (d:InD) (cs:List Value),n≤i→t.ins[i]? =some d→css[i]? =some cs→Kept (λj=>B≤j) wr (λw=>InQ w d cs)
 fr:Fr (λj=>(Value.slice ia t.ins.length ic).ownBlock=some j) wz wr
theorem zh6 (w:World) {t:TxD} {cs:List Value} (ht:TxQ w t cs) (hI:t.ins.length≤1000∧t.outs.length≤1000∧∀x∈t.ins,x.key.length≤1000):
  Calls prog 49 #[.agg cs.toArray] w (zlV w t):=by
 obtain⟨ia,ic,oa,oc,rfl,hv,hi,ho⟩:=ht
 have zT:=jV
 have f1:Fr No w (w.alloc (.cells #[.int .u32 t.ver,.slice ia t.ins.length ic,.slice oa t.outs.length oc] 34)):=(frN w).alloc _
 have Y:Fr No (w.alloc (.cells #[.int .u32 t.ver,.slice ia t.ins.length ic,.slice oa t.outs.length oc] 34)) _:=(frN _).alloc (.cells (txC 0 (.slice none 0 0) (.slice none 0 0)).toArray 34)
 obtain⟨c0,c1,c2,-⟩:=qN w t.ver (.slice ia t.ins.length ic) (.slice oa t.outs.length oc)
 have F2:=J (f1.trans0 Y)
 have FD:=J (F2.o.drew)
 have Q:=J ((Y.drew).cell c0 _root_.id)
 have R:=J ((Y.drew).cell c1 _root_.id)
 have S:=J ((Y.drew).cell c2 _root_.id)
 have B2:=J (yL (w.alloc (.cells #[.int .u32 t.ver,.slice ia t.ins.length ic,.slice oa t.outs.length oc] 34)) (.cells (txC 0 (.slice none 0 0) (.slice none 0 0)).toArray 34) (n:=w.heap.size+1) (by simp))
 have HO:=J (ho.keep FD.o)
 have HK:=J ((zcS hi (V:=λj=>w.heap.size+2≤j) (λj c=>by omega)).step FD.o.of0 (λ_ _ h=>h))
 have Z2:=@J (((w.alloc (.cells #[.int .u32 t.ver,.slice ia t.ins.length ic,.slice oa t.outs.length oc] 34)).alloc (.cells (txC 0 (.slice none 0 0) (.slice none 0 0)).toArray 34)).heap.size=w.heap.size+2) (by simp)
 have HV:=J hv
 have HI:=J hI
 clear c0 c1 c2 f1 Y ho hv hi hI
 show Calls prog 49 #[.agg #[.int .u32 t.ver,.slice ia t.ins.length ic,.slice oa t.outs.length oc]] w _
 go_enter Tryz.func49,Tryz.ntmps49
 go_wp2_with fail
 generalize (w.alloc (.cells #[.int .u32 t.ver,.slice ia t.ins.length ic,.slice oa t.outs.length oc] 34)).alloc (.cells (txC 0 (.slice none 0 0) (.slice none 0 0)).toArray 34)=w2 at*
 go_cut [3] from 5 to 14 (λs3 wc=>zlS (w.heap.size+2) t w2 s3 wc)
 case first=>
  refine jM 11 [0,1,2,3,4,5,6,7,8,9,10] (λw'=>w'.cell? ⟨w.heap.size,0,none⟩=some (.int .u32 t.ver)∧w'.cell? ⟨w.heap.size,1,none⟩=some (.slice ia t.ins.length ic)∧w'.cell? ⟨w.heap.size,2,none⟩=some (.slice oa t.outs.length oc)) (by kernel_rfl) (by kernel_rfl) (by kernel_rfl) (by kernel_rfl) ?_ (λK hK=>?_)
  ·exact⟨Q.o,R.o,S.o⟩
  have X:=@J (w2.drew.heap.size=w.heap.size+2) (Z2.o)
  have FW:=@J (Fr No w2 w2.drew) ((frN w2).drew)
  generalize w2.drew=w3 at*
  (((first|(refine yB 0 (by kernel_rfl) rfl rfl ?_;apply Exists.intro;refine⟨?_,?_⟩;(focus(first|(intro w' hS;obtain⟨s1,s2,s3⟩:=hS;go_simp;(try with_reducible rfl);done))))|(refine yC 0 (by kernel_rfl) rfl rfl ?_));try simp only[Act.put,pA,pB,pC]);((first|(refine yB 1 (by kernel_rfl) rfl rfl ?_;apply Exists.intro;refine⟨?_,?_⟩;(focus(first|(intro w' hS;obtain⟨s1,s2,s3⟩:=hS;go_simp;(try with_reducible rfl);done))))|(refine yC 1 (by kernel_rfl) rfl rfl ?_));try simp only[Act.put,pA,pB,pC]);((first|(refine yB 2 (by kernel_rfl) rfl rfl ?_;apply Exists.intro;refine⟨?_,?_⟩;(focus(first|(intro w' hS;obtain⟨s1,s2,s3⟩:=hS;go_simp;(try with_reducible rfl);done))))|(refine yC 2 (by kernel_rfl) rfl rfl ?_));try simp only[Act.put,pA,pB,pC]);((first|(refine yB 3 (by kernel_rfl) rfl rfl ?_;apply Exists.intro;refine⟨?_,?_⟩;(focus(first|(intro w' hS;obtain⟨s1,s2,s3⟩:=hS;go_simp;(try with_reducible rfl);done))))|(refine yC 3 (by kernel_rfl) rfl rfl ?_));try simp only[Act.put,pA,pB,pC]);((first|(refine yB 5 (by kernel_rfl) rfl rfl ?_;apply Exists.intro;refine⟨?_,?_⟩;(focus(first|(intro w' hS;obtain⟨s1,s2,s3⟩:=hS;go_simp;(try with_reducible rfl);done))))|(refine yC 5 (by kernel_rfl) rfl rfl ?_));try simp only[Act.put,pA,pB,pC]);((first|(refine yB 6 (by kernel_rfl) rfl rfl ?_;apply Exists.intro;refine⟨?_,?_⟩;(focus(first|(intro w' hS;obtain⟨s1,s2,s3⟩:=hS;go_simp;(try with_reducible rfl);done))))|(refine yC 6 (by kernel_rfl) rfl rfl ?_));try simp only[Act.put,pA,pB,pC]))
  refine ZI 4 9 (by kernel_rfl) rfl rfl rfl rfl (λK' hK'=>?_) (λK' hK'=>?_)
  ·skip
   go_simp
   refine(Zi w3 (HK.o.step (frN w3).of0 (λ_ _ h=>h)) (by have:=HI.o.1;omega)).mono ?_
   rintro e H ⟨aM,css,rfl,F,aa,Z,z,f4⟩
   obtain⟨m,o,ak⟩:=z.slice.arg.form
   subst ak
   have u:=J f4
   have CL:=J F
   have KP:=J aa
   have af:=J Z
   have W:=J z
   clear F aa Z z f4
   refine nXt hK' ?_ λhS=>?_
   ·exact⟨u.o.cell Q.o _root_.id,u.o.cell R.o _root_.id,u.o.cell S.o _root_.id⟩
   try simp only[Act.put,pA,pB,pC]
   refine ZI 7 9 (by kernel_rfl) rfl rfl rfl rfl (λK' hK'=>?_) (λK' hK'=>?_)
   ·skip
    go_simp
    refine(jt H (HO.o.keep u.o) (by have:=HI.o.2.1;omega)).mono ?_
    rintro e w5 ⟨aC,rfl,p,f5⟩
    obtain⟨k,l,ab⟩:=p.slice.arg.form
    subst ab
    have I:=J f5
    have T:=J p
    clear p f5
    have a:=J (u.o.trans0 I.o)
    refine nXt hK' ?_ λhS=>?_
    ·exact⟨a.o.cell Q.o _root_.id,a.o.cell R.o _root_.id,a.o.cell S.o _root_.id⟩
    try simp only[Act.put,pA,pB,pC]
    (((first|(refine yB 8 (by kernel_rfl) rfl rfl ?_;apply Exists.intro;refine⟨?_,?_⟩;(focus(first|exact λw' _=>yf (t:=34) rfl rfl (V7 t.ver m k t.ins.length o t.outs.length l w')|(intro w' hS;obtain⟨s1,s2,s3⟩:=hS;go_simp;(try with_reducible rfl);done))))|(refine yC 8 (by kernel_rfl) rfl rfl ?_));try simp only[Act.put,pA,pB,pC]))
    refine y9 9 (by kernel_rfl) rfl rfl (λK' hK'=>?_)
    refine yj (yA rfl (jV _)) ?_
    have F6:=J ((frN w5).alloc (.cells (txC 0 (.slice none 0 0) (.slice none 0 0)).toArray 34))
    refine nXt hK' ?_ λhS=>?_
    ·exact⟨F6.o.cell (a.o.cell Q.o _root_.id) _root_.id,F6.o.cell (a.o.cell R.o _root_.id) _root_.id,F6.o.cell (a.o.cell S.o _root_.id) _root_.id⟩
    try simp only[Act.put,pA,pB,pC]
    refine y9 10 (by kernel_rfl) rfl rfl (λK' hK'=>?_)
    refine yN (zm (w:=w5) (ty:=34) (cs:=[.int .u32 t.ver,.slice m t.ins.length o,.slice k t.outs.length l]) rfl rfl rfl rfl yZ (qM rfl rfl rfl)) ?_
    have E:=J ((frN w5).alloc (.cells ([.int .u32 t.ver,.slice m t.ins.length o,.slice k t.outs.length l]).toArray 34))
    refine nXt hK' ?_ λhS=>?_
    ·exact⟨E.o.cell (a.o.cell Q.o _root_.id) _root_.id,E.o.cell (a.o.cell R.o _root_.id) _root_.id,E.o.cell (a.o.cell S.o _root_.id) _root_.id⟩
    try simp only[Act.put,pA,pB,pC]
    refine jd (hK.out _ _ ?_)
    go_wp2_with fail
    go_meet
    case rel=>exact⟨w5.heap.size,m,o,k,l,css,rfl,by have:=a.o.size;have:=X.o;omega,FW.o.trans0 (a.o.trans0 E.o),ye w5 (.cells ([.int .u32 t.ver,.slice m t.ins.length o,.slice k t.outs.length l]).toArray 34),CL.o,λi d cs D y=>(KP.o i d cs D y).step (I.o.trans0 E.o).of0 (λ_ _ h=>h),af.o,xj (zb (zb W.o I.o (λ_ _=>_root_.id)) E.o (λ_ _=>_root_.id)) (by have:=X.o;omega),xj (zb T.o E.o (λ_ _=>_root_.id)) (by have:=u.o.size;have:=X.o;omega),λj c=>⟨by have:=(W.o.lt j c).2;have:=I.o.size;omega,λe=>by have:=(W.o.lt j c).2;have:=(T.o.lt j e).1;omega⟩⟩
   ·refine yj (yA rfl (jV _)) ?_
    have FA:=J ((frN H).alloc (.cells (txC 0 (.slice none 0 0) (.slice none 0 0)).toArray 34))
    have BA:=J (ye H (.cells (txC 0 (.slice none 0 0) (.slice none 0 0)).toArray 34))
    have ZA:=@J ((H.alloc (.cells (txC 0 (.slice none 0 0) (.slice none 0 0)).toArray 34)).heap.size=H.heap.size+1) (by simp)
    generalize H.alloc (.cells (txC 0 (.slice none 0 0) (.slice none 0 0)).toArray 34)=wa at*
    generalize an:H.heap.size=G at*
    have s:=J (u.o.trans0 FA.o)
    refine nXt hK' ?_ λhS=>?_
    ·exact⟨s.o.cell Q.o _root_.id,s.o.cell R.o _root_.id,s.o.cell S.o _root_.id⟩
    try simp only[Act.put,pA,pB,pC]
    refine y9 7 (by kernel_rfl) rfl rfl (λK' hK'=>?_)
    go_simp
    refine(jt wa (HO.o.keep s.o) (by have:=HI.o.2.1;omega)).mono ?_
    rintro e w5 ⟨aC,rfl,p,f5⟩
    obtain⟨k,l,ab⟩:=p.slice.arg.form
    subst ab
    have I:=J f5
    have T:=J p
    clear p f5
    have a:=J (s.o.trans0 I.o)
    have B5:=J (I.o.obj BA.o _root_.id)
    refine nXt hK' ?_ λhS=>?_
    ·exact⟨a.o.cell Q.o _root_.id,a.o.cell R.o _root_.id,a.o.cell S.o _root_.id⟩
    try simp only[Act.put,pA,pB,pC]
    (((first|(refine yB 8 (by kernel_rfl) rfl rfl ?_;apply Exists.intro;refine⟨?_,?_⟩;(focus(first|exact λw' _=>yf (t:=34) rfl rfl (V7 t.ver m k t.ins.length o t.outs.length l w')|(intro w' hS;obtain⟨s1,s2,s3⟩:=hS;go_simp;(try with_reducible rfl);done))))|(refine yC 8 (by kernel_rfl) rfl rfl ?_));try simp only[Act.put,pA,pB,pC]))
    refine y9 10 (by kernel_rfl) rfl rfl (λK' hK'=>?_)
    refine yN (zK (ty:=34) (b:=G) (off:=0) (cs:=[.int .u32 t.ver,.slice m t.ins.length o,.slice k t.outs.length l]) rfl rfl rfl (zV B5.o (le_refl 3)) yZ (qM rfl rfl rfl)) ?_
    have E:=J (zu G ([.int .u32 t.ver,.slice m t.ins.length o,.slice k t.outs.length l]) 0 w5)
    have HQ:=@J (w3.heap.size≤G) (by have:=u.o.size;omega)
    have C:=@J (Fr No w3 _) (a.o.trans E.o (λi hi e=>by have:=HQ.o;omega))
    refine nXt hK' ?_ λhS=>?_
    ·exact⟨C.o.cell Q.o _root_.id,C.o.cell R.o _root_.id,C.o.cell S.o _root_.id⟩
    try simp only[Act.put,pA,pB,pC]
    refine jd (hK.out _ _ ?_)
    go_wp2_with fail
    go_meet
    case rel=>exact⟨G,m,o,k,l,css,rfl,by have:=HQ.o;have:=X.o;omega,FW.o.trans0 C.o,ZL (cs:=[.int .u32 t.ver,.slice m t.ins.length o,.slice k t.outs.length l]) B5.o rfl,CL.o,λi d cs D y=>((KP.o i d cs D y).step (FA.o.trans0 I.o).of0 (λ_ _ h=>h)).step (E.o.mono (λj e=>by have:=HQ.o;have:=X.o;omega)) (λ_ _ h=>h),af.o,xj (zb (zb W.o (FA.o.trans0 I.o) (λ_ _=>_root_.id)) E.o (λj c e=>by have:=(W.o.lt j c).2;omega)) (by have:=X.o;omega),xj (zb T.o E.o (λj c e=>by have:=(T.o.lt j c).1;have:=ZA.o;omega)) (by have:=HQ.o;have:=X.o;have:=ZA.o;omega),λj c=>⟨by have:=(W.o.lt j c).2;omega,λe=>by have:=(W.o.lt j c).2;have:=(T.o.lt j e).1;have:=ZA.o;omega⟩⟩
  ·refine yj (yA rfl (jV _)) ?_
   have FA:=J ((frN w3).alloc (.cells (txC 0 (.slice none 0 0) (.slice none 0 0)).toArray 34))
   have BA:=J (ye w3 (.cells (txC 0 (.slice none 0 0) (.slice none 0 0)).toArray 34))
   have ZA:=@J ((w3.alloc (.cells (txC 0 (.slice none 0 0) (.slice none 0 0)).toArray 34)).heap.size=w3.heap.size+1) (by simp)
   generalize w3.alloc (.cells (txC 0 (.slice none 0 0) (.slice none 0 0)).toArray 34)=wa at*
   generalize an:w3.heap.size=G at*
   refine nXt hK' ?_ λhS=>?_
   ·exact⟨FA.o.cell Q.o _root_.id,FA.o.cell R.o _root_.id,FA.o.cell S.o _root_.id⟩
   try simp only[Act.put,pA,pB,pC]
   refine y9 4 (by kernel_rfl) rfl rfl (λK' hK'=>?_)
   go_simp
   refine(Zi wa (HK.o.step (FA.o).of0 (λ_ _ h=>h)) (by have:=HI.o.1;omega)).mono ?_
   rintro e H ⟨aM,css,rfl,F,aa,Z,z,f4⟩
   obtain⟨m,o,ak⟩:=z.slice.arg.form
   subst ak
   have u:=J f4
   have CL:=J F
   have KP:=J aa
   have af:=J Z
   have W:=J z
   clear F aa Z z f4
   have s:=J (FA.o.trans0 u.o)
   refine nXt hK' ?_ λhS=>?_
   ·exact⟨s.o.cell Q.o _root_.id,s.o.cell R.o _root_.id,s.o.cell S.o _root_.id⟩
   try simp only[Act.put,pA,pB,pC]
   refine y9 7 (by kernel_rfl) rfl rfl (λK' hK'=>?_)
   go_simp
   refine(jt H (HO.o.keep s.o) (by have:=HI.o.2.1;omega)).mono ?_
   rintro e w5 ⟨aC,rfl,p,f5⟩
   obtain⟨k,l,ab⟩:=p.slice.arg.form
   subst ab
   have I:=J f5
   have T:=J p
   clear p f5
   have a:=J (s.o.trans0 I.o)
   have B5:=J (I.o.obj (u.o.obj BA.o _root_.id) _root_.id)
   refine nXt hK' ?_ λhS=>?_
   ·exact⟨a.o.cell Q.o _root_.id,a.o.cell R.o _root_.id,a.o.cell S.o _root_.id⟩
   try simp only[Act.put,pA,pB,pC]
   (((first|(refine yB 8 (by kernel_rfl) rfl rfl ?_;apply Exists.intro;refine⟨?_,?_⟩;(focus(first|exact λw' _=>yf (t:=34) rfl rfl (V7 t.ver m k t.ins.length o t.outs.length l w')|(intro w' hS;obtain⟨s1,s2,s3⟩:=hS;go_simp;(try with_reducible rfl);done))))|(refine yC 8 (by kernel_rfl) rfl rfl ?_));try simp only[Act.put,pA,pB,pC]))
   refine y9 10 (by kernel_rfl) rfl rfl (λK' hK'=>?_)
   refine yN (zK (ty:=34) (b:=G) (off:=0) (cs:=[.int .u32 t.ver,.slice m t.ins.length o,.slice k t.outs.length l]) rfl rfl rfl (zV B5.o (le_refl 3)) yZ (qM rfl rfl rfl)) ?_
   have E:=J (zu G ([.int .u32 t.ver,.slice m t.ins.length o,.slice k t.outs.length l]) 0 w5)
   have C:=@J (Fr No w3 _) (a.o.trans E.o (λi hi e=>by omega))
   refine nXt hK' ?_ λhS=>?_
   ·exact⟨C.o.cell Q.o _root_.id,C.o.cell R.o _root_.id,C.o.cell S.o _root_.id⟩
   try simp only[Act.put,pA,pB,pC]
   refine jd (hK.out _ _ ?_)
   go_wp2_with fail
   go_meet
   case rel=>exact⟨G,m,o,k,l,css,rfl,by have:=X.o;omega,FW.o.trans0 C.o,ZL (cs:=[.int .u32 t.ver,.slice m t.ins.length o,.slice k t.outs.length l]) B5.o rfl,CL.o,λi d cs D y=>((KP.o i d cs D y).step I.o.of0 (λ_ _ h=>h)).step (E.o.mono (λj e=>by have:=X.o;omega)) (λ_ _ h=>h),af.o,xj (zb (zb W.o I.o (λ_ _=>_root_.id)) E.o (λj c e=>by have:=(W.o.lt j c).1;have:=ZA.o;omega)) (by have:=X.o;have:=ZA.o;omega),xj (zb T.o E.o (λj c e=>by have:=(T.o.lt j c).1;have:=u.o.size;have:=ZA.o;omega)) (by have:=X.o;have:=ZA.o;have:=u.o.size;omega),λj c=>⟨by have:=(W.o.lt j c).1;have:=ZA.o;omega,λe=>by have:=(W.o.lt j c).2;have:=(T.o.lt j e).1;omega⟩⟩
 case rest=>
  rename World=>wz
  obtain⟨G,A,q,N,O,css,rfl,an,fc,bq,F,ax,ah,z,p,av⟩:=hcut
  have FC:=J fc
  have T:=J p
  have AP:=J av
  have aD:=J (fc.obj B2.o _root_.id)
  have c1:wz.cell? ⟨G,1,none⟩=some (.slice A t.ins.length q):=by have:=zq bq 1 _ rfl;simpa using this
  have L8:=J HI.o.1
  have BQ:=J bq
  have HR:=@J (∃css,zhk (w.heap.size+2) G A q t wz wz 0 css) (⟨css,F,ah,z,λi d cs h D y=>absurd h (Nat.not_lt_zero i),λi d cs h D y=>ax i d cs D y,Fr.refl _ _⟩)
  clear an fc bq F ax ah z p av
  have iz:=HI.o.1
  go_wp2_with fail
  clear c1
  go_loopw [17] (λiv wr=>∃n:Nat,iv=.int .i64 n∧n≤t.ins.length∧∃css,zhk (w.heap.size+2) G A q t wz wr n css) (λiv _=>t.ins.length-(intOf iv).toNat)
  case atStart=>exact⟨0,rfl,zero_le _,HR.o⟩
  case round=>
   obtain⟨n,rfl,hn,css,aB⟩:=hrel
   have B:=J aB
   clear aB
   by_cases az:n<t.ins.length
   ·have i1:(n:Int)<(t.ins.length:Int):=by omega
    obtain⟨x,hx⟩:∃x,t.ins[n]? =some x:=⟨_,getElem?_eq_getElem az⟩
    have HX:=J hx
    obtain⟨cs,hcs⟩:∃cs,css[n]? =some cs:=⟨_,getElem?_eq_getElem (by rw[B.o.len];exact az)⟩
    obtain⟨ka,kc,aw,ad,ai⟩:=(B.o.old n x cs (le_refl _) hx hcs).now
    have au:=J ai
    have ar:=@J (css[n]? =some (inC x.from_ (.slice ka x.key.length kc))) (by rw[hcs,aw])
    have aj:=J ad
    obtain⟨g,aN,aJ,ay,aK⟩:=JB (f:=id) (by decide) B.o.c34 B.o.row ar.o
    cases aJ
    have GL:=J ((B.o.row.lt g rfl))
    have FZ:=J B.o.fr
    have AG:=J (AP.o g rfl)
    have NQ:=@J (G≠g) (λe=>AG.o.1 e.symm)
    have aq:=@J (wr.cell? ⟨G,1,none⟩=some (.slice (some ⟨g,0,none⟩) t.ins.length q)) (by
     have:=zq (FZ.o.obj BQ.o (λe=>by cases e;exact NQ.o rfl)) 1 _ rfl
     simpa using this)
    have CK:=@J (wr.cell? ⟨g,n*34+33,none⟩=some (.slice ka x.key.length kc)) ((zcO ay ad).2)
    have aH:=J (HI.o.2.2 x (mem_of_getElem? hx))
    have i2:(n:Int)<(t.ins.length:Int):=i1
    clear hx hcs aw ad ai ay aK
    go_wp2_with fail
    have ae:=J ((frN wr).drew)
    refine ym [ff,ff,ff,ff,ff,ff,ff,ff,ff,tt,ff,ff,tt] (λw'=>w'.cell? ⟨G,1,none⟩=some (.slice (some ⟨g,0,none⟩) t.ins.length q)∧w'.cell? ⟨g,n*34+33,none⟩=some (.slice ka x.key.length kc)) (by kernel_rfl) (by kernel_rfl) 12 (by kernel_rfl) (by kernel_rfl) ?_ (λK hK=>?_)
    ·exact⟨ae.o.cell aq.o _root_.id,ae.o.cell CK.o _root_.id⟩
    repeat((first|(refine z7 rfl ?_;constructor;constructor;(focus(first|(rintro w' ⟨s1,s2⟩;go_simp;(try with_reducible rfl);done))))|(refine ya rfl ?_));try simp only[Act.put,pA,pB,pC])
    (refine z6 rfl (λK' hK'=>?_))
    go_simp
    refine(Vb wr.drew (au.o.keep ae.o) (by have:=aH.o;omega)).mono ?_
    rintro e H ⟨kv,rfl,al,f4⟩
    obtain⟨L,M,aL⟩:=al.slice.arg.form
    subst aL
    have u:=J (ae.o.trans0 f4)
    have KO:=J al
    clear al f4
    refine hK'.out _ _ (λ_=>?_) (λhS=>?_)
    ·exact⟨u.o.cell aq.o _root_.id,u.o.cell CK.o _root_.id⟩
    try simp only[Act.put,pA,pB,pC]
    repeat((first|(refine z7 rfl ?_;constructor;constructor;(focus(first|(rintro w' ⟨s1,s2⟩;go_simp;(try with_reducible rfl);done))))|(refine ya rfl ?_));try simp only[Act.put,pA,pB,pC])
    have ag:=J (zb B.o.row u.o (λ_ _=>_root_.id))
    have fz:H.frozen? ⟨g,n*34+33,none⟩=false:=ag.o.frozenAt _
    have cz:=u.o.cell CK.o _root_.id
    have NK:=@J (n*34+33+1≤t.ins.length*34) (by omega)
    have fs:Fr (λj=>j=g) H (H.setCell ⟨g,n*34+33,none⟩ (.slice L x.key.length M)):=(Fr.refl (λj=>j=g) H).setCell _ (.inr rfl) _
    have FS:=J fs
    have aI:=@J (zhk (w.heap.size+2) G (some ⟨g,0,none⟩) q t wz (H.setCell ⟨g,n*34+33,none⟩ (.slice L x.key.length M)) (n+1) (css.set n (inC x.from_ (.slice L x.key.length M)))) (by
     refine⟨by rw[List.length_set];exact B.o.len,λcs hc=>?_,?_,λi d cs hi D y=>?_,λi d cs hi D y=>?_,?_⟩
     ·rcases List.mem_or_eq_of_mem_set hc with hc|rfl
      ·exact B.o.c34 cs hc
      ·exact vo aj.o _
     ·have D:=qY ag.o (n*34+33) (cs:=[.slice L x.key.length M]) (by have:=NK.o;simpa using this)
      have y:=Xm (r:=33) (v:=.slice L x.key.length M) (by decide) B.o.c34 ar.o
      rw[zgU aj.o] at y
      rw[←y]
      exact D
     ·by_cases hin:i=n
      ·subst hin
       rw[HX.o] at D
       cases D
       rw[List.getElem?_set_self (by have:=B.o.len;omega)] at y
       cases y
       have hk:=zbI KO.o au.o.1 (V:=λj=>j<w.heap.size+2∨(Value.slice (some ⟨g,0,none⟩) t.ins.length q).ownBlock=some j) (λj c=>by
        have h3:=FZ.o.size
        have h4:=FC.o.size
        have h5:=Z2.o
        have h6:=GL.o.2
        show j<wr.heap.size
        rcases c with c|c
        ·omega
        ·simp[Value.ownBlock] at c;omega)
       exact(hk.step (FS.o.mono (λj e=>.inr (by rw[e];rfl))) (λ_ _ h=>h)).imp (λw' _ h=>⟨L,M,rfl,aj.o,h⟩)
      ·rw[List.getElem?_set_ne (by omega)] at y
       exact((B.o.new i d cs (by omega) D y).step u.o.of0 (λ_ _ h=>h)).step (FS.o.mono (λj e=>.inr (by rw[e];rfl))) (λ_ _ h=>h)
     ·rw[List.getElem?_set_ne (by omega)] at y
      exact((B.o.old i d cs (by omega) D y).step u.o.of0 (λ_ _ h=>h)).step (FS.o.mono (λj e=>by rw[e];exact GL.o.1)) (λ_ _ h=>h)
     ·exact(FZ.o.trans0 u.o).trans FS.o (λj _ e=>by rw[e];rfl))
    clear fs
    (refine z6 rfl (λK' hK'=>?_))
    go_simp
    refine hK'.out _ _ (λh=>absurd rfl h) (λhS=>?_)
    refine xD (hK.out _ _ ?_)
    go_wp2_with fail
    go_roundw
    case rel=>exact⟨n+1,by go_num,by omega,_,aI.o⟩
    case measure=>simp[intOf];omega
   ·have aA:n=t.ins.length:=by omega
    have i1:¬(n:Int)<(t.ins.length:Int):=by omega
    have aF:=J aA
    have FZ:=J B.o.fr
    have aE:=J (FZ.o.obj BQ.o (λe=>(AP.o G e).1 rfl))
    have RU:=J (zq aE.o)
    have ao:=J (FZ.o.obj aD.o (λe=>by have:=(B.o.row.lt _ e).1;omega))
    have aG:=@J (∀V:Nat→Prop,(∀j,V j→j<w.heap.size+2)→Kept V wr (λw=>TxQ w t [.int .u32 t.ver,.slice A t.ins.length q,.slice N t.outs.length O])) (λV hV w' f=>by
     have k1:jN (w.heap.size+2) 108 34 InQ (λj=>j<w.heap.size+2) wr (.slice A t.ins.length q) t.ins css:=⟨B.o.row,B.o.len,B.o.c34,λi d cs D y=>B.o.new i d cs (by rw[aF.o];exact(List.getElem?_eq_some_iff.1 D).1) D y⟩
     have k2:=k1.rows (U:=V) (by decide) (by unfold maxLen;have:=L8.o;omega) (λj _ e=>hV j e) (λj c e=>by have:=(k1.lt j c).1;have:=hV j e;omega) w' f
     have k3:=XN (V:=V) (zb T.o FZ.o (λj c e=>(AP.o j e).2 c)) HO.o.1 hV w' f
     exact⟨A,q,N,O,rfl,HV.o,k2,k3⟩)
    clear aA
    have⟨K0,K1⟩:=tZ2
    go_wp2_with ((first|((with_reducible refine zt ?_);clear K0;refine zn1 rfl rfl rfl RU.o rfl ?_)|((with_reducible refine zv ?_);clear K1;refine zi rfl (zK (ty:=34) (b:=w.heap.size+1) (off:=0) (cs:=[.int .u32 t.ver,.slice A t.ins.length q,.slice N t.outs.length O]) rfl rfl rfl (zV ao.o (le_refl 3)) yZ (qM rfl rfl rfl)) ?_));go_frame)
    have BE:=ZL (cs:=[.int .u32 t.ver,.slice A t.ins.length q,.slice N t.outs.length O]) ao.o rfl
    have fE:=zu (w.heap.size+1) [.int .u32 t.ver,.slice A t.ins.length q,.slice N t.outs.length O] 0 wr
    refine bodyPost_ret (v:=.agg [.int .u32 t.ver,.slice A t.ins.length q,.slice N t.outs.length O].toArray) (results_cell_row (P:=prog) (fn:=Tryz.f49) rfl _ _ (w.heap.size+1) 34 _ (0,0) _ rfl BE Tryz.underlying34 rfl yZ) rfl ⟨_,rfl,?_,λV hV w' f=>aG.o (λj=>V j∨j=w.heap.size+1) (λj c=>by rcases c with c|c;have:=hV j c;omega;omega) w' ((fE.mono (λj c=>.inr c)).trans (f.mono (λj c=>.inl c)) (λ_ _ h=>h))⟩
    exact(((F2.o.trans0 FC.o).trans FZ.o (λj c e=>by have:=(B.o.row.lt _ e).1;omega))).trans fE (λi hi e=>by omega)
theorem zhe:prog.underlying 191=some (.slice 127):=by kernel_rfl
theorem zjA:(prog.info? 127).map (λi=>(i.zero,i.size,i.bytes))=some (some (.agg #[.int .u64 0,.int .i64 0]),2,16):=by kernel_rfl
theorem zhO:(prog.info? 127).map (λi=>(i.zero,i.size))=some (some (.agg #[.int .u64 0,.int .i64 0]),2):=by kernel_rfl
def vE (L:List yb) (U:List zd) (n:Nat):List yb:=(L.take n).filter λe=>decide (e.id∉U)
theorem zfJ {L:List yb} {U:List zd} {n:Nat} {e:yb} (h:L[n]? =some e):vE L U (n+1)=if e.id∈U then vE L U n else vE L U n++[e]:=by
 unfold vE
 rw[take_add_one,h,Option.toList_some,filter_append]
 by_cases hu:e.id∈U
 ·simp[hu]
 ·simp[hu]
theorem zhs (L:List yb) (U:List zd) (n:Nat):(vE L U n).length≤L.length:=by
 unfold vE
 have a:=List.length_filter_le (λe=>decide (yb.id e∉U)) (L.take n)
 have b:(L.take n).length≤L.length:=by rw[length_take];omega
 omega
section
variable {w0 w:World} {p ma ms g N:Nat} {VG X:Nat→Prop} {C:zd→List Value} {L:List yb}
theorem yn.mapLen (h:yn w0 w p ma ms g VG X C L N) {M:List (zd×List Value)} (l:qK w ma M) (i:∀x cs,(x,cs)∈M↔∃e∈L,e.id=x∧cs=C x):M.length=L.length:=by
 have j:=l.nodup
 have k:=h.nd
 have f:∀x,x∈M.map (·.1)↔x∈xq L:=λx=>by
  constructor
  ·intro a
   obtain⟨y,m,rfl⟩:=mem_map.1 a
   obtain⟨e,d,hi,_⟩:=(i y.1 y.2).1 m
   rw[←hi]
   exact mem_map.2 ⟨e,d,rfl⟩
  ·intro a
   obtain⟨e,d,rfl⟩:=mem_map.1 a
   exact mem_map.2 ⟨(e.id,C e.id),(i _ _).2 ⟨e,d,rfl,rfl⟩,rfl⟩
 have b:=qy j (λx a=>(f x).1 a)
 have c:=qy k (λx a=>(f x).2 a)
 rw[length_map] at b c
 unfold xq at b c
 rw[length_map] at b c
 omega
def V3 (w0 w:World) (p ma ms g:Nat) (VG X:Nat→Prop) (C:zd→List Value) (L:List yb) (N:Nat) (x:Int×Int) (ps:List zd) (e:Ending) (w':World):Prop:=
 ∃gv,e=.returned (.tuple #[gv,.int .i64 (JL L x ps)])∧∃VG',yn w0 w' p ma ms g VG' X C (xu L (vQ L x ps)) N∧Fr (poV p ma ms VG) w w'∧(∀j,VG' j→VG j)∧
  w'.ownsRow w.heap.size 41 32 gv (vQ L x ps).length ((vQ L x ps).flatMap zf)
theorem V3.none {w':World} {x:Int×Int} {ps:List zd} {c:Int} (h:yn w0 w p ma ms g VG X C L N) (b:JL L x ps=c) (a:vQ L x ps=[]) (f:Fr No w w'):V3 w0 w p ma ms g VG X C L N x ps (.returned (.tuple #[.slice none 0 0,.int .i64 c])) w':=
 ⟨_,by rw[b],VG,by rw[a,XH];exact h.fr0 f,f.of0,λ_ h=>h,by rw[a];exact World.ownsRow_nil _ _ _ _⟩
theorem zj2 (h:yn w0 w p ma ms g VG X C L N) (bE:N≤900) (aE:L.Pairwise λa b=>∀q∈zW a.tx,q∉zW b.tx) (aL:∀e∈L,e.tx.ins.length≤1000) (Z:∀e∈L,WOk (wgt e)) {x:Int×Int} (hx:WOk x) {v:Value} {ps:List zd} (hv:y3 w v ps) (bt:ps.length≤1000):
  Calls prog 48 #[.pointer (some ⟨p,0,none⟩),.agg (xA x).toArray,v] w (V3 w0 w p ma ms g VG X C L N x ps):=by
 obtain⟨dW,uW,rW⟩:=Vf
 have zh:=yR
 have m:=J h
 have HV:=J hv
 have AP:=J aE
 have a6:=J aL
 have aA:=J Z
 have HX:=J hx
 have LN:=J h.len
 have f1:Fr No w (w.alloc (.cells (xA x).toArray 127)):=(frN w).alloc _
 have F1:=J f1
 have RW:=J (zy w (xA x) 127)
 have c0:=(h.fr0 f1).cells.1
 have c2:=(h.fr0 f1).cells.2.2
 obtain⟨M,hM,hm⟩:=h.am
 have a7:=J (h.mapLen hM hm)
 have Y:=λty=>(hM.keep f1 id).lenRun X7 ty
 rw[a7.o] at Y
 have ai:=J Y
 have HM:=J hM
 have a8:=J hm
 clear h hv aE aL Z hx f1 hM hm Y
 by_cases h32:L.length<32
 ·have RE:=@J (JL L x ps=0∧vQ L x ps=[]) (⟨by unfold JL;rw[if_pos h32],by unfold vQ;rw[if_pos h32]⟩)
  have i1:(L.length:Int)<32:=by omega
  go_enter Tryz.func48,Tryz.ntmps48
  go_wp2_with (refine zg rfl (jb rfl rfl (ai.o _)) ?_)
  go_ret2
  exact V3.none m.o RE.o.1 RE.o.2 F1.o
 have i1:¬(L.length:Int)<32:=by omega
 have aS:=λw' (f:Fr No w w')=>zm3 (m.o.gr.fr0 f) (by omega) (HV.o.keep f) bt
 have ba:=J aS
 have aZ:=J (λw' (f:Fr No w w')=>ziT (m.o.gr.fr0 f) (by omega))
 have bl:=@J (∀y∈upS (gOf L) ps,zX y) (λy hy=>m.o.gr.okId y ((jL ps).subset hy))
 have UL:=@J ((upS (gOf L) ps).length≤1000) (by have:=qy (m.o.gr.gok.nd.sublist (jL ps)) (λx hx=>(jL ps).subset hx);rw[vn] at this;unfold xq at this;rw[length_map] at this;have:=LN.o;omega)
 have CD:=@J (vE L (upS (gOf L) ps) L.length=Y0 L ps) (by unfold vE Y0;rw[take_length])
 have bb:=@J ((ids (gOf L)).length=L.length) (by rw[vn];unfold xq;simp)
 have aj:=@J (∀r,YY L ps=r→JL L x ps=(match r with|none=>18|some e=>if Qw (wgt e) x<0 then 0 else 18)∧vQ L x ps=(match r with|none=>[]|some e=>if Qw (wgt e) x<0 then vl (gOf L) [e.id] else[])) (λr hr=>by
  unfold JL vQ
  rw[if_neg h32,if_neg h32,hr]
  exact⟨rfl,rfl⟩)
 have WP:=@J (YY L ps=(Zb ((Y0 L ps).map wgt) (Y0 L ps).length).bind λk=>(Y0 L ps)[k]?) (rfl)
 have iL:L.length≤900:=by have:=LN.o;omega
 clear aS h32
 generalize hU:upS (gOf L) ps=U at*
 go_enter Tryz.func48,Tryz.ntmps48
 have⟨H,K1,K2⟩:=tZ3
 go_wp2_with ((first|((with_reducible refine zt ?_);clear H;refine zg rfl (jb rfl rfl (ai.o _)) ?_;generalize bF:w.heap.size=qw at*;generalize bz:w.alloc (.cells (xA x).toArray 127)=w1 at*;clear bz)|(clear K1;go_at_call 87;refine(ba.o _ F1.o).mono ?_;rintro e w2 ⟨uv,rfl,o⟩;obtain⟨ua,uc,bu⟩:=o.1.slice.arg.form;subst bu;have aW:=J o.2;have F2:=J (F1.o.trans0 o.2);have UI:=J (y3.own o.1 bl.o);clear o;have bB:=(m.o.fr0 F2.o).cells.2.2)|(clear K2;go_at_call 55;refine(aZ.o _ F2.o).mono ?_;rintro e w3 ⟨av,rfl,o⟩;obtain⟨aa,ac,bp⟩:=o.1.slice.arg.form;subst bp;have ay:=J o.2;have F3:=J (F2.o.trans0 o.2);have AI:=J (y3.own o.1 (λy hy=>m.o.gr.okId y hy));clear o;have bk:=J (UI.o.keep ay.o)));go_frame)
 have H3:=J (m.o.fr0 F3.o)
 rw[bb.o]
 go_loopw [9,10,34] (λov wv iv wr=>∃n:Nat,iv=.int .i64 n∧n≤L.length∧∃ia ic wa wc,ov=.slice ia (vE L U n).length ic∧wv=.slice wa (vE L U n).length wc∧wr.ownsRow w3.heap.size 41 32 (.slice ia (vE L U n).length ic) (vE L U n).length (((vE L U n).map (·.id)).flatMap zf)∧wr.ownsRow w3.heap.size 127 2 (.slice wa (vE L U n).length wc) (vE L U n).length (((vE L U n).map wgt).flatMap xA)∧(∀j,(Value.slice ia (vE L U n).length ic).ownBlock=some j→(Value.slice wa (vE L U n).length wc).ownBlock=some j→False)∧Fr No w3 wr) (λ_ _ iv _=>L.length-(intOf iv).toNat)
 case atStart=>exact⟨0,rfl,zero_le _,none,0,none,0,rfl,rfl,World.ownsRow_nil _ _ _ _,World.ownsRow_nil _ _ _ _,λj h _=>(by cases h),Fr.refl _ _⟩
 case round=>
  obtain⟨n,rfl,hn,ia,ic,wa,wc,rfl,rfl,aM,Z,aG,aJ⟩:=hrel
  have FR:=J aJ
  have D:=J aM
  have WO:=J Z
  have DS:=J aG
  have CL:=J (zhs L U n)
  clear aJ aM Z aG
  by_cases bs:n<L.length
  ·have i2:(n:Int)<(L.length:Int):=by omega
   obtain⟨e,O⟩:∃e,L[n]? =some e:=⟨_,getElem?_eq_getElem bs⟩
   have V:(ids (gOf L))[n]? =some e.id:=by rw[vn];unfold xq;rw[getElem?_map,O];rfl
   obtain⟨b,off,bC,e0,hr,-⟩:=(AI.o.keep FR.o).at_ V
   injection e0 with e1 e2 e3
   subst e1
   have G:=J (AI.o.1 e.id (mem_of_getElem? V))
   have Q:=J (zx G.o)
   have R1:=J hr
   have RN:=J (zy wr (zf e.id) 41)
   have FA:=J ((frN wr).alloc (.cells (zf e.id).toArray 41))
   have ad:=J (YK _ (bk.o.keep (FR.o.trans0 FA.o)) (by have:=UL.o;omega) e.id G.o)
   have SN:=J (zfJ (U:=U) O)
   have ah:=J (mem_of_getElem? O)
   clear hr O V e2 e3
   by_cases hu:e.id∈U
   ·have du:decide (e.id∈U)=true:=decide_eq_true hu
    rw[du] at ad
    rw[if_pos hu] at SN
    clear hu du
    have⟨H,K1,K2,K3⟩:=tZ4
    go_wp2_with ((first|((with_reducible refine zt ?_);first|(clear H;refine zn3 rfl rfl rfl R1.o Q.o ?_)|(clear K2;refine zn3 rfl rfl rfl RN.o Q.o ?_))|((with_reducible refine zv ?_);clear K1;refine zob (w:=wr) (cs:=zf e.id) rfl rfl rfl rfl Q.o zS ?_)|(clear K3;go_at_call 88;refine ad.o.mono ?_;rintro e' w5 ⟨rfl,F⟩;have A:=J (FA.o.trans0 F);clear F));go_frame)
    go_roundw
    case rel=>exact⟨n+1,by go_num,by omega,ia,ic,wa,wc,by rw[SN.o],by rw[SN.o],by rw[SN.o];exact zb D.o A.o (λ_ _=>id),by rw[SN.o];exact zb WO.o A.o (λ_ _=>id),by rw[SN.o];exact DS.o,FR.o.trans0 A.o⟩
    case measure=>simp[intOf];omega
   ·have du:decide (e.id∈U)=false:=decide_eq_false hu
    rw[du] at ad
    rw[if_neg hu] at SN
    clear hu du
    obtain⟨ta,tc,oa,oc,aF⟩:=(H3.o.data e ah.o).now.form
    have ak:YH C L e.id=[.int .u32 e.tx.ver,.slice ta e.tx.ins.length tc,.slice oa e.tx.outs.length oc,.int .u64 e.fee,.int .i64 e.size,.int .u64 e.added]:=by
     unfold YH
     rw[if_pos (show e.id∈xq L from mem_map.2 ⟨e,ah.o,rfl⟩),aF]
    have LK:=J (λw' (h':qK w' ma M)=>Ys (w:=w') G.o h' a8.o ak)
    clear aF ak
    have⟨H,K1,K2,K3,K4,K5,K6⟩:=tZ7
    go_wp2_with ((first|((with_reducible refine zt ?_);first|(clear H;refine zn3 rfl rfl rfl R1.o Q.o ?_)|(clear K2;refine zn3 rfl rfl rfl RN.o Q.o ?_)|(clear K4;refine zn3 rfl rfl rfl aC.o Q.o ?_)|(clear K5;refine zg rfl (zU (t:=38) rfl rfl qi vU rfl (by decide) (by decide) Q.o) ?_)|(clear K6;at_builtin;refine zR rfl rfl rfl rfl A1.o ?_))|((with_reducible refine zv ?_);clear K1;refine zob (w:=wr) (cs:=zf e.id) rfl rfl rfl rfl Q.o zS ?_;generalize aP:wr.heap.size=qx at*)|(clear K3;go_at_call 88;refine ad.o.mono ?_;rintro e' w5 ⟨rfl,F⟩;have A:=J (FA.o.trans0 F);have aC:=J (za RN.o F id);clear F;obtain⟨v6,w6,a1,a2,a3,-,a5⟩:=yX (P:=prog) w5 w3.heap.size 38 38 41 32 32 _ qi qI rfl (by decide) (zb D.o A.o (λ_ _=>id)) (zf e.id) Q.o zS (by have:=CL.o;omega) (by have:=CL.o;unfold maxLen;omega) (by have:=FR.o.size;have:=A.o.size;omega);obtain⟨au,aw,bx⟩:=a2.slice.arg.form;subst bx;have A1:=J a1;have A2:=J a2;have A3:=J a3;have A5:=J a5;clear a1 a2 a3 a5));go_frame)
    have NI:=@J (∀j,(Value.slice ia (vE L U n).length ic).ownBlock=some j→w3.heap.size≤j∧j<qx) (λj s=>⟨(D.o.lt j s).1,by rw[←aP];exact(D.o.lt j s).2⟩)
    have NW:=@J (∀j,(Value.slice wa (vE L U n).length wc).ownBlock=some j→w3.heap.size≤j∧j<qx) (λj s=>⟨(WO.o.lt j s).1,by rw[←aP];exact(WO.o.lt j s).2⟩)
    have aX:=@J (Fr No w3 w6) ((FR.o.trans0 A.o).trans A3.o (λi hi e=>by have:=(NI.o i e).1;omega))
    have bh:=J (za aC.o A3.o (λe=>by have:=(NI.o _ e).2;omega))
    have bn:=J (zb (zb WO.o A.o (λ_ _=>id)) A3.o (λj s e=>DS.o j e s))
    have FD:=J ((frN w6).drew)
    have ab:=J (aX.o.trans0 FD.o)
    have u:=J (H3.o.fr0 ab.o)
    have ao:=J (za bh.o FD.o id)
    have az:=J (HM.o.keep (F3.o.trans0 ab.o) id)
    have bo:=J (zb bn.o FD.o (λ_ _=>id))
    have ax:=J (zb A2.o FD.o (λ_ _=>id))
    have D6:=@J (∀j,(Value.slice au ((vE L U n).length+1) aw).ownBlock=some j→(Value.slice wa (vE L U n).length wc).ownBlock=some j→False) (λj h1 h2=>by
     rcases A5.o j h1 with h|h
     ·exact DS.o j h h2
     ·have:=(NW.o j h2).2;have:=A.o.size;omega)
    refine wrLx [ff,ff,ff,ff,ff,ff,ff,ff,tt,tt,ff] (λw'=>w'.cell? ⟨p,0,none⟩=some (.map (some ma))∧w'.rangeAt qx 0 (zf e.id)∧qK w' ma M) ?_ (λK hK=>?_)
    ·exact⟨u.o.cells.1,ao.o,az.o⟩
    generalize w6.drew=w7 at*
    obtain⟨v8,w8,b1,b2,b3,-,b5⟩:=yX (P:=prog) w7 w3.heap.size 191 191 127 2 16 _ zhe zjA rfl (by decide) bo.o (xA (wgt e)) rfl VS (by have:=CL.o;omega) (by have:=CL.o;unfold maxLen;omega) ab.o.size
    obtain⟨aT,aU,ag⟩:=b2.slice.arg.form
    subst ag
    have B1:=J b1
    have B2:=J b2
    have B3:=J b3
    have B5:=J b5
    clear b1 b2 b3 b5
    have al:=@J (Fr No w3 w8) (ab.o.trans B3.o (λi hi e=>by have:=(NW.o i e).1;omega))
    have bj:=J (za ao.o B3.o (λe=>by have:=(NW.o _ e).2;omega))
    have I8:=J (zb ax.o B3.o (λj s e=>D6.o j s e))
    have D8:=@J (∀j,(Value.slice au ((vE L U n).length+1) aw).ownBlock=some j→(Value.slice aT ((vE L U n).length+1) aU).ownBlock=some j→False) (λj h1 h2=>by
     rcases B5.o j h2 with h|h
     ·exact D6.o j h1 h
     ·have:=(ax.o.lt j h1).2;omega)
    repeat((first|(refine zj rfl ?_;constructor;constructor;(focus(first|exact zn7 rfl (λw h=>h.2.1) Q.o|exact λw' h=>zQ (t:=133) rfl rfl rfl (LK.o w' h.2.2)|exact λw' _=>vT (t:=129) (f:=1) rfl rfl (zlY e.tx.ver ta oa e.tx.ins.length tc e.tx.outs.length oc e.fee e.size e.added w')|(rintro w' ⟨s1,s2,s3⟩;go_simp;(try with_reducible rfl);done))))|(refine zl rfl ?_));try simp only[Act.put,pA,pB,pC])
    (refine zE rfl (λK' hK'=>?_))
    refine yj (zU (t:=191) (cs:=xA (wgt e)) rfl rfl zhe zhO rfl (by decide) (by decide) rfl) ?_
    have FB:=J ((frN w7).alloc (.cells (xA (wgt e)).toArray 127))
    refine nXt hK' ?_ λhS=>?_
    ·exact⟨FB.o.cell u.o.cells.1 id,za ao.o FB.o id,az.o.keep FB.o id⟩
    try simp only[Act.put,pA,pB,pC]
    (refine zE rfl (λK' hK'=>?_))
    refine yw rfl rfl rfl B1.o ?_
    refine nXt hK' ?_ λhS=>?_
    ·exact⟨(H3.o.fr0 al.o).cells.1,bj.o,HM.o.keep (F3.o.trans0 al.o) id⟩
    try simp only[Act.put,pA,pB,pC]
    repeat((first|(refine zj rfl ?_;constructor;constructor;(focus(first|(rintro w' -;go_simp;(try with_reducible rfl);done))))|(refine zl rfl ?_));try simp only[Act.put,pA,pB,pC])
    refine zL (hK.out _ _ ?_)
    have T:=@J ((vE L U (n+1)).length=(vE L U n).length+1) (by rw[SN.o];simp)
    go_wp2_with fail
    go_roundw
    case rel=>exact⟨n+1,by go_num,by omega,au,aw,aT,aU,by rw[T.o],by rw[T.o],by rw[T.o,SN.o,List.map_append,List.flatMap_append];simpa using I8.o,by rw[T.o,SN.o,List.map_append,List.flatMap_append];simpa using B2.o,by rw[T.o];exact D8.o,al.o⟩
    case measure=>simp[intOf];omega
  ·have aO:n=L.length:=by omega
   have i2:¬(n:Int)<(L.length:Int):=by omega
   have CE:=@J (vE L U n=Y0 L ps) (by rw[aO];exact CD.o)
   clear aO
   rw[CE.o]
   rw[CE.o] at D WO
   generalize hK:Y0 L ps=K at*
   have KM:=@J (∀e∈K,e∈L∧e.id∉U) (λe O=>by
    rw[←hK] at O
    unfold Y0 at O
    rw[hU] at O
    simpa using O)
   have KL:=@J (K.length≤900) (by have:=CL.o;rw[CE.o] at this;omega)
   have WI:=@J (Qr wr (.slice wa K.length wc) (K.map wgt)) (⟨λy hy=>by
    obtain⟨e,O,rfl⟩:=mem_map.1 hy
    exact aA.o e (KM.o e O).1,by rw[length_map];exact WO.o.slice.arg⟩)
   have II:=@J (y3 wr (.slice ia K.length ic) (K.map (·.id))) (⟨λy hy=>by
    obtain⟨e,O,rfl⟩:=mem_map.1 hy
    exact m.o.ids _ (mem_map.2 ⟨e,(KM.o e O).1,rfl⟩),by rw[length_map];exact D.o.slice.arg⟩)
   have ar:=ziG wr WI.o (by rw[length_map];have:=KL.o;omega)
   rw[length_map] at ar
   have S:=J ar
   have af:=J (za RW.o ((aW.o.trans0 ay.o).trans0 FR.o) id)
   clear ar hK
   have an:=J (F3.o.trans0 FR.o)
   cases hw:Zb (K.map wgt) K.length with
   |none=>
    have RE:=J (aj.o none (by rw[WP.o,hw];rfl))
    have WN:Za (K.map wgt) K.length= -1:=by unfold Za;rw[hw]
    rw[WN] at S
    clear hw WN
    have H:=tru
    go_wp2_with (clear H;go_at_call 89;refine S.o.mono ?_;rintro e w5 ⟨rfl,F⟩;have A:=J F;clear F;go_frame)
    refine wrLx [ff,ff,ff,ff,ff,ff,ff,ff,tt,ff,ff] (λ_=>True) ?_ (λK hK=>?_)
    ·trivial
    repeat((first|(refine zj rfl ?_;constructor;constructor;(focus(first|(rintro w' -;go_simp;(try with_reducible rfl);done))))|(refine zl rfl ?_));try simp only[Act.put,pA,pB,pC])
    refine zL (hK.out _ _ ?_)
    go_wp2_with fail
    go_ret2
    exact V3.none m.o RE.o.1 RE.o.2 ((an.o.trans0 A.o).drew)
   |some k=>
    have hk:=zaB _ _ k hw
    obtain⟨d,W⟩:∃d,K[k]? =some d:=⟨_,getElem?_eq_getElem hk⟩
    have RE:=J (aj.o (some d) (by rw[WP.o,hw];exact W))
    have WN:Za (K.map wgt) K.length=k:=by unfold Za;rw[hw]
    rw[WN] at S
    have EK:=J (KM.o d (mem_of_getElem? W))
    have G:=J (m.o.ids d.id (mem_map.2 ⟨d,EK.o.1,rfl⟩))
    have Q:=J (zx G.o)
    obtain⟨bw,ow,cw,e0,aR,-⟩:=WI.o.at_ (i:=k) (c:=wgt d) (by rw[getElem?_map,W];rfl)
    injection e0 with e1 e2 e3
    subst e1
    obtain⟨bi,oi,ci,e4,aQ,bq⟩:=II.o.at_ (i:=k) (c:=d.id) (by rw[getElem?_map,W];rfl)
    injection e4 with e5 e6 e7
    subst e5
    have ae:=J aR
    have bg:=J aQ
    have bc:=@J (w3.heap.size≤bi) ((D.o.lt bi rfl).1)
    have i5:¬(k:Int)<0:=by omega
    have i6:(k:Int)<(K.length:Int):=by omega
    have LS:=J (λw=>zjF (aA.o d EK.o.1) HX.o w)
    clear hw WN W aR aQ e2 e3 e6 e7 bq
    by_cases hc:Qw (wgt d) x<0
    ·have I:=@J (JL L x ps=0∧vQ L x ps=vl (gOf L) [d.id]) (⟨by rw[RE.o.1];exact if_pos hc,by rw[RE.o.2];exact if_pos hc⟩)
     rw[decide_eq_true hc] at LS
     clear hc
     have H:=tru
     go_wp2_with (clear H;go_at_call 89;refine S.o.mono ?_;rintro e w5 ⟨rfl,F⟩;have A:=J F;clear F;go_frame)
     have B:=J (A.o.drew)
     refine wrLx [ff,ff,ff,ff,ff,ff,ff,ff,tt,ff,ff] (λw'=>w'.rangeAt bw (ow+k*2) (xA (wgt d))∧w'.rangeAt qw 0 (xA x)) ?_ (λK hK=>?_)
     ·exact⟨za ae.o B.o id,za af.o B.o id⟩
     generalize w5.drew=bA at*
     repeat((first|(refine zj rfl ?_;constructor;constructor;(focus(first|exact yK (ty:=127) rfl (λw h=>h.1) uW rW (show _=some (xA (wgt d)).length from qn)|exact yK (ty:=127) rfl (λw h=>h.2) uW rW (show _=some (xA x).length from qn)|(rintro w' ⟨s1,s2⟩;go_simp;(try with_reducible rfl);done))))|(refine zl rfl ?_));try simp only[Act.put,pA,pB,pC])
     (refine zE rfl (λK' hK'=>?_))
     go_simp
     refine(LS.o _).mono ?_
     rintro e w6 ⟨rfl,f6⟩
     have z:=J (B.o.trans0 f6)
     clear f6
     refine nXt hK' ?_ λhS=>?_
     ·exact⟨za ae.o z.o id,za af.o z.o id⟩
     try simp only[Act.put,pA,pB,pC]
     repeat((first|(refine zj rfl ?_;constructor;constructor;(focus(first|(rintro w' ⟨s1,s2⟩;go_simp;(try with_reducible rfl);done))))|(refine zl rfl ?_));try simp only[Act.put,pA,pB,pC])
     refine zL (hK.out _ _ ?_)
     have F6:=J (an.o.trans0 z.o)
     have bd:=J (za bg.o z.o id)
     have bm:=@J (∀j,VG j→j<w.heap.size) (m.o.gr.hi)
     go_wp2_with fail
     have F7:=J ((frN w6).drew)
     have R:=J (F6.o.trans0 F7.o)
     have u:=J (m.o.fr0 R.o)
     have aB:=J (za bd.o F7.o id)
     refine wrLx [ff,ff,ff,ff,ff,ff,ff,ff,tt,ff,ff,ff,ff,ff] (λw'=>w'.cell? ⟨p,2,none⟩=some (.pointer (some ⟨g,0,none⟩))∧w'.rangeAt bi (oi+k*32) (zf d.id)) ?_ (λK hK=>?_)
     ·exact⟨u.o.cells.2.2,aB.o⟩
     generalize w6.drew=w7 at*
     repeat((first|(refine zj rfl ?_;constructor;constructor;(focus(first|exact zn7 rfl (λw h=>h.2) Q.o|(rintro w' ⟨s1,s2⟩;go_simp;(try with_reducible rfl);done))))|(refine zl rfl ?_));try simp only[Act.put,pA,pB,pC])
     (refine zE rfl (λK' hK'=>?_))
     go_simp
     refine(zmv u.o.gr (by omega) G.o).mono ?_
     rintro e' w8 ⟨gv,rfl,V8,aK,aH,ag,aq⟩
     obtain⟨ga,gc,br⟩:=aq.slice.arg.form
     subst br
     have aY:=@J (d.id∈ids (gOf L)) (by rw[vn];exact mem_map.2 ⟨d,EK.o.1,rfl⟩)
     have G8:=J aK
     have F8:=J aH
     have E:=J ag
     have O8:=J aq
     clear aK aH ag aq
     rw[if_pos aY.o]
     have c8:=J (F8.o.cell u.o.cells.2.2 u.o.apart.2.2.2.1)
     have bf:=J (za aB.o F8.o (λe=>by have:=bm.o _ e;have:=bc.o;have:=F3.o.size;omega))
     refine nXt hK' ?_ λhS=>?_
     ·exact⟨c8.o,bf.o⟩
     try simp only[Act.put,pA,pB,pC]
     repeat((first|(refine zj rfl ?_;constructor;constructor;(focus(first|(rintro w' ⟨s1,s2⟩;go_simp;(try with_reducible rfl);done))))|(refine zl rfl ?_));try simp only[Act.put,pA,pB,pC])
     refine zL (hK.out _ _ ?_)
     have M8:=@J (JU w0 w8 p ma ms g X C L) (u.o.m.frV F8.o ⟨u.o.apart.2.2.2.1,u.o.apart.2.2.2.2.1,u.o.apart.2.2.2.2.2⟩ u.o.gr.lo (λj s=>u.o.sub j (.inr (.inr (.inr s)))) (λ_ _ h=>h) u.o.m.subX)
     have MW:=@J (ma<w.heap.size∧ms<w.heap.size) (⟨m.o.hi ma (.inr (.inl rfl)),m.o.hi ms (.inr (.inr (.inl rfl)))⟩)
     have aV:=@J (∀y∈vl (gOf L) [d.id],zX y) (λy hy=>m.o.gr.okId y ((vm [d.id]).subset hy))
     have DL:=@J ((vl (gOf L) [d.id]).length≤100000) (by have:=qy (m.o.gr.gok.nd.sublist (vm [d.id])) (λx hx=>(vm [d.id]).subset hx);rw[vn] at this;unfold xq at this;rw[length_map] at this;omega)
     have HD:=J (zmw M8.o AP.o m.o.nd a6.o (v:=.slice ga (vl (gOf L) [d.id]).length gc) (l:=vl (gOf L) [d.id]) (λw' f=>y3.own (zb O8.o f (λj s e=>by have:=(O8.o.lt j s).1;have:=R.o.size;have:=MW.o;rcases e with e|e<;>omega)) aV.o) (λy hy=>by rw[←vn];exact(vm [d.id]).subset hy) (m.o.gr.gok.nd.sublist (vm [d.id])) DL.o)
     have aD:=J (zcF m.o.gr.gok [d.id])
     rw[zep aD.o] at G8
     generalize bD:vl (gOf L) [d.id]=DD at*
     have H:=tru
     go_wp2_with (clear H;go_at_call 92;refine HD.o.mono ?_;rintro e' w9 ⟨rfl,aN,aI⟩;have M9:=J aN;have F9:=J aI;clear aN aI;go_frame)
     go_ret2
     refine⟨_,by rw[I.o.1];rfl,V8,?_,?_,E.o,?_⟩
     ·rw[I.o.2]
      exact M9.o.at_ (G8.o.frV F9.o (λj s e=>by rcases e with e|e;(rw[e] at s;exact u.o.apart.2.2.2.2.1 (E.o _ s));(rw[e] at s;exact u.o.apart.2.2.2.2.2 (E.o _ s))) (λj e=>by have:=m.o.lo3;rcases e with e|e<;>omega)) ⟨λe=>u.o.apart.2.2.2.1 (E.o _ e),λe=>u.o.apart.2.2.2.2.1 (E.o _ e),λe=>u.o.apart.2.2.2.2.2 (E.o _ e)⟩ (λj s=>m.o.sub j (s.imp_right (λh=>h.imp_right (λh=>h.imp_right (E.o j)))))
     ·exact(R.o.of0.trans F8.o (λj _ e=>.inr (.inr (.inr e)))).trans F9.o (λj _ e=>by rcases e with e|e;exact .inr (.inl e);exact .inr (.inr (.inl e)))
     ·rw[I.o.2]
      exact xj (zb O8.o F9.o (λj s e=>by have:=(O8.o.lt j s).1;have:=R.o.size;have:=MW.o;rcases e with e|e<;>omega)) R.o.size
    ·have I:=@J (JL L x ps=18∧vQ L x ps=[]) (⟨by rw[RE.o.1];exact if_neg hc,by rw[RE.o.2];exact if_neg hc⟩)
     rw[decide_eq_false hc] at LS
     clear hc
     have H:=tru
     go_wp2_with (clear H;go_at_call 89;refine S.o.mono ?_;rintro e w5 ⟨rfl,F⟩;have A:=J F;clear F;go_frame)
     have B:=J (A.o.drew)
     refine wrLx [ff,ff,ff,ff,ff,ff,ff,ff,tt,ff,ff] (λw'=>w'.rangeAt bw (ow+k*2) (xA (wgt d))∧w'.rangeAt qw 0 (xA x)) ?_ (λK hK=>?_)
     ·exact⟨za ae.o B.o id,za af.o B.o id⟩
     generalize w5.drew=bA at*
     repeat((first|(refine zj rfl ?_;constructor;constructor;(focus(first|exact yK (ty:=127) rfl (λw h=>h.1) uW rW (show _=some (xA (wgt d)).length from qn)|exact yK (ty:=127) rfl (λw h=>h.2) uW rW (show _=some (xA x).length from qn)|(rintro w' ⟨s1,s2⟩;go_simp;(try with_reducible rfl);done))))|(refine zl rfl ?_));try simp only[Act.put,pA,pB,pC])
     (refine zE rfl (λK' hK'=>?_))
     go_simp
     refine(LS.o _).mono ?_
     rintro e w6 ⟨rfl,f6⟩
     have z:=J (B.o.trans0 f6)
     clear f6
     refine nXt hK' ?_ λhS=>?_
     ·exact⟨za ae.o z.o id,za af.o z.o id⟩
     try simp only[Act.put,pA,pB,pC]
     repeat((first|(refine zj rfl ?_;constructor;constructor;(focus(first|(rintro w' ⟨s1,s2⟩;go_simp;(try with_reducible rfl);done))))|(refine zl rfl ?_));try simp only[Act.put,pA,pB,pC])
     refine zL (hK.out _ _ ?_)
     have F6:=J (an.o.trans0 z.o)
     go_wp2_with fail
     go_ret2
     exact V3.none m.o I.o.1 I.o.2 F6.o
end
theorem zj3 {L:List yb} {x:Int×Int} {ps:List zd} (h:JL L x ps≠0):vQ L x ps=[]:=by
 unfold JL at h
 unfold vQ
 by_cases h1:L.length<32
 ·rw[if_pos h1] at h;exact absurd rfl h
 ·rw[if_neg h1] at h⊢
  cases hw:YY L ps with
  |none=>rfl
  |some e=>
   rw[hw] at h
   simp only at h⊢
   by_cases h2:Qw (wgt e) x<0
   ·rw[if_pos h2] at h;exact absurd rfl h
   ·rw[if_neg h2]
theorem vP.wok {S:List zr} {I:List zd} {L:List yb} (n:vP S I L) (hS:∀c∈S,c.ok) (f:∀e∈L,∀x∈e.tx.outs,x.ok):∀e∈L,WOk (wgt e):=by
 induction n with
 |nil=>simp
 |@snoc A e hA hc hl he ih=>
  intro x d
  have b:∀e∈A,∀x∈e.tx.outs,x.ok:=λa l=>f a (by simp[l])
  rcases mem_append.1 d with d|d
  ·exact ih b x d
  ·obtain rfl:=mem_singleton.1 d
   obtain⟨-,-,h,i⟩:=zdI he
   have m:∀y∈xR S A x.tx,y.ok:=λy o=>by
    obtain⟨q,r,rfl⟩:=mem_map.1 o
    unfold qQ
    split
    ·exact vH hS q
    ·exact Yp b q
   have j:=za5 (t:=x.tx) m (f x (by simp))
   have k:=Xu (JM hc).1
   unfold WOk wgt
   rw[h,i]
   exact⟨j,k.1,by omega⟩
theorem vP.ins8 {S:List zr} {I:List zd} {L:List yb} (b:vP S I L):∀e∈L,e.tx.ins.length≤8:=λe a=>(y5.1 (JM (b.ent e a).1).1).2.1
theorem zlf {L:List yb} (h:∀e∈L,e.tx.ins.length≤8):(L.flatMap λe=>zW e.tx).length≤8*L.length:=by
 induction L with
 |nil=>simp
 |cons e l ih=>
  have b:=ih (λx a=>h x (.tail _ a))
  have c:=h e (.head _)
  rw[List.flatMap_cons,List.length_append,vJ,List.length_cons]
  omega
theorem zls {w:World} {q:Nat} {T:TypeId} {a b c d e f x y z:Value} (h:w.heap[q]? =some (.cells #[a,b,c,d,e,f] T (0,0))):(w.setCells q 0 [x,y,z]).heap[q]? =some (.cells #[x,y,z,d,e,f] T (0,0)):=by
 have i:=heap_setCell_same w q 0 _ _ x h
 have j:=heap_setCell_same _ q 1 _ _ y i
 have k:=heap_setCell_same _ q 2 _ _ z j
 simpa[World.setCells] using k
def zd9 (w0 w:World) (p ma ms g:Nat) (VG X:Nat→Prop) (S:List zr) (I:List zd) (L:List yb) (t:TxD) (now:Int) (N:Nat) (e:Ending) (w':World):Prop:=
 ∃gv,e=.returned (.tuple #[gv,.int .i64 (Zg S I L t)])∧(∃VG' C',yn w0 w' p ma ms g VG' (λj=>X j∨VG' j) C' (Zh S I L t now) (N+1)∧Fr (poV p ma ms VG) w w'∧∀j,VG' j→VG j∨w.heap.size≤j)∧
  w'.ownsRow w.heap.size 41 32 gv (Qs S I L t).length ((Qs S I L t).flatMap zf)
section
variable {w0 w:World} {p ma ms g N:Nat} {VG X:Nat→Prop} {C:zd→List Value} {L:List yb} {S:List zr} {I:List zd}
theorem zd9.bad {w':World} {t:TxD} {now:Int} {c:Int} (h:yn w0 w p ma ms g VG X C L N) (d:Zg S I L t=c) (l:c≠0) (f:Fr No w w'):zd9 w0 w p ma ms g VG X S I L t now N (.returned (.tuple #[.slice none 0 0,.int .i64 c])) w':=by
 have b:Zg S I L t≠0:=by rw[d];exact l
 have k:Zh S I L t now=L:=by unfold Zh;rw[if_neg b]
 have i:Qs S I L t=[]:=by unfold Qs;rw[if_neg b]
 refine⟨_,by rw[d],⟨VG,C,?_,f.of0,λj a=>.inl a⟩,by rw[i];exact World.ownsRow_nil _ _ _ _⟩
 rw[k]
 exact((h.mono (Nat.le_succ N)).frV f (λ_ _=>id) (λ_ h=>h.elim) (λ_ h=>h.elim) (λj _ a=>a.elim id (λe=>h.sub j (.inr (.inr (.inr e))))) (λj a=>.inl (h.sub j a)))
theorem zef (hg:vj w) (h:yn w0 w p ma ms g VG X C L N) (dc:N≤800) (hX:∀j,X j→j<w.heap.size) (hv:vP S I L) (cW:L.length≤32) {w1:World} {pc:Nat} {VC:Nat→Prop} {bs:List yx} (hc:Cn w1 w pc VC S bs I) (hS:∀c∈S,c.ok) {t:TxD} {cs:List Value} (ht:Kept X w (λw=>TxQ w t cs)) {now:Nat} (c9:now<18446744073709551616):
  Calls prog 16 #[.pointer (some ⟨p,0,none⟩),.pointer (some ⟨pc,0,none⟩),.agg cs.toArray,.int .u64 now] w (zd9 w0 w p ma ms g VG X S I L t now N):=by
 obtain⟨dE,uE,rE⟩:=zgP
 obtain⟨dW,uW,rW⟩:=Vf
 have ze:=show ∀w,(zeroValue 129).run prog w=.ok (.agg vx.toArray) w from VU
 have zh:=yR
 have zp:=vO
 obtain⟨ia,ic,oa,oc,rfl⟩:=ht.now.form
 have f1:Fr No w (w.alloc (.cells #[.int .u32 t.ver,.slice ia t.ins.length ic,.slice oa t.outs.length oc] 34)):=(frN w).alloc _
 have F1:=J f1
 have R1:=J (qN w t.ver (.slice ia t.ins.length ic) (.slice oa t.outs.length oc)).2.2.2
 have HT:=J ht
 have HG:=J hg
 have H:=J h
 have H1:=@J (yn w0 w p ma ms g VG (λj=>X j∨w.heap.size≤j) C L N) (h.frV (frN w) (λ_ _=>id) (λ_ h=>h.elim) (λ_ h=>h.elim) (λj a e=>e.resolve_right (by omega)) (λj a=>.inl (h.sub j a)))
 have HC:=J hc
 have HS:=J hS
 have ba:=J hv
 have cT:=J hX
 have an:=J (XE _ ((HT.o.same F1.o.of0).now))
 have aL:=J (λw' (f:Fr No w w')=>Qz (HG.o.keep0 f) (HT.o w' f.of0))
 clear f1 ht hg h hc hS hv hX
 show Calls prog 16 #[.pointer (some ⟨p,0,none⟩),.pointer (some ⟨pc,0,none⟩),.agg #[.int .u32 t.ver,.slice ia t.ins.length ic,.slice oa t.outs.length oc],.int .u64 now] w _
 by_cases c1:yF t=0
 rotate_left
 ·have LE:=@J (Zg S I L t=yF t) (by unfold Zg;rw[if_pos c1])
  have je:(yF t==0)=false:=by simpa using c1
  have NE:=J c1
  clear c1
  go_enter Tryz.func16,Tryz.ntmps16
  have⟨K0,K1⟩:=tZ2
  go_wp2_with ((first|((with_reducible refine zt ?_);clear K0;refine zn1 rfl rfl rfl R1.o rfl ?_;generalize aj:w.heap.size=B at*;generalize P:w.alloc (.cells #[.int .u32 t.ver,.slice ia t.ins.length ic,.slice oa t.outs.length oc] 34)=wa at*;have Z1:=@J (B<wa.heap.size) (by rw[←P,←aj];simp);clear P)|(clear K1;go_at_call 32;refine an.o.mono ?_;rintro e w3 ⟨rfl,f3⟩;have F3:=J (F1.o.trans0 f3);have R3:=J (za R1.o f3 id);have Z3:=@J (B<w3.heap.size) (by have:=Z1.o;have:=f3.size;omega);clear f3;have ao:=J (aL.o _ F3.o)));go_frame)
  go_ret2
  exact zd9.bad H.o LE.o NE.o F3.o
 unfold ju at an
 rw[c1] at an
 have FM:=J (JM c1).1
 have a6:=J c1
 have bb:=@J (idE t=0) (by unfold idE;rw[if_pos FM.o])
 have bp:=J (vG t)
 have XL:=J (zx bp.o)
 by_cases c2:qP S I L t=0
 rotate_left
 ·have LE:=@J (Zg S I L t=qP S I L t) (by unfold Zg;rw[if_neg (by simp[c1]),if_pos c2])
  have je:(qP S I L t==0)=false:=by simpa using c2
  have NE:=J c2
  clear c1 c2
  go_enter Tryz.func16,Tryz.ntmps16
  have⟨K0,K1,K2,K3,K4,K5,K6,K7,K8⟩:=tZ9
  go_wp2_with ((first|((with_reducible refine zt ?_);first|(clear K0;refine zn1 rfl rfl rfl R1.o rfl ?_;generalize aj:w.heap.size=B at*;generalize P:w.alloc (.cells #[.int .u32 t.ver,.slice ia t.ins.length ic,.slice oa t.outs.length oc] 34)=wa at*;have Z1:=@J (B<wa.heap.size) (by rw[←P,←aj];simp);clear P)|(clear K2;refine zn1 rfl rfl rfl R3.o rfl ?_)|(clear K5;refine zn3 rfl rfl rfl RH.o XL.o ?_)|(clear K6;refine zn1 rfl rfl rfl R5.o rfl ?_))|(clear K1;go_at_call 32;refine an.o.mono ?_;rintro e w3 ⟨rfl,f3⟩;have F3:=J (F1.o.trans0 f3);have R3:=J (za R1.o f3 id);have Z3:=@J (B<w3.heap.size) (by have:=Z1.o;have:=f3.size;omega);clear f3;have ao:=J (aL.o _ F3.o))|(clear K3;go_at_call 15;refine ao.o.mono ?_;rintro e w4 ⟨rfl,f4⟩;rw[bb.o];have F4:=J (F3.o.trans0 f4);have R4:=J (za R3.o f4 id);have Z4:=@J (B<w4.heap.size) (by have:=Z3.o;have:=f4.size;omega);clear f4;have RH:=J (zy w4 (zf (idH t)) 41);have ad:=J ((frN w4).alloc (.cells (zf (idH t)).toArray 41)))|(clear K7;go_at_call 47;refine ay.o.mono ?_;rintro e Q ⟨l,pv,rfl,f6,O,aH⟩;have EO:=J O.2;have EL:=J O.1;clear aH;have F6:=J (F5.o.trans0 f6);have R6:=J (za R5.o f6 id);have aA:=J (za RH.o f6 id);have Z6:=@J (qh<Q.heap.size) (by have:=Z5.o;have:=f6.size;omega);clear f6 O;have RE:=J (zy Q l 129);have A:=J ((frN Q).alloc (.cells l.toArray 129));have BE:=J (ye Q (.cells l.toArray 129)))|((with_reducible refine zv ?_);first|(clear K4;refine zob (w:=w4) (cs:=zf (idH t)) rfl rfl rfl rfl XL.o zS ?_;generalize aC:w4.heap.size=qh at*;generalize af:w4.alloc (.cells (zf (idH t)).toArray 41)=w5 at*;have Z5:=@J (qh<w5.heap.size) (by rw[←af,←aC];simp);clear af;have F5:=J (F4.o.trans0 ad.o);have R5:=J (za R4.o ad.o id);have ay:=J (zbO (HG.o.keep0 F5.o) (H1.o.fr0 F5.o) (by omega) (HC.o.fr0 F5.o) HS.o (HT.o w5 F5.o.of0) a6.o))|(clear K8;refine zi rfl (zm (w:=Q) (ty:=129) (cs:=l) rfl rfl rfl (by rw[EL.o];rfl) (by rw[EL.o];exact qm) EO.o) ?_;generalize ak:Q.heap.size=E at*;generalize ag:Q.alloc (.cells l.toArray 129)=w7 at*;have Z7:=@J (E<w7.heap.size) (by rw[←ag,←ak];simp);clear ag;have F7:=J (F6.o.trans0 A.o);have R7:=J (za R6.o A.o id);have bl:=J (za aA.o A.o id))));go_frame)
  go_ret2
  exact zd9.bad H.o LE.o NE.o F7.o
 have aM:=J c2
 obtain⟨l1,l2,l3,l4,l5,l6⟩:=zeT c2
 have cw:=J l1
 have cP:=J (zfb.1 l3).1
 have ct:=J l6
 have bj:=@J ((xE L t).length≤8) (le_trans (ze6 L t) (y5.1 FM.o).2.1)
 have bk:=@J (∀y∈xE L t,zX y) (λy hy=>H.o.ids y (Yw hy))
 have bE:=@J (WOk (j7 t (xR S L t),qR t)) (by
  have hp:∀y∈xR S L t,y.ok:=λy hy=>by
   obtain⟨q,hq,rfl⟩:=mem_map.1 hy
   unfold qQ
   split
   ·exact vH HS.o q
   ·exact Yp H.o.outs_ok q
  have s:=za5 (t:=t) hp HT.o.now.oks.2
  have h2:=Xu FM.o
  exact⟨s,h2.1,by show qR t≤_;omega⟩)
 have AP:=J ba.o.apart
 have bc:=J ba.o.ins8
 have WO:=J (ba.o.wok HS.o H.o.outs_ok)
 have E0:=@J (Zg S I L t=JL L (j7 t (xR S L t),qR t) (xE L t)) (by unfold Zg;rw[if_neg (by simp[c1]),if_neg (by simp[c2])])
 clear l1 l2 l3 l4 l5 l6
 generalize aB:((j7 t (xR S L t),qR t):Int×Int)=v at*
 by_cases c3:JL L v (xE L t)=0
 rotate_left
 ·have LE:=@J (Zg S I L t=JL L v (xE L t)) (E0.o)
  have RG:=J (zj3 c3)
  have je:(JL L v (xE L t)==0)=false:=by simpa using c3
  have NE:=J c3
  clear c1 c2 c3
  go_enter Tryz.func16,Tryz.ntmps16
  have⟨K0,K1,K2,K3,K4,K5,K6,K7,K8,K9,bd⟩:=tZ11
  go_wp2_with ((first|((with_reducible refine zt ?_);first|(clear K0;refine zn1 rfl rfl rfl R1.o rfl ?_;generalize aj:w.heap.size=B at*;generalize P:w.alloc (.cells #[.int .u32 t.ver,.slice ia t.ins.length ic,.slice oa t.outs.length oc] 34)=wa at*;have Z1:=@J (B<wa.heap.size) (by rw[←P,←aj];simp);clear P)|(clear K2;refine zn1 rfl rfl rfl R3.o rfl ?_)|(clear K5;refine zn3 rfl rfl rfl RH.o XL.o ?_)|(clear K6;refine zn1 rfl rfl rfl R5.o rfl ?_)|(clear K9;refine zg rfl (zZ (ty:=127) rfl rfl bm.o uW rW (show _=some (xA v).length from qn)) ?_))|(clear K1;go_at_call 32;refine an.o.mono ?_;rintro e w3 ⟨rfl,f3⟩;have F3:=J (F1.o.trans0 f3);have R3:=J (za R1.o f3 id);have Z3:=@J (B<w3.heap.size) (by have:=Z1.o;have:=f3.size;omega);clear f3;have ao:=J (aL.o _ F3.o))|(clear K3;go_at_call 15;refine ao.o.mono ?_;rintro e w4 ⟨rfl,f4⟩;rw[bb.o];have F4:=J (F3.o.trans0 f4);have R4:=J (za R3.o f4 id);have Z4:=@J (B<w4.heap.size) (by have:=Z3.o;have:=f4.size;omega);clear f4;have RH:=J (zy w4 (zf (idH t)) 41);have ad:=J ((frN w4).alloc (.cells (zf (idH t)).toArray 41)))|(clear K7;go_at_call 47;refine ay.o.mono ?_;rintro e Q ⟨l,pv,rfl,f6,O,aH⟩;have EO:=J O.2;have EL:=J O.1;obtain⟨aF,aG⟩:=aH aM.o;have PV:=J aG;have EC:=J aF;clear aF aG;rw[aM.o];obtain⟨b7,b8,bx⟩:=PV.o.slice.arg.form;subst bx;have F6:=J (F5.o.trans0 f6);have R6:=J (za R5.o f6 id);have aA:=J (za RH.o f6 id);have Z6:=@J (qh<Q.heap.size) (by have:=Z5.o;have:=f6.size;omega);clear f6 O;have RE:=J (zy Q l 129);have A:=J ((frN Q).alloc (.cells l.toArray 129));have BE:=J (ye Q (.cells l.toArray 129)))|(clear bd;go_at_call 48;refine a8.o.mono ?_;rintro e w8 ⟨gv,rfl,ae,h8,f8,aE,ai⟩;obtain⟨ga,gc,br⟩:=ai.slice.arg.form;subst br;have H8:=J h8;have F8:=J f8;have V8:=J aE;have O8:=J ai;clear h8 f8 aE ai)|((with_reducible refine zv ?_);first|(clear K4;refine zob (w:=w4) (cs:=zf (idH t)) rfl rfl rfl rfl XL.o zS ?_;generalize aC:w4.heap.size=qh at*;generalize af:w4.alloc (.cells (zf (idH t)).toArray 41)=w5 at*;have Z5:=@J (qh<w5.heap.size) (by rw[←af,←aC];simp);clear af;have F5:=J (F4.o.trans0 ad.o);have R5:=J (za R4.o ad.o id);have ay:=J (zbO (HG.o.keep0 F5.o) (H1.o.fr0 F5.o) (by omega) (HC.o.fr0 F5.o) HS.o (HT.o w5 F5.o.of0) a6.o))|(clear K8;refine zi rfl (zm (w:=Q) (ty:=129) (cs:=l) rfl rfl rfl (by rw[EL.o];rfl) (by rw[EL.o];exact qm) EO.o) ?_;generalize ak:Q.heap.size=E at*;generalize ag:Q.alloc (.cells l.toArray 129)=w7 at*;have Z7:=@J (E<w7.heap.size) (by rw[←ag,←ak];simp);clear ag;have F7:=J (F6.o.trans0 A.o);have R7:=J (za R6.o A.o id);have bl:=J (za aA.o A.o id);have aq:=J (zb PV.o A.o (λ_ _=>id));have bh:=J (y3.own aq.o bk.o);have bm:=@J (w7.rangeAt E 3 (xA v)) (by intro j u a;have bt:j<2:=(List.getElem?_eq_some_iff.1 a).1;have hr:=RE.o (3+j) u (by rw[EC.o,←aB] at*;match j,bt with|0,_=>exact a|1,_=>exact a);simpa using hr);have a8:=J (zj2 (H1.o.fr0 F7.o) (by omega) AP.o (λe d=>by have:=bc.o e d;omega) WO.o bE.o bh.o (by have:=bj.o;omega)))));go_frame)
  have T:=@J (∀j,poV p ma ms VG j→j<B) (λj a=>by have:=H.o.hi j a;omega)
  go_ret2
  have D:Zg S I L t≠0:=by rw[LE.o];exact NE.o
  refine⟨_,by rw[LE.o];rfl,⟨ae,C,?_,F7.o.of0.trans F8.o (λ_ _ h=>h),λj a=>.inl (V8.o j a)⟩,?_⟩
  ·have h9:=H8.o
   rw[RG.o,XH] at h9
   rw[show Zh S I L t now=L by unfold Zh;rw[if_neg D]]
   exact(h9.mono (Nat.le_succ N)).frV (frN _) (λ_ _=>id) (λ_ h=>h.elim) (λ_ h=>h.elim) (λj a e=>e.elim .inl (λe=>.inl (H.o.sub j (.inr (.inr (.inr (V8.o j e))))))) (λj a=>.inl (H.o.sub j (a.imp_right (λh=>h.imp_right (λh=>h.imp_right (V8.o j))))))
  ·rw[show Qs S I L t=[] by unfold Qs;rw[if_neg D]]
   exact World.ownsRow_nil _ _ _ _
 have LE:=@J (Zg S I L t=0) (by rw[E0.o];exact c3)
 have LG:=@J (Qs S I L t=vQ L v (xE L t)) (by unfold Qs;rw[if_pos LE.o,aB])
 have LL:=@J (Zh S I L t now=xu L (vQ L v (xE L t))++[mkE S L t now]) (by unfold Zh;rw[if_pos LE.o,LG.o])
 have RZ:=J c3
 obtain⟨s1,s2⟩:=zc5 H.o.gr.gok v (xE L t)
 have SH:=J s1
 have cA:=J s2
 have aT:=@J ((xu L (vQ L v (xE L t))).length≤32) (le_trans (zhG _ _) cW)
 clear c1 c2 c3 s1 s2
 go_enter Tryz.func16,Tryz.ntmps16
 have⟨K0,K1,K2,K3,K4,K5,K6,K7,K8,K9,bd,cp,cq,cr⟩:=tZ14
 go_wp2_with ((first|((with_reducible refine zt ?_);first|(clear K0;refine zn1 rfl rfl rfl R1.o rfl ?_;generalize aj:w.heap.size=B at*;generalize P:w.alloc (.cells #[.int .u32 t.ver,.slice ia t.ins.length ic,.slice oa t.outs.length oc] 34)=wa at*;have Z1:=@J (B<wa.heap.size) (by rw[←P,←aj];simp);clear P)|(clear K2;refine zn1 rfl rfl rfl R3.o rfl ?_)|(clear K5;refine zn3 rfl rfl rfl RH.o XL.o ?_)|(clear K6;refine zn1 rfl rfl rfl R5.o rfl ?_)|(clear K9;refine zg rfl (zZ (ty:=127) rfl rfl bm.o uW rW (show _=some (xA v).length from qn)) ?_)|(clear cp;refine zn1 rfl rfl rfl R8.o rfl ?_))|(clear K1;go_at_call 32;refine an.o.mono ?_;rintro e w3 ⟨rfl,f3⟩;have F3:=J (F1.o.trans0 f3);have R3:=J (za R1.o f3 id);have Z3:=@J (B<w3.heap.size) (by have:=Z1.o;have:=f3.size;omega);clear f3;have ao:=J (aL.o _ F3.o))|(clear K3;go_at_call 15;refine ao.o.mono ?_;rintro e w4 ⟨rfl,f4⟩;rw[bb.o];have F4:=J (F3.o.trans0 f4);have R4:=J (za R3.o f4 id);have Z4:=@J (B<w4.heap.size) (by have:=Z3.o;have:=f4.size;omega);clear f4;have RH:=J (zy w4 (zf (idH t)) 41);have ad:=J ((frN w4).alloc (.cells (zf (idH t)).toArray 41)))|(clear K7;go_at_call 47;refine ay.o.mono ?_;rintro e Q ⟨l,pv,rfl,f6,O,aH⟩;have EO:=J O.2;have EL:=J O.1;obtain⟨aF,aG⟩:=aH aM.o;have PV:=J aG;have EC:=J aF;clear aF aG;rw[aM.o];obtain⟨b7,b8,bx⟩:=PV.o.slice.arg.form;subst bx;have F6:=J (F5.o.trans0 f6);have R6:=J (za R5.o f6 id);have aA:=J (za RH.o f6 id);have Z6:=@J (qh<Q.heap.size) (by have:=Z5.o;have:=f6.size;omega);clear f6 O;have RE:=J (zy Q l 129);have A:=J ((frN Q).alloc (.cells l.toArray 129));have BE:=J (ye Q (.cells l.toArray 129)))|(clear bd;go_at_call 48;refine a8.o.mono ?_;rintro e w8 ⟨gv,rfl,ae,h8,f8,aE,ai⟩;obtain⟨ga,gc,br⟩:=ai.slice.arg.form;subst br;rw[RZ.o];have H8:=J h8;have F8:=J f8;have V8:=J aE;have O8:=J ai;clear h8 f8 aE ai;have T:=@J (∀j,poV p ma ms VG j→j<B) (λj a=>by have:=H.o.hi j a;omega);have R8:=J (za R7.o F8.o (λe=>by have:=T.o _ e;omega));have cI:=J (za bl.o F8.o (λe=>by have:=T.o _ e;have:=Z4.o;omega));have bA:=@J (w8.heap[E]? =some (.cells #[.int .u32 t.ver,.slice ia t.ins.length ic,.slice oa t.outs.length oc,.int .u64 v.1,.int .i64 v.2,.int .u64 0] 129 (0,0))) (by have h9:=F8.o.obj BE.o (λe=>by have:=T.o _ e;have:=Z4.o;have:=Z6.o;omega);rw[EC.o] at h9;rw[←aB];exact h9);have cS:=J (HT.o w8 (F7.o.of0.trans F8.o (λj _ e=>H.o.sub j e)));have ch:=J (zh6 w8 cS.o ⟨by have:=(y5.1 FM.o).2.1;omega,by have:=(y5.1 FM.o).2.2;omega,λy hy=>by have:=(y5.1 FM.o).1 y hy;omega⟩))|(clear cq;go_at_call 49;refine ch.o.mono ?_;rintro e w9 ⟨df,rfl,f9,bu⟩;obtain⟨U,W,Y,Z,rfl⟩:=(bu (λ_=>False) (λ_ h=>h.elim)).now.form;have F9:=J f9;have K9:=J bu;clear f9 bu;have bB:=J (F9.o.obj bA.o id);have S3:=J (zls (x:=.int .u32 t.ver) (y:=.slice U t.ins.length W) (z:=.slice Y t.outs.length Z) bB.o);have cc:=J (zu E [.int .u32 t.ver,.slice U t.ins.length W,.slice Y t.outs.length Z] 0 w9))|((with_reducible refine zv ?_);first|(clear K4;refine zob (w:=w4) (cs:=zf (idH t)) rfl rfl rfl rfl XL.o zS ?_;generalize aC:w4.heap.size=qh at*;generalize af:w4.alloc (.cells (zf (idH t)).toArray 41)=w5 at*;have Z5:=@J (qh<w5.heap.size) (by rw[←af,←aC];simp);clear af;have F5:=J (F4.o.trans0 ad.o);have R5:=J (za R4.o ad.o id);have ay:=J (zbO (HG.o.keep0 F5.o) (H1.o.fr0 F5.o) (by omega) (HC.o.fr0 F5.o) HS.o (HT.o w5 F5.o.of0) a6.o))|(clear K8;refine zi rfl (zm (w:=Q) (ty:=129) (cs:=l) rfl rfl rfl (by rw[EL.o];rfl) (by rw[EL.o];exact qm) EO.o) ?_;generalize ak:Q.heap.size=E at*;generalize ag:Q.alloc (.cells l.toArray 129)=w7 at*;have Z7:=@J (E<w7.heap.size) (by rw[←ag,←ak];simp);clear ag;have F7:=J (F6.o.trans0 A.o);have R7:=J (za R6.o A.o id);have bl:=J (za aA.o A.o id);have aq:=J (zb PV.o A.o (λ_ _=>id));have bh:=J (y3.own aq.o bk.o);have bm:=@J (w7.rangeAt E 3 (xA v)) (by intro j u a;have bt:j<2:=(List.getElem?_eq_some_iff.1 a).1;have hr:=RE.o (3+j) u (by rw[EC.o,←aB] at*;match j,bt with|0,_=>exact a|1,_=>exact a);simpa using hr);have a8:=J (zj2 (H1.o.fr0 F7.o) (by omega) AP.o (λe d=>by have:=bc.o e d;omega) WO.o bE.o bh.o (by have:=bj.o;omega)))|(clear cr;refine zi rfl (zK (ty:=34) (b:=E) (off:=0) (cs:=[.int .u32 t.ver,.slice U t.ins.length W,.slice Y t.outs.length Z]) rfl rfl rfl (zV bB.o (Nat.le_of_ble_eq_true rfl)) yZ (qM rfl rfl rfl)) ?_;generalize da:w9.setCells E 0 [.int .u32 t.ver,.slice U t.ins.length W,.slice Y t.outs.length Z]=au at*;have c5:au.cell? ⟨E,5,none⟩=some (.int .u64 0):=(by have:=zq S3.o 5 _ rfl;simpa using this);have cV:=yl (i:=5) S3.o)));go_frame)
 have cM:=S3
 clear S3
 have S5:=@J ((au.setCell ⟨E,5,none⟩ (.int .u64 now)).heap[E]? =some (.cells #[.int .u32 t.ver,.slice U t.ins.length W,.slice Y t.outs.length Z,.int .u64 v.1,.int .i64 v.2,.int .u64 now] 129 (0,0))) (by
  have:=heap_setCell_same au E 5 _ _ (.int .u64 now) cM.out
  simpa using this)
 have R:=@J (B<E∧qh<E∧B<qh) (⟨by have:=Z6.o;have:=Z4.o;omega,Z6.o,Z4.o⟩)
 have a7:=@J (Fr (λj=>j=E) w9 (au.setCell ⟨E,5,none⟩ (.int .u64 now))) (cc.o.trans ((Fr.refl (λj=>j=E) au).setCell _ (.inr rfl) _) (λ_ _ h=>h))
 clear c5 cV
 generalize au.setCell ⟨E,5,none⟩ (.int .u64 now)=aI at*
 have al:=J ((frN aI).drew)
 have ab:=@J (Fr (λj=>j=E) w8 aI.drew) ((F9.o.of0.trans a7.o (λ_ _ h=>h)).trans0 al.o)
 have bz:=J (al.o.obj S5.o id)
 have aU:=@J (aI.drew.rangeAt E 0 [.int .u32 t.ver,.slice U t.ins.length W,.slice Y t.outs.length Z,.int .u64 v.1,.int .i64 v.2,.int .u64 now]) (zq bz.o)
 have G:=@J (yn w0 aI.drew p ma ms g ae (λj=>X j∨B≤j) C (xu L (vQ L v (xE L t))) N) (H8.o.frV ab.o (λj a e=>by
  have s:=T.o j (a.imp_right (λh=>h.imp_right (λh=>h.imp_right (V8.o j))))
  have h2:=R.o
  omega) (λj e=>by rw[e];have:=H.o.fr.size;have:=R.o;omega) (λj e=>.inr (by rw[e];have:=R.o;omega)) (λ_ _ h=>h) H8.o.sub)
 have aV:=J (za cI.o ab.o (λe=>by have:=R.o;omega))
 have cF:=J (za R8.o ab.o (λe=>by have:=R.o;omega))
 have bf:=@J (idH t∉xq (xu L (vQ L v (xE L t)))) (λe=>by
  rw[XG] at e
  exact cw.o (List.mem_filter.1 e).1)
 generalize bq:xu L (vQ L v (xE L t))=LD at*
 obtain⟨M,hM,hm⟩:=G.o.am
 have b0:=G.o.mapLen hM hm
 obtain⟨av,M2,aD,bR,bV,bT,-⟩:=hM.upd xT.keyed X7 (λ_ _=>yY) (yq bp.o) (by rw[b0];have:=aT.o;unfold maxLen;omega) [.int .u32 t.ver,.slice U t.ins.length W,.slice Y t.outs.length Z,.int .u64 v.1,.int .i64 v.2,.int .u64 now]
 have cn:=J aD
 have k:=J bT.fr
 have cg:=J bR
 have cm:=@J (∀y cs,(y,cs)∈M2↔∃e∈LD++[mkE S L t now],e.id=y∧cs=(if y=idH t then[.int .u32 t.ver,.slice U t.ins.length W,.slice Y t.outs.length Z,.int .u64 v.1,.int .i64 v.2,.int .u64 now] else C y)) (λy cs=>by
  rw[bV y cs,hm]
  constructor
  ·rintro(⟨rfl,rfl⟩|⟨D,e,d,rfl,rfl⟩)
   ·exact⟨mkE S L t now,by simp,rfl,by rw[if_pos rfl]⟩
   ·exact⟨e,List.mem_append_left _ d,rfl,by rw[if_neg D]⟩
  ·rintro⟨e,d,rfl,rfl⟩
   rcases mem_append.1 d with d|d
   ·have D:e.id≠idH t:=λh=>bf.o (by rw[←h];exact mem_map.2 ⟨e,d,rfl⟩)
    exact .inr ⟨D,e,d,rfl,by rw[if_neg D]⟩
   ·obtain rfl:=mem_singleton.1 d
    exact .inl ⟨rfl,by rw[if_pos (show(mkE S L t now).id=idH t from rfl)]⟩)
 have o:=J G.o.apart
 have ML:=@J (ma<B∧ms<B∧p<B) (⟨T.o ma (.inr (.inl rfl)),T.o ms (.inr (.inr (.inl rfl))),T.o p (.inl rfl)⟩)
 have ah:=@J (∀j,ae j→j<B∧j≠p∧j≠ma∧j≠ms) (λj a=>⟨T.o j (.inr (.inr (.inr (V8.o j a)))),λe=>o.o.2.2.2.1 (e▸a),λe=>o.o.2.2.2.2.1 (e▸a),λe=>o.o.2.2.2.2.2 (e▸a)⟩)
 clear aD hM hm b0 bR bV bT
 have cd:=J (G.o.gr.frV k.o (λj a e=>(ah.o j a).2.2.1 e) (λj e=>by rw[e];exact G.o.lo3.2.1))
 have bg:=J (k.o.obj G.o.obj o.o.1)
 have aW:=J (za aV.o k.o (λe=>by have:=R.o;have:=ML.o;omega))
 have bM:=J (za aU.o k.o (λe=>by have:=R.o;have:=ML.o;omega))
 have cG:=J (za cF.o k.o (λe=>by have:=ML.o;omega))
 refine wrLx [ff,ff,ff,ff,ff,ff,tt] (λw'=>w'.cell? ⟨p,0,none⟩=some (.map (some ma))∧w'.rangeAt qh 0 (zf (idH t))∧w'.rangeAt E 0 [.int .u32 t.ver,.slice U t.ins.length W,.slice Y t.outs.length Z,.int .u64 v.1,.int .i64 v.2,.int .u64 now]) ?_ (λK hK=>?_)
 ·exact⟨G.o.cells.1,aV.o,aU.o⟩
 generalize aI.drew=wd at*
 repeat((first|(refine zj rfl ?_;constructor;constructor;(focus(first|exact zn7 rfl (λw h=>h.2.1) XL.o|exact yK (ty:=129) rfl (λw h=>h.2.2) uE rE qm|(rintro w' ⟨s1,s2,s3⟩;go_simp;(try with_reducible rfl);done))))|(refine zl rfl ?_));try simp only[Act.put,pA,pB,pC])
 (refine zE rfl (λK' hK'=>?_))
 refine yN (y4 rfl rfl rfl rfl cn.o) ?_
 refine nXt hK' ?_ λhS=>?_
 ·exact⟨(zq bg.o 0 _ rfl),aW.o,bM.o⟩
 try simp only[Act.put]
 refine zL (hK.out _ _ ?_)
 have bJ:=@J (av.ownsRow w5.heap.size 41 32 (.slice b7 (xE L t).length b8) (xE L t).length ((xE L t).flatMap zf)) (zb (zb (zb aq.o F8.o (λj a e=>by have:=T.o j e;have:=(aq.o.lt j a).1;have:=Z5.o;have:=R.o;omega)) ab.o (λj a e=>by have:=(PV.o.lt j a).2;omega)) k.o (λj a e=>by have:=(aq.o.lt j a).1;have:=Z5.o;have:=ML.o;have:=R.o;omega))
 go_wp2_with fail
 have aa:=J ((frN av).drew)
 have az:=J (za aW.o aa.o id)
 have bC:=@J (av.drew.cell? ⟨p,2,none⟩=some (.pointer (some ⟨g,0,none⟩))) (aa.o.cell (zq bg.o 2 _ rfl) id)
 have cB:=@J (∀y∈xE L t,y∈ids (gOf LD)) (λy hy=>by
  rw[vn,←bq,XG]
  exact List.mem_filter.2 ⟨Yw hy,by simpa using cA.o y hy⟩)
 have cU:=@J (idH t∉ids (gOf LD)) (by rw[vn];exact bf.o)
 have cu:=@J ((upS (gOf LD) (xE L t)).length<6) (by
  have:=zde H.o.gr.gok SH.o (xE L t)
  rw[bq] at this
  have:=ct.o
  omega)
 have b9:=J (zgD cU.o cB.o cu.o)
 have cf:=J (znn (cd.o.fr0 aa.o) (by omega) bp.o (y3.own (zb bJ.o aa.o (λ_ _=>id)) bk.o) (by have:=bj.o;omega))
 refine wrLx [ff,ff,ff,ff,ff,ff,tt] (λw'=>w'.cell? ⟨p,2,none⟩=some (.pointer (some ⟨g,0,none⟩))∧w'.rangeAt qh 0 (zf (idH t))) ?_ (λK hK=>?_)
 ·exact⟨bC.o,az.o⟩
 generalize av.drew=wf at*
 repeat((first|(refine zj rfl ?_;constructor;constructor;(focus(first|exact zn7 rfl (λw h=>h.2) XL.o|(rintro w' ⟨s1,s2⟩;go_simp;(try with_reducible rfl);done))))|(refine zl rfl ?_));try simp only[Act.put,pA,pB,pC])
 (refine zE rfl (λK' hK'=>?_))
 go_simp
 refine cf.o.mono ?_
 rintro e aw ⟨rfl,aP,ar,bX,b6⟩
 rw[if_pos b9.o] at ar
 have GN:=J ar
 have FN:=J bX
 have VN:=J b6
 clear ar bX b6
 have ca:=J (FN.o.cell bC.o o.o.2.2.2.1)
 have aX:=J (za az.o FN.o (λe=>by have:=(ah.o _ e).1;have:=R.o;omega))
 refine nXt hK' ?_ λhS=>?_
 ·exact⟨ca.o,aX.o⟩
 try simp only[Act.put,pA,pB,pC]
 repeat((first|(refine zj rfl ?_;constructor;constructor;(focus(first|(rintro w' ⟨s1,s2⟩;go_simp;(try with_reducible rfl);done))))|(refine zl rfl ?_));try simp only[Act.put,pA,pB,pC])
 refine zL (hK.out _ _ ?_)
 have r:=@J (Fr ae av aw) (aa.o.of0.trans FN.o (λ_ _ h=>h))
 have ax:=@J (Fr (λj=>j=E∨j=ma∨ae j) w8 aw) (((ab.o.mono (λj e=>.inl e)).trans k.o (λj _ e=>.inr (.inl e))).trans r.o (λj _ e=>.inr (.inr e)))
 have bF:=@J (Fr X w aw) ((F7.o.of0.trans F8.o (λj _ e=>H.o.sub j e)).trans ax.o (λj a e=>by
  rcases e with e|e|e
  ·have:=R.o;omega
  ·rw[e];exact H.o.sub ma (.inr (.inl rfl))
  ·exact H.o.sub j (.inr (.inr (.inr (V8.o j e))))))
 have aZ:=J (HT.o aw bF.o)
 have bL:=J (za cG.o r.o (λe=>by have:=(ah.o _ e).1;omega))
 have bH:=J (r.o.obj bg.o o.o.2.2.2.1)
 have cv:=J (cg.o.keep r.o o.o.2.2.2.2.1)
 obtain⟨MS,b3,a1⟩:=G.o.sm
 have cK:=J ((b3.keep k.o (λe=>o.o.2.2.1 e.symm)).keep r.o o.o.2.2.2.2.2)
 have SM:=J a1
 have cj:=J (vY aw aZ.o (by have:=(y5.1 FM.o).2.1;omega))
 have de:t.ins.length≤8:=(y5.1 FM.o).2.1
 clear b3 a1
 have⟨K0,K1⟩:=tZ2
 go_wp2_with ((first|((with_reducible refine zt ?_);clear K0;refine zn1 rfl rfl rfl bL.o rfl ?_)|(clear K1;go_at_call 33;refine cj.o.mono ?_;rintro e aS ⟨dg,rfl,bw,bQ⟩;obtain⟨c4,c6,cY⟩:=bw.slice.arg.form;subst cY;have aJ:=J bQ;have PO:=J bw;clear bQ bw));go_frame)
 have aO:=J (vJ t)
 have bI:=@J (∀q∈zW t,q.ok) (λq hq=>by obtain⟨y,hy,rfl⟩:=mem_map.1 hq;exact aZ.o.oks.1 y hy)
 have cL:=J (cK.o.keep aJ.o id)
 have cy:=J (aJ.o.obj bH.o id)
 have aY:=J (za aX.o aJ.o id)
 have bG:=@J (∀e∈LD,e∈L) (λe d=>by rw[←bq] at d;exact(Zr.1 d).1)
 have cD:=J (zlf (L:=LD) (λe d=>bc.o e (bG.o e d)))
 have cE:=@J (B<aS.heap.size∧qh<aS.heap.size) (by have s:=jH aY.o (by intro h0;have:=XL.o;rw[h0] at this;cases this);have:=R.o;exact⟨by omega,s⟩)
 go_loopw [79] (λiv wr=>∃n:Nat,iv=.int .i64 n∧n≤t.ins.length∧(∃M,zaE wr ms M∧∀q y,(q,y)∈M↔(∃e∈LD,q∈zW e.tx∧e.id=y)∨(q∈(zW t).take n∧y=idH t))∧Fr (λj=>j=ms) aS wr) (λiv _=>t.ins.length-(intOf iv).toNat)
 case atStart=>exact⟨0,rfl,zero_le _,⟨MS,cL.o,λq y=>by rw[SM.o];simp⟩,Fr.refl _ _⟩
 case round=>
  obtain⟨n,rfl,hn,⟨Mn,bS,b1⟩,bY⟩:=hrel
  have FR:=J bY
  have bo:=J bS
  have bn:=J b1
  clear bY bS b1
  by_cases hlt:n<t.ins.length
  ·have i1:(n:Int)<(t.ins.length:Int):=by omega
   obtain⟨q,hq⟩:∃q,(zW t)[n]? =some q:=⟨_,getElem?_eq_getElem (by rw[aO.o];exact hlt)⟩
   have bK:=J (bI.o q (mem_of_getElem? hq))
   have cC:=J (zb PO.o FR.o (λj a e=>by have:=(PO.o.lt j a).1;have:=ML.o;have s:=jH bL.o (by simp);omega))
   have b4:xN wr (.slice c4 t.ins.length c6) (zW t):=⟨bI.o,by rw[aO.o];exact cC.o.slice.arg⟩
   obtain⟨b2,db,c8,e2,b5,-⟩:=b4.at_ hq
   injection e2 with e3 e4 e5
   subst e3
   have R2:=J b5
   have PL:=J (zY bK.o)
   have RQ:=J (zy wr (zn q) 95)
   have FQ:=J ((frN wr).alloc (.cells (zn q).toArray 95))
   have HQ:=J hq
   have cx:=@J (∀e∈LD,q∉zW e.tx) (λe d ak=>by
    have:=cP.o q (mem_of_getElem? hq)
    rw[Jl.2 ⟨e,bG.o e d,ak⟩] at this
    cases this)
   clear b5 hq e4 e5 b4
   have⟨K0,K1⟩:=tZ2
   go_wp2_with ((first|((with_reducible refine zt ?_);clear K0;refine zn4 rfl rfl rfl R2.o PL.o ?_)|((with_reducible refine zv ?_);clear K1;refine zoc (w:=wr) (cs:=zn q) rfl rfl rfl rfl PL.o yI ?_));go_frame)
   generalize dd:wr.heap.size=qq at*
   generalize c0:wr.alloc (.cells (zn q).toArray 95)=wb at*
   have aK:=J FQ.o.drew
   have bP:=J (za RQ.o (frN wb).drew id)
   have OD:=J (aK.o.obj (FR.o.obj cy.o o.o.2.1) id)
   have bN:=J (za (za aY.o FR.o (λe=>by have:=ML.o;have:=R.o;omega)) aK.o id)
   have cO:=J (bo.o.keep aK.o id)
   clear c0
   have bO:=@J (Mn.length<maxLen) (by
    have s:=qy bo.o.nodup (m:=(LD.flatMap λe=>zW e.tx)++zW t) (λy hy=>by
     obtain⟨z,hz,rfl⟩:=mem_map.1 hy
     rcases(bn.o z.1 z.2).1 hz with⟨e,d,s,-⟩|⟨s,-⟩
     ·exact List.mem_append_left _ (List.mem_flatMap.2 ⟨e,d,s⟩)
     ·exact List.mem_append_right _ (List.mem_of_mem_take s))
    rw[length_map,List.length_append,aO.o] at s
    have:=cD.o
    have:=aT.o
    unfold maxLen
    omega)
   obtain⟨c7,M5,aD,bZ,bW,bU,-⟩:=cO.o.upd Jf.keyed VQ (λ_ _=>vr) (xP bK.o) bO.o (idH t)
   have ck:=J aD
   have FM:=J bU.fr
   have cN:=J bZ
   have cQ:=@J (∀y z,(y,z)∈M5↔(∃e∈LD,y∈zW e.tx∧e.id=z)∨(y∈(zW t).take (n+1)∧z=idH t)) (λy z=>by
    rw[bW y z,bn.o]
    have cZ:∀y,y∈(zW t).take (n+1)↔y∈(zW t).take n∨y=q:=λy=>by
     rw[take_add_one,HQ.o]
     simp
    rw[cZ]
    constructor
    ·rintro(⟨rfl,rfl⟩|⟨s,h2|⟨h2,h3⟩⟩)
     ·exact .inr ⟨.inr rfl,rfl⟩
     ·exact .inl h2
     ·exact .inr ⟨.inl h2,h3⟩
    ·rintro(⟨e,d,s,h2⟩|⟨s|rfl,h2⟩)
     ·exact .inr ⟨λe'=>cx.o e d (e'▸s),.inl ⟨e,d,s,h2⟩⟩
     ·by_cases hyq:y=q
      ·exact .inl ⟨hyq,h2⟩
      ·exact .inr ⟨hyq,.inr ⟨s,h2⟩⟩
     ·exact .inl ⟨rfl,h2⟩)
   have cb:=@J (Fr (λj=>j=ms) aS c7) ((FR.o.trans0 aK.o).trans FM.o (λj _ e=>e))
   have cz:=J (FM.o.obj OD.o o.o.2.1)
   have cJ:=J (za bP.o FM.o (λe=>by have:=FR.o.size;have:=cE.o;have:=ML.o;omega))
   have cH:=J (za bN.o FM.o (λe=>by have:=ML.o;have:=R.o;omega))
   clear aD bZ bW bU
   refine wrLx [ff,ff,ff,ff,ff,ff,tt] (λw'=>w'.cell? ⟨p,1,none⟩=some (.map (some ms))∧w'.rangeAt qq 0 (zn q)∧w'.rangeAt qh 0 (zf (idH t))) ?_ (λK hK=>?_)
   ·exact⟨zq OD.o 1 _ rfl,bP.o,bN.o⟩
   generalize wb.drew=z1 at*
   repeat((first|(refine zj rfl ?_;constructor;constructor;(focus(first|exact zn6 rfl (λw h=>h.2.1) PL.o|exact zn7 rfl (λw h=>h.2.2) XL.o|(rintro w' ⟨s1,s2,s3⟩;go_simp;(try with_reducible rfl);done))))|(refine zl rfl ?_));try simp only[Act.put,pA,pB,pC])
   (refine zE rfl (λK' hK'=>?_))
   refine yN (y4 rfl rfl rfl rfl ck.o) ?_
   refine nXt hK' ?_ λhS=>?_
   ·exact⟨zq cz.o 1 _ rfl,cJ.o,cH.o⟩
   try simp only[Act.put]
   refine zL (hK.out _ _ ?_)
   go_wp2_with fail
   go_roundw
   case rel=>exact⟨n+1,by go_num,by omega,⟨M5,cN.o,cQ.o⟩,cb.o⟩
   case measure=>simp[intOf];omega
  ·have D:n=t.ins.length:=by omega
   have i1:¬(n:Int)<(t.ins.length:Int):=by omega
   have cR:=@J ((zW t).take n=zW t) (by rw[D,←aO.o,take_length])
   have F:=@J (Fr (λj=>j=ms) aw wr) (aJ.o.of0.trans FR.o (λ_ _ h=>h))
   have bD:=@J (Fr (poV p ma ms VG) w wr) (((F7.o.of0.trans F8.o (λ_ _ h=>h)).trans ax.o (λj a e=>by
    rcases e with e|e|e
    ·have:=R.o;omega
    ·exact .inr (.inl e)
    ·exact .inr (.inr (.inr (V8.o j e))))).trans F.o (λj _ e=>.inr (.inr (.inl e))))
   have aR:=@J (B<wf.heap.size∧w9.heap.size≤wf.heap.size) (by
    have s:=a7.o.size
    have h2:=al.o.size
    have h3:=k.o.size
    have h4:=aa.o.size
    have h5:=F9.o.size
    have h6:=F8.o.size
    have h7:=jH R8.o (by simp)
    exact⟨by omega,by omega⟩)
   have aQ:=@J (∀j,aP j→ae j∨wf.heap.size≤j) (VN.o)
   have aN:=@J (∀j,(j=p∨j=ma∨j=ms)→¬aP j) (λj a hv=>by
    rcases aQ.o j hv with h|h
    ·have:=ah.o j h
     rcases a with a|a|a
     ·exact this.2.1 a
     ·exact this.2.2.1 a
     ·exact this.2.2.2 a
    ·have s:=ML.o
     have h2:=aR.o
     rcases a with a|a|a<;>omega)
   clear D
   go_wp2_with fail
   go_ret2
   refine⟨_,by rw[LE.o];rfl,⟨aP,λy=>if y=idH t then[.int .u32 t.ver,.slice U t.ins.length W,.slice Y t.outs.length Z,.int .u64 v.1,.int .i64 v.2,.int .u64 now] else C y,?_,bD.o,λj a=>?_⟩,?_⟩
   ·rw[LL.o]
    refine⟨F.o.obj bH.o o.o.2.1,?_,⟨M2,cv.o.keep F.o o.o.2.2.1,cm.o⟩,⟨Mn,bo.o,λq y=>?_⟩,λe d=>?_,⟨o.o.1,o.o.2.1,o.o.2.2.1,aN.o p (.inl rfl),aN.o ma (.inr (.inl rfl)),aN.o ms (.inr (.inr rfl))⟩,G.o.lo3,λj a=>?_⟩
    ·have cX:Qc (gOf LD) (idH t) (xE L t)=gOf (LD++[mkE S L t now]):=by rw[zeA];rfl
     have ar:=GN.o
     rw[cX] at ar
     exact ar.frV F.o (λj a e=>aN.o j (.inr (.inr e)) a) (λj e=>by rw[e];exact G.o.lo3.2.2)
    ·rw[bn.o,cR.o]
     constructor
     ·rintro(⟨e,d,s,h2⟩|⟨s,rfl⟩)
      ·exact⟨e,List.mem_append_left _ d,s,h2⟩
      ·exact⟨mkE S L t now,by simp,s,rfl⟩
     ·rintro⟨e,d,s,rfl⟩
      rcases mem_append.1 d with d|d
      ·exact .inl ⟨e,d,s,rfl⟩
      ·obtain rfl:=mem_singleton.1 d
       exact .inr ⟨s,rfl⟩
    ·rcases mem_append.1 d with d|d
     ·have D:e.id≠idH t:=λh=>bf.o (by rw[←h];exact mem_map.2 ⟨e,d,rfl⟩)
      rw[if_neg D]
      have f1:Fr (λj=>X j∨B≤j) wd wr:=(k.o.mono (λj e=>.inl (by rw[e];exact H.o.sub ma (.inr (.inl rfl))))).trans (show Fr (λj=>ae j∨j=ms) av wr from(r.o.mono (λj e=>Or.inl e)).trans F.o (λj _ e=>Or.inr e)) (λj _ e=>.inl (by
       rcases e with e|e
       ·exact H.o.sub j (.inr (.inr (.inr (V8.o j e))))
       ·rw[e];exact H.o.sub ms (.inr (.inr (.inl rfl)))))
      exact(G.o.data e d).step f1 (λj a e=>e.elim .inl (λe=>(aQ.o j e).elim (λe=>.inl (H.o.sub j (.inr (.inr (.inr (V8.o j e)))))) (λe=>.inr (by have:=aR.o;omega))))
     ·obtain rfl:=mem_singleton.1 d
      rw[if_pos (show(mkE S L t now).id=idH t from rfl)]
      have k1:=K9.o (λj=>j<w8.heap.size) (λ_ h=>h)
      have h8:=jH (zq bA.o) (by simp)
      have f1:Fr (λj=>j<w8.heap.size) w9 wr:=((a7.o.trans0 al.o).mono (λj e=>by rw[e];exact h8)).trans ((k.o.mono (V:=λj=>j<w8.heap.size) (λj e=>by rw[e];have:=ML.o;have:=R.o;omega)).trans ((r.o.mono (V:=λj=>j<w8.heap.size) (λj e=>by have:=(ah.o j e).1;have:=R.o;omega)).trans (F.o.mono (V:=λj=>j<w8.heap.size) (λj e=>by rw[e];have:=ML.o;have:=R.o;omega)) (λ_ _ h=>h)) (λ_ _ h=>h)) (λ_ _ h=>h)
      refine(k1.step f1 (V':=λj=>X j∨aP j) (λj a e=>?_)).imp (λw' _ hq=>⟨_,?_,hq⟩)
      ·rcases e with e|e
       ·have:=cT.o j e;have:=R.o;omega
       ·rcases aQ.o j e with e|e
        ·have:=(ah.o j e).1;have:=R.o;omega
        ·have:=aR.o;omega
      ·rw[←aB]
       rfl
    ·rcases a with e|e|e|e
     ·exact .inl (H.o.sub j (.inl e))
     ·exact .inl (H.o.sub j (.inr (.inl e)))
     ·exact .inl (H.o.sub j (.inr (.inr (.inl e))))
     ·exact .inr e
   ·rcases aQ.o j a with e|e
    ·exact .inl (V8.o j e)
    ·exact .inr (by have:=aR.o;omega)
   ·rw[LG.o]
    exact xj (zb (zb O8.o ax.o (λj a e=>by
     have s:=(O8.o.lt j a).1
     have h2:=Z7.o
     have h3:=R.o
     rcases e with e|e|e
     ·omega
     ·have:=ML.o;omega
     ·have:=(ah.o j e).1;omega)) F.o (λj a e=>by
     have s:=(O8.o.lt j a).1
     have h2:=Z7.o
     have h3:=R.o
     have:=ML.o
     omega)) F7.o.size
end
theorem zie (w:World):(Instr.makeMap 133 none).run prog w=.ok (.map (some w.heap.size)) (w.alloc (.map #[] 0)):=by kernel_rfl
theorem zig (w:World):(Instr.makeMap 134 none).run prog w=.ok (.map (some w.heap.size)) (w.alloc (.map #[] 0)):=by kernel_rfl
def zmd (w0 w:World) (p:Nat) (e:Ending) (w':World):Prop:=
 e=.returned (.tuple #[])∧Fr (λj=>j=p) w w'∧∃ma ms g VG,(∀j,(j=ma∨j=ms∨VG j)→w.heap.size≤j)∧∀X:Nat→Prop,(∀j,poV p ma ms VG j→X j)→∀C,yn w0 w' p ma ms g VG X C [] 0
theorem zgK (m w:World) (f:Fr No m w) {p:Nat} (hp:m.heap.size≤p) {a b c:Value} (M:w.heap[p]? =some (.cells #[a,b,c] 137 (0,0))):
  Calls prog 72 #[.pointer (some ⟨p,0,none⟩)] w (zmd m w p):=by
 have m1:=zie
 have m2:=zig
 have u:=J (yG M)
 have v:=J ((frN w).alloc (.map #[] 0))
 have r:=J (v.o.obj M id)
 have E:=@J (qK (w.alloc (.map #[] 0)) w.heap.size []) (yD.made w)
 have L:=J (heap_setCell_same (w.alloc (.map #[] 0)) p 0 _ _ (.map (some w.heap.size)) r.o)
 have H:=@J (Fr (λj=>j=p) w ((w.alloc (.map #[] 0)).setCell ⟨p,0,none⟩ (.map (some w.heap.size)))) ((show Fr (λj=>j=p) w (w.alloc (.map #[] 0)) from v.o.of0).setCell ⟨p,0,none⟩ (.inr rfl) _)
 have k:=@J (qK ((w.alloc (.map #[] 0)).setCell ⟨p,0,none⟩ (.map (some w.heap.size))) w.heap.size []) (E.o.keep ((Fr.refl (λj=>j=p) _).setCell ⟨p,0,none⟩ (.inr rfl) _) (λe=>by have:=u.o;omega))
 have W:=@J (((w.alloc (.map #[] 0)).setCell ⟨p,0,none⟩ (.map (some w.heap.size))).heap.size=w.heap.size+1) (by simp[World.setCell])
 have c0:(w.alloc (.map #[] 0)).cell? ⟨p,0,none⟩=some a:=by have:=zq r.o 0 _ rfl;simpa using this
 have Y:=yl (i:=0) r.o
 have o:=J ((frN ((w.alloc (.map #[] 0)).setCell ⟨p,0,none⟩ (.map (some w.heap.size)))).alloc (.map #[] 0))
 have s:=J (o.o.obj L.o id)
 have F:=J (k.o.keep o.o id)
 have I:=@J (zaE (((w.alloc (.map #[] 0)).setCell ⟨p,0,none⟩ (.map (some w.heap.size))).alloc (.map #[] 0)) (w.heap.size+1) []) (by have:=yD.made (P:=prog) (kt:=95) (kV:=j8) (vV:=xp) ((w.alloc (.map #[] 0)).setCell ⟨p,0,none⟩ (.map (some w.heap.size)));rw[W.o] at this;exact this)
 have T:=J (heap_setCell_same (((w.alloc (.map #[] 0)).setCell ⟨p,0,none⟩ (.map (some w.heap.size))).alloc (.map #[] 0)) p 1 _ _ (.map (some (w.heap.size+1))) s.o)
 have A:=@J (Fr (λj=>j=p) w ((((w.alloc (.map #[] 0)).setCell ⟨p,0,none⟩ (.map (some w.heap.size))).alloc (.map #[] 0)).setCell ⟨p,1,none⟩ (.map (some (w.heap.size+1))))) ((H.o.trans0 o.o).setCell ⟨p,1,none⟩ (.inr rfl) _)
 have g:=@J (Fr (λj=>j=p) (((w.alloc (.map #[] 0)).setCell ⟨p,0,none⟩ (.map (some w.heap.size))).alloc (.map #[] 0)) ((((w.alloc (.map #[] 0)).setCell ⟨p,0,none⟩ (.map (some w.heap.size))).alloc (.map #[] 0)).setCell ⟨p,1,none⟩ (.map (some (w.heap.size+1))))) ((Fr.refl (λj=>j=p) _).setCell ⟨p,1,none⟩ (.inr rfl) _)
 have G:=J (F.o.keep g.o (λe=>by have:=u.o;omega))
 have K:=J (I.o.keep g.o (λe=>by have:=u.o;omega))
 have c1:(((w.alloc (.map #[] 0)).setCell ⟨p,0,none⟩ (.map (some w.heap.size))).alloc (.map #[] 0)).cell? ⟨p,1,none⟩=some b:=by have:=zq s.o 1 _ rfl;simpa using this
 have Z:=yl (i:=1) s.o
 have z:=@J (Fr No m ((((w.alloc (.map #[] 0)).setCell ⟨p,0,none⟩ (.map (some w.heap.size))).alloc (.map #[] 0)).setCell ⟨p,1,none⟩ (.map (some (w.heap.size+1))))) (f.trans A.o (λi hi e=>by omega))
 clear v r E L H k o s F I g
 go_enter Tryz.func72,Tryz.ntmps72
 have S:=tru
 go_wp2_with (clear S;go_at_call 125;generalize ab:((((w.alloc (.map #[] 0)).setCell ⟨p,0,none⟩ (.map (some w.heap.size))).alloc (.map #[] 0)).setCell ⟨p,1,none⟩ (.map (some (w.heap.size+1))))=wc at*;refine(znM m wc z.o).mono ?_;rintro e n ⟨B,rfl,V,O,N,Q⟩;have R:=J O;have t:=J N;have l:=J Q;clear O N Q;have y:=J (t.o.obj T.o id);have c2:n.cell? ⟨p,2,none⟩=some c:=(by have:=zq y.o 2 _ rfl;simpa using this);have aa:=yl (i:=2) y.o;go_frame)
 refine bodyPost_end (results_none rfl _ _ _) rfl ?_
 have U:=heap_setCell_same n p 2 _ _ (.pointer (some ⟨B,0,none⟩)) y.o
 have d:Fr (λj=>j=p) n (n.setCell ⟨p,2,none⟩ (.pointer (some ⟨B,0,none⟩))):=(Fr.refl (λj=>j=p) n).setCell ⟨p,2,none⟩ (.inr rfl) _
 have ZC:=A.o.size
 have PZ:=u.o
 have MZ:w.heap.size<wc.heap.size∧w.heap.size+1<wc.heap.size:=⟨G.o.lt,K.o.lt⟩
 have W0:=f.size
 refine⟨rfl,(A.o.trans0 t.o).trans d (λ_ _ h=>h),w.heap.size,w.heap.size+1,B,V,λj D=>?_,λX hX C=>?_⟩
 ·rcases D with e|e|e
  ·omega
  ·omega
  ·have:=l.o j e;omega
 ·refine⟨?_,?_,⟨[],(G.o.keep t.o id).keep d (λe=>by omega),λx cs=>by simp⟩,⟨[],(K.o.keep t.o id).keep d (λe=>by omega),λq x=>by simp⟩,λe he=>(by cases he),⟨by omega,by omega,by omega,λe=>by have:=l.o _ e;omega,λe=>by have:=l.o _ e;omega,λe=>by have:=l.o _ e;omega⟩,⟨hp,by omega,by omega⟩,hX⟩
  ·simpa using U
  ·exact R.o.frV d (λj D e=>by have:=l.o j D;omega) (λj e=>by omega)
theorem zkz (w:World):(Instr.build 137 #[]).run prog w=.ok (.agg #[.map none,.map none,.pointer none]) w:=by kernel_rfl
theorem zl1 (c w:World) (f:Fr No c w):
  Calls prog 37 #[] w λe w'=>e=.returned (.pointer (some ⟨w.heap.size,0,none⟩))∧Fr No w w'∧∃ma ms g a,(∀j,poV w.heap.size ma ms a j→w.heap.size≤j)∧∀X:Nat→Prop,(∀j,poV w.heap.size ma ms a j→X j)→∀C,yn c w' w.heap.size ma ms g a X C [] 0:=by
 have b:=J ((frN w).alloc (.cells #[.map none,.map none,.pointer none] 137))
 have l:=J (ye w (.cells #[.map none,.map none,.pointer none] 137))
 have n:=J (zgK c _ (f.trans0 b.o) f.size l.o)
 go_enter Tryz.func37,Tryz.ntmps37
 have⟨o,p⟩:=tZ2
 go_wp2_with ((first|((with_reducible refine zt ?_);clear o;with_reducible refine yt 2 ?_;refine zg rfl (yf (t:=137) rfl rfl (zkz _)) ?_)|(clear p;go_at_call 72;refine n.o.mono ?_;rintro e u ⟨rfl,d,ma,ms,g,a,k,h⟩;have m:=J d;have r:=J k;have q:=J h;clear d k h));go_frame)
 go_ret
 exact⟨rfl,b.o.trans m.o (λi hi e=>by omega),ma,ms,g,a,λj s=>by
  have:=b.o.size
  rcases s with e|e
  ·omega
  ·have:=r.o j e;omega,q.o⟩
def Zl (L:List yb) (x:zd):Bool:=decide (x∈xq L)
def zeG (b:zd→Bool):List zd→Int
 |[]=> -1
 |y::r=>if b y=true then 0 else if r.any b=true then 1+zeG b r else -1
theorem zcN {b:zd→Bool}:∀ {l:List zd},(∀y∈l,b y=false)→zeG b l= -1
 |[],_=>rfl
 |y::r,h=>by
  have a:=h y (.head _)
  have c:r.any b=false:=by rw[List.any_eq_false];intro z d;simp[h z (.tail _ d)]
  simp[zeG,a,c]
theorem zdD {b:zd→Bool} {x:zd}:∀ {l:List zd} {n:Nat},l[n]? =some x→b x=true→(∀y∈l.take n,b y=false)→zeG b l=n
 |[],n,h,_,_=>by simp at h
 |y::r,0,h,a,_=>by
  simp at h
  subst h
  simp[zeG,a]
 |y::r,n+1,h,a,hn=>by
  have d:b y=false:=hn y (by simp)
  have c:r[n]? =some x:=by simpa using h
  have e:r.any b=true:=any_eq_true.2 ⟨x,mem_of_getElem? c,a⟩
  have:=zdD c a (λz f=>hn z (by simp[f]))
  simp only[zeG,d,Bool.false_eq_true,if_false,e,if_true,this]
  omega
def zeC (p:Nat):Value:=.func (.func 99) #[.pointer (some ⟨p,0,none⟩)] #[]
structure vi (b:zd→Bool) (l R:List zd) (n m:Nat):Prop where
 len:R.length=l.length
 pre:R.take n=(l.take m).filter λx=> !b x
 suf:R.drop m=l.drop m
 lt:n<m
 le:m≤l.length
theorem vi.start {b:zd→Bool} {l:List zd} {n:Nat} {k:zd} (h:l[n]? =some k) (c:b k=true) (d:∀y∈l.take n,b y=false):vi b l l n (n+1):=by
 have a:=(List.getElem?_eq_some_iff.1 h).1
 refine⟨rfl,?_,rfl,by omega,a⟩
 rw[take_add_one,h,filter_append]
 simp only[Option.toList_some]
 rw[List.filter_eq_self.2 (λx e=>by simp[d x e])]
 simp[c]
theorem vi.skip {b:zd→Bool} {k:zd} {l R:List zd} {n m:Nat} (h:vi b l R n m) (c:l[m]? =some k) (d:b k=true):vi b l R n (m+1):=by
 have a:=(List.getElem?_eq_some_iff.1 c).1
 refine⟨h.len,?_,?_,by have:=h.lt;omega,a⟩
 ·rw[take_add_one,c,filter_append,h.pre]
  simp[d]
 ·rw[←drop_drop,h.suf,drop_drop]
theorem vi.keep {b:zd→Bool} {x:zd} {l R:List zd} {n m:Nat} (h:vi b l R n m) (c:l[m]? =some x) (f:b x=false):vi b l (R.set n x) (n+1) (m+1):=by
 have a:=(List.getElem?_eq_some_iff.1 c).1
 have j:=h.lt
 have d:=h.len
 refine⟨by rw[List.length_set,d],?_,?_,by omega,a⟩
 ·rw[take_add_one (l:=l),c,filter_append,←h.pre,take_add_one,List.getElem?_set_self (by omega)]
  have e:(R.set n x).take n=R.take n:=by
   apply List.ext_getElem?
   intro i
   rw[List.getElem?_take,List.getElem?_take]
   split
   ·rw[List.getElem?_set_ne (by omega)]
   ·rfl
  rw[e]
  simp[f]
 ·rw[List.drop_set_of_lt (by omega),←drop_drop,h.suf,drop_drop]
theorem vi.at_ {b:zd→Bool} {x:zd} {l R:List zd} {n m:Nat} (h:vi b l R n m) (c:l[m]? =some x):R[m]? =some x:=by
 have a:(R.drop m)[0]? =(l.drop m)[0]? :=by rw[h.suf]
 simpa[c] using a
theorem vi.done {b:zd→Bool} {l R:List zd} {n:Nat} (h:vi b l R n l.length):R.take n=l.filter λx=> !b x:=by rw[h.pre,take_length]
def zmb (B:Nat) (w:World) (v:Value) (b:zd→Bool) (l:List zd) (v':Value) (w':World):Prop:=
 w'.ownsRow B 41 32 v' (l.filter λx=> !b x).length ((l.filter λx=> !b x).flatMap zf)∧Fr (λj=>v.ownBlock=some j) w w'∧(∀j,v'.ownBlock=some j→v.ownBlock=some j)
section
variable {w0 w:World} {p ma ms g N:Nat} {VG X:Nat→Prop} {C:zd→List Value} {L:List yb}
theorem zbE (h:yn w0 w p ma ms g VG X C L N) {v:Value} {l:List zd} (u:y3 w v l) (Q:l.length≤100000):
  Calls prog 137 #[v,zeC p] w λe w'=>e=.returned (.int .i64 (zeG (Zl L) l))∧Fr No w w':=by
 obtain⟨S,T,rfl⟩:=u.2.form
 unfold zeC
 have A:=J u
 have B:=J (λw' (f:Fr No w w')=>h.fr0 f)
 clear u h
 go_enter Tryz.func137,Tryz.ntmps137
 go_wp2
 go_loopw [8] (λz wr=>∃n:Nat,z=.int .i64 n∧n≤l.length∧(∀y∈l.take n,Zl L y=false)∧Fr No w wr) (λz _=>l.length-(intOf z).toNat)
 case atStart=>exact⟨0,rfl,zero_le _,by simp,Fr.refl _ _⟩
 case round=>
  obtain⟨n,rfl,R,m,fr⟩:=hrel
  have d:=J fr
  have r:=J m
  clear fr m
  by_cases h:n<l.length
  ·have O:(n:Int)<(l.length:Int):=by omega
   obtain⟨x,i⟩:∃x,l[n]? =some x:=⟨_,getElem?_eq_getElem h⟩
   obtain⟨b,off,c,M,F,K⟩:=(A.o.keep d.o).at_ i
   cases M
   have t:=J (A.o.1 x (mem_of_getElem? i))
   have D:=J (zx t.o)
   have E:=J F
   clear F K
   by_cases hxk:Zl L x=true
   ·have H:=J (zdD i hxk r.o)
    have o:=@J (decide (x∈xq L)=true) (hxk)
    clear i hxk
    go_wp2_with (first|(refine zn3 rfl rfl rfl E.o D.o ?_)|(go_at_call 99;refine(zeD (B.o _ d.o) t.o).mono ?_;rintro e P ⟨rfl,k⟩;rw[o.o];have q:=J (d.o.trans0 k);clear k))
    go_ret
    exact⟨by rw[H.o];rfl,q.o⟩
   ·have o:=@J (decide (x∈xq L)=false) (by simpa[Zl] using hxk)
    have s:=@J (∀y∈l.take (n+1),Zl L y=false) (λy a=>by
     rw[take_add_one,i] at a
     rcases mem_append.1 a with a|a
     ·exact r.o y a
     ·simp at a;subst a;simpa using hxk)
    clear i hxk
    go_wp2_with (first|(refine zn3 rfl rfl rfl E.o D.o ?_)|(go_at_call 99;refine(zeD (B.o _ d.o) t.o).mono ?_;rintro e P ⟨rfl,k⟩;rw[o.o];have q:=J (d.o.trans0 k);clear k))
    go_roundw
    case rel=>exact⟨n+1,by simp,by omega,s.o,q.o⟩
    case measure=>show l.length-(n+1)<l.length-n;omega
  ·have O:¬(n:Int)<(l.length:Int):=by omega
   have G:n=l.length:=by omega
   have j:∀y∈l,Zl L y=false:=by have:=r.o;rw[G,take_length] at this;exact this
   have I:=J (zcN j)
   clear j G
   go_wp2
   go_ret
   exact⟨by rw[I.o];rfl,d.o⟩
theorem zaT (h:yn w0 w p ma ms g VG X C L N) {B:Nat} {v:Value} {l:List zd} (q:w.ownsRow B 41 32 v l.length (l.flatMap zf)) (ok:∀x∈l,zX x) (hN:l.length≤100000) (hq:∀gb,v.ownBlock=some gb→∀w',Fr (· =gb) w w'→yn w0 w' p ma ms g VG X C L N):
  Calls prog 98 #[v,zeC p] w λe w'=>∃v',e=.returned v'∧zmb B w v (Zl L) l v' w':=by
 have zh:=yR
 have M:=J (zbE h (y3.own q ok) hN)
 by_cases hin:l.any (Zl L)=true
 ·obtain⟨va,s,e⟩:=q.slice.arg.form
  subst e
  obtain⟨i,k,hi⟩:∃i k,l[i]? =some k∧Zl L k=true∧∀y∈l.take i,Zl L y=false:=by
   clear q ok hN M h hq
   induction l with
   |nil=>cases hin
   |cons y r ih=>
    by_cases e:Zl L y=true
    ·exact⟨0,y,by simp,e,by simp⟩
    ·have U:r.any (Zl L)=true:=by
      rw[List.any_cons] at hin
      rw[show Zl L y=false by simpa using e,Bool.false_or] at hin
      exact hin
     obtain⟨i,k,h1,h2,h3⟩:=ih U
     refine⟨i+1,k,by simpa using h1,h2,λz hz=>?_⟩
     rw[List.take_succ_cons] at hz
     rcases List.mem_cons.1 hz with rfl|hz
     ·simpa using e
     ·exact h3 z hz
  have EI:=J (zdD hi.1 hi.2.1 hi.2.2)
  have ST:=J (vi.start hi.1 hi.2.1 hi.2.2)
  have al:=(List.getElem?_eq_some_iff.1 hi.1).1
  obtain⟨g,rfl⟩:∃g,va=some ⟨g,0,none⟩:=by
   rcases q.2 with⟨e,_⟩|⟨g,c,ak,e,_⟩
   ·injection e with e1 e2;omega
   ·injection e with e1;exact⟨g,e1⟩
  have j1:¬(i:Int)= -1:=by omega
  have HL:=J q
  have OK:=J ok
  have NQ:=J (hq g rfl)
  clear q ok h hq hi hin
  unfold zeC
  unfold zeC at M
  go_enter Tryz.func98,Tryz.ntmps98
  go_wp2_with (go_at_call 137;refine M.o.mono ?_;rintro e w1 ⟨rfl,T⟩;rw[EI.o];have I:=J T;clear T)
  rw[show((i:Int)== -1)=false from by simp]
  clear j1
  go_loopw [5,6] (λnv mv wr=>∃(n m:Nat) (R:List zd),nv=.int .i64 n∧mv=.int .i64 m∧vi (Zl L) l R n m∧wr.ownsRow B 41 32 (.slice (some ⟨g,0,none⟩) l.length s) l.length (R.flatMap zf)∧(∀x∈R,zX x)∧Fr (· =g) w wr) (λ_ mv _=>l.length-(intOf mv).toNat)
  case atStart=>exact⟨i,i+1,l,rfl,by simp,ST.o,zb HL.o I.o (λ_ _=>id),OK.o,I.o.of0⟩
  case round=>
   obtain⟨n,m,R,rfl,rfl,o,ho,hok,fr⟩:=hrel
   have Y:=J o
   have A:=J ho
   have b:=J hok
   have Z:=J fr
   have an:=o.le
   have ao:=o.lt
   have D:=J o.len
   clear o ho hok fr
   by_cases h:m<l.length
   ·have i1:(m:Int)<(l.length:Int):=by omega
    have i2:(n:Int)<(l.length:Int):=by omega
    obtain⟨x,H⟩:∃x,l[m]? =some x:=⟨_,getElem?_eq_getElem h⟩
    have W:=Y.o.at_ H
    have O:=@J (wr.ownsRow B 41 32 (.slice (some ⟨g,0,none⟩) R.length s) R.length (R.flatMap zf)) (by rw[D.o];exact A.o)
    obtain⟨b2,aj,ah,hv,V,hb⟩:=(y3.own O.o b.o).at_ W
    cases hv
    have OX:=J (OK.o x (mem_of_getElem? H))
    have d:=J (zx OX.o)
    have R1:=@J (wr.rangeAt g (m*32) (zf x)) (by simpa using V)
    have FA:=J ((frN wr).alloc (.cells (zf x).toArray 41))
    have RN:=J (zy wr (zf x) 41)
    have S:=J (NQ.o _ (Z.o.trans0 FA.o))
    clear V hb W
    by_cases hxk:Zl L x=true
    ·have D1:=@J (decide (x∈xq L)=true) (hxk)
     have u:=J (Y.o.skip H hxk)
     clear H hxk
     go_wp2_with (first|(refine zn3 rfl rfl rfl R1.o d.o ?_)|(refine zi rfl (zm (w:=wr) (cs:=zf x) (ty:=41) rfl rfl rfl (by rw[d.o];rfl) (by rw[d.o];exact yp) zS) ?_)|(refine zn3 rfl rfl rfl RN.o d.o ?_)|(go_at_call 99;refine(zeD S.o OX.o).mono ?_;rintro e w2 ⟨rfl,G⟩;rw[D1.o];have K:=J (FA.o.trans0 G);clear G))
     go_roundw
     case rel=>exact⟨n,m+1,R,rfl,by simp,u.o,zb A.o K.o (λ_ _=>id),b.o,Z.o.trans0 K.o⟩
     case measure=>show l.length-(m+1)<l.length-m;omega
    ·have D1:=@J (decide (x∈xq L)=false) (by simpa[Zl] using hxk)
     have u:=J (Y.o.keep H (by simpa using hxk))
     clear H hxk
     go_wp2_with (first|(refine zn3 rfl rfl rfl af.o d.o ?_)|(refine zi rfl (zK (ty:=41) rfl rfl rfl (by rw[d.o];exact TH.o) (by rw[d.o];exact yp) zS) ?_)|(refine zn3 rfl rfl rfl R1.o d.o ?_)|(refine zi rfl (zm (w:=wr) (cs:=zf x) (ty:=41) rfl rfl rfl (by rw[d.o];rfl) (by rw[d.o];exact yp) zS) ?_)|(refine zn3 rfl rfl rfl RN.o d.o ?_)|(go_at_call 99;refine(zeD S.o OX.o).mono ?_;rintro e w2 ⟨rfl,G⟩;rw[D1.o];have K:=J (FA.o.trans0 G);have af:=J (za RN.o G id);have Q:=J (zb O.o K.o (λ_ _=>id));have TH:=J (Js Q.o (show n<R.length by rw[D.o];omega));clear G))
     have ad:=J (zg1 (f:=zf) (λy F=>zx (b.o y F)) Q.o (show n<R.length by rw[D.o];omega) x d.o)
     have ae:=@J ((w2.setCells g (n*32) (zf x)).ownsRow B 41 32 (.slice (some ⟨g,0,none⟩) l.length s) l.length ((R.set n x).flatMap zf)) (by have:=ad.o;rw[D.o] at this;exact this)
     go_roundw
     case rel=>exact⟨n+1,m+1,R.set n x,by simp,by simp,u.o,ae.o,λy F=>(List.mem_or_eq_of_mem_set F).elim (b.o y) (λe=>e▸OX.o),(Z.o.trans0 K.o).trans (zu g (zf x) (n*32) w2) (λ_ _ h=>h)⟩
     case measure=>show l.length-(m+1)<l.length-m;omega
   ·have i1:¬(m:Int)<(l.length:Int):=by omega
    have ag:m=l.length:=by omega
    subst ag
    have DN:=J Y.o.done
    have ab:=@J ((R.flatMap zf).length=l.length*32) (A.o.1)
    have LN:=@J ((l.filter λx=> !Zl L x).length=n) (by rw[←DN.o,length_take,D.o];omega)
    obtain⟨cs,E,t⟩:=ZK (P:=prog) wr 38 41 0 (zf yO) qi yR zS (by rw[zx xO];decide) g (n*32) (l.length-n) (s-n) (by omega) (λj hj=>by
     rw[zx xO] at hj
     refine⟨?_,A.o.frozenAt _⟩
     rw[A.o.cellAt (n*32+j) (by omega),getElem?_eq_getElem (by rw[ab.o];omega)]
     rfl)
    rw[zx xO] at E
    have HS:=J (qY A.o (n*32) (cs:=cs) (by rw[E];omega))
    have HT:=J (Zs HS.o (m:=n) (by omega))
    have HF:=@J ((setM (R.flatMap zf) (n*32) cs).take (n*32)=(l.filter λx=> !Zl L x).flatMap zf) (by
     rw[YS _ _ _ _ (le_refl _),←DN.o]
     conv=>lhs;rw[←List.take_append_drop n R]
     rw[List.flatMap_append,List.take_append_of_le_length,List.take_of_length_le]
     ·rw[xJ zf 32 _ (λa ha=>zx (b.o a (List.mem_of_mem_take ha))),length_take,D.o];omega
     ·rw[xJ zf 32 _ (λa ha=>zx (b.o a (List.mem_of_mem_take ha))),length_take,D.o];omega)
    have FZ:=J (Z.o.trans (zu g cs (n*32) wr) (λ_ _ h=>h))
    have aa:=J t
    have ai:l.length≤s:=y7.cap A.o.slice.arg
    have jc:¬s=n:=by omega
    have aq:¬n=s:=by omega
    clear t E
    go_wp2_with (refine jT rfl rfl rfl aa.o ?_)
    go_ret
    refine⟨.slice (some ⟨g,0,none⟩) n s,by rfl,?_,FZ.o.mono (λj hj=>by rw[hj];rfl),λ_ h=>h⟩
    rw[LN.o,←HF.o]
    exact HT.o
 ·have EI:=@J (zeG (Zl L) l= -1) (zcN (λy F=>by cases o:Zl L y with|false=>rfl|true=>exact absurd (any_eq_true.2 ⟨y,F,o⟩) hin))
  have FN:=J ((List.filter_eq_self.2 (λy F=>by cases o:Zl L y with|false=>rfl|true=>exact absurd (any_eq_true.2 ⟨y,F,o⟩) hin):l.filter (λx=> !Zl L x)=l))
  obtain⟨va,s,e⟩:=q.slice.arg.form
  subst e
  have HL:=J q
  clear q ok h hq hin
  unfold zeC
  unfold zeC at M
  go_enter Tryz.func98,Tryz.ntmps98
  go_wp2_with (go_at_call 137;refine M.o.mono ?_;rintro e w1 ⟨rfl,T⟩;rw[EI.o];have I:=J T;clear T)
  go_ret
  exact⟨_,by rfl,by rw[FN.o];exact zb HL.o I.o (λ_ _=>id),I.o.of0,λ_ h=>h⟩
end
theorem zfe {w:World} {b off:Nat} {l k:List Value} (f:l.length=k.length) (d:w.rangeAt b off l) (e:w.rangeAt b off k):l=k:=by
 refine List.ext_getElem f (λi x y=>?_)
 have a:=d i _ (getElem?_eq_getElem x)
 have c:=e i _ (getElem?_eq_getElem y)
 exact Option.some.inj (a.symm.trans c)
section
variable {w0 w:World} {p ma ms g N:Nat} {VG X:Nat→Prop} {C:zd→List Value} {L:List yb} {S:List zr} {I:List zd}
theorem zno (h:yn w0 w p ma ms g VG X C L N) (i:N≤1000):
  Calls prog 25 #[.pointer (some ⟨p,0,none⟩)] w λe w'=>∃a,e=.returned a∧RowK w w' a (xq L):=by
 have c2:=h.cells.2.2
 have c:=J (ziT h.gr i)
 clear h
 go_enter Tryz.func25,Tryz.ntmps25
 have d:=tru
 go_wp2_with (clear d;go_at_call 55;refine c.o.mono ?_;rintro e j ⟨a,rfl,b⟩;have f:=J b;clear b;go_frame)
 go_ret
 exact⟨a,rfl,by have:=f.o;rw[vn] at this;exact this⟩
def zbk (w0 w1:World) (p:Nat) (X:Nat→Prop) (S:List zr) (I:List zd) (n:Nat) (A:List yb) (wr:World):Prop:=
 ∃ma ms g VG Xn C N,yn w0 wr p ma ms g VG Xn C A N∧N≤n∧(∀j,Xn j→X j∨w1.heap.size≤j)∧(∀j,X j→Xn j)∧(∀j,Xn j→j<wr.heap.size)∧(∀j,poV p ma ms VG j→j=p∨w1.heap.size≤j)∧vP S I A∧A.length≤32∧Fr (λj=>j=p) w1 wr
theorem zfg {r wr:World} {n:Nat} {A:List yb} (B:vj w0) (D:X p) (h:zbk w0 r p X S I n A wr) (G:n≤800) {wc:World} {s:Nat} {u:Nat→Prop} {y:List yx} (z:Cn wc wr s u S y I) (hS:∀c∈S,c.ok) {t:TxD} {cs:List Value} (E:Kept X r (λw=>TxQ w t cs)) {now:Nat} (k:now<18446744073709551616):
  Calls prog 16 #[.pointer (some ⟨p,0,none⟩),.pointer (some ⟨s,0,none⟩),.agg cs.toArray,.int .u64 now] wr λe w'=>∃v,e=.returned v∧zbk w0 r p X S I (n+1) (Zh S I A t now) w':=by
 obtain⟨ma,ms,g,VG,x,C,N,d,F,b,l,i,a,q,f,fr⟩:=h
 have o:Kept x wr (λw=>TxQ w t cs):=E.step (fr.mono (λj e=>by rw[e];exact D)) (λj m e=>(b j e).resolve_right (by omega))
 refine(zef (B.keep0 d.fr) d (by omega) i q f z hS o k).mono λe w' ⟨gv,he,⟨VG',C',hpo',f',hV'⟩,_⟩=>⟨_,he,ma,ms,g,VG',_,C',N+1,hpo',by omega,?_,λj m=>.inl (l j m),?_,?_,q.acc t now,zaZ q f t now,fr.trans f' (λj m e=>(a j e).resolve_right (by omega))⟩
 ·intro j e
  rcases e with e|e
  ·exact b j e
  ·rcases hV' j e with e|e
   ·exact b j (d.sub j (.inr (.inr (.inr e))))
   ·exact .inr (le_trans fr.size e)
 ·intro j e
  rcases e with e|e
  ·exact Nat.lt_of_lt_of_le (i j e) f'.size
  ·exact hpo'.hi j (.inr (.inr (.inr e)))
 ·intro j e
  rcases e with e|e|e|e
  ·exact .inl e
  ·exact a j (.inr (.inl e))
  ·exact a j (.inr (.inr (.inl e)))
  ·rcases hV' j e with e|e
   ·exact a j (.inr (.inr (.inr e)))
   ·exact .inr (le_trans fr.size e)
theorem zbk.fr0 {k wr w':World} {n:Nat} {A:List yb} (h:zbk w0 k p X S I n A wr) (f:Fr No wr w'):zbk w0 k p X S I n A w':=by
 obtain⟨ma,ms,g,VG,l,C,N,i,m,d,b,c,e,q,a,fr⟩:=h
 exact⟨ma,ms,g,VG,l,C,N,i.fr0 f,m,d,b,λj o=>Nat.lt_of_lt_of_le (c j o) f.size,e,q,a,fr.trans0 f⟩
theorem zbk.fr {a wr:World} {n:Nat} {A:List yb} (h:zbk w0 a p X S I n A wr):Fr (λj=>j=p) a wr:=by
 obtain⟨ma,ms,g,VG,k,C,N,i,l,e,c,d,f,m,b,fr⟩:=h
 exact fr
theorem zf1 {S:List zr} {I:List zd} {A:List yb} {l:List TxD} {n:Nat} {t:TxD} (h:l[n]? =some t) (now:Int):Zy S I A (l.take (n+1)) now=Zh S I (Zy S I A (l.take n) now) t now:=by
 unfold Zy
 rw[take_add_one,h,List.foldl_append]
 rfl
theorem zfG {S:List zr} {I:List zd} {A:List yb} {l:List yb} {n:Nat} {t:yb} (h:l[n]? =some t):Xf S I A (l.take (n+1))=Zh S I (Xf S I A (l.take n)) t.tx t.added:=by
 unfold Xf
 rw[take_add_one,h,List.foldl_append]
 rfl
end
def znk (w0 w:World) (p:Nat) (X:Nat→Prop) (S:List zr) (I:List zd) (L:List yb) (first:List TxD) (now:Int) (e:Ending) (w':World):Prop:=
 ∃gv,e=.returned (.tuple #[gv,.int .i64 0])∧(∃ma ms g VG X' C N,yn w0 w' p ma ms g VG X' C (Qe S I L first now) N∧N≤first.length+L.length∧(∀j,X' j→X j∨w.heap.size≤j)∧(∀j,X j→X' j)∧(∀j,X' j→j<w'.heap.size)∧(∀j,poV p ma ms VG j→j=p∨w.heap.size≤j))∧Fr (λj=>j=p) w w'∧
  w'.ownsRow w.heap.size 41 32 gv (zlj S I L first now).length ((zlj S I L first now).flatMap zf)
section
variable {w0 w:World} {p ma ms g N:Nat} {VG X:Nat→Prop} {C:zd→List Value} {L:List yb} {S:List zr} {I:List zd}
theorem zlk (hg:vj w0) (h:yn w0 w p ma ms g VG X C L N) (hN:N≤1000) (hX:∀j,X j→j<w.heap.size) (aD:L.length≤32) (Y:∀e∈L,0≤e.added∧e.added<18446744073709551616) {wc:World} {pc:Nat} {VC:Nat→Prop} {bs:List yx} (hc:∀w',Fr (λj=>j=p) w w'→Cn wc w' pc VC S bs I) (hS:∀c∈S,c.ok)
  {fv:Value} {first:List TxD} (hf:Kept X w (λw=>vC w fv first)) (bh:first.length≤700) {now:Nat} (aH:now<18446744073709551616):
  Calls prog 52 #[.pointer (some ⟨p,0,none⟩),.pointer (some ⟨pc,0,none⟩),fv,.int .u64 now] w (znk w0 w p X S I L first now):=by
 have zT:=jV
 have zh:=yR
 have HH:=J h
 have HG:=J hg
 have HC:=J hc
 have HS:=J hS
 have HF:=J hf
 have aB:=J hX
 have aO:=J Y
 have XP:=J (h.sub p (.inl rfl))
 have ad:=J aD
 have AK:=J (λw' (f:Fr No w w')=>ziT (h.fr0 f).gr hN)
 obtain⟨fa,fc,rfl⟩:=hf.now.form
 have HD:=J (h.fr0 (frN w).drew)
 have af:=J h.ids
 clear h hg hc hS hf hX Y aD
 go_enter Tryz.func52,Tryz.ntmps52
 go_wp2_with fail
 refine wrLx [ff,ff,ff,ff,tt,ff,ff,ff,ff,ff,ff] (λw'=>w'.cell? ⟨p,0,none⟩=some (.map (some ma))∧w'.cell? ⟨p,2,none⟩=some (.pointer (some ⟨g,0,none⟩))) ?_ (λK hK=>?_)
 ·exact⟨HD.o.cells.1,HD.o.cells.2.2⟩
 have aP:=J (AK.o w.drew (frN w).drew)
 have aa:=J (frN w).drew
 generalize w.drew=wd at*
 repeat((first|(refine zj rfl ?_;constructor;constructor;(focus(first|(rintro w' ⟨s1,s2⟩;go_simp;(try with_reducible rfl);done))))|(refine zl rfl ?_));try simp only[Act.put,pA,pB,pC])
 (refine zE rfl (λK' hK'=>?_))
 go_simp
 refine aP.o.mono ?_
 rintro e l ⟨iv,rfl,G,f1⟩
 rw[vn] at G
 obtain⟨ia,ic,a7⟩:=G.slice.arg.form
 subst a7
 have O1:=J G
 have F1:=J f1
 have W:=J (HD.o.fr0 f1)
 clear G f1
 refine nXt hK' ?_ λhS=>?_
 ·exact⟨W.o.cells.1,W.o.cells.2.2⟩
 try simp only[Act.put,pA,pB,pC]
 repeat((first|(refine zj rfl ?_;constructor;constructor;(focus(first|(rintro w' ⟨s1,s2⟩;go_simp;(try with_reducible rfl);done))))|(refine zl rfl ?_));try simp only[Act.put,pA,pB,pC])
 refine zL (hK.out _ _ ?_)
 have k:=J (aa.o.trans0 F1.o)
 have EL:=@J ((xq L).length=L.length) (length_map _)
 rw[EL.o]
 have ae:=@J (l.ownsRow wd.heap.size 41 32 (.slice ia L.length ic) (xq L).length ((xq L).flatMap zf)) (by have:=O1.o;rw[EL.o] at this⊢;exact this)
 have aQ:=J (zgK w0 l W.o.fr W.o.lo3.1 W.o.obj)
 have d:=@J (∀j,(Value.slice ia L.length ic).ownBlock=some j→w.heap.size≤j∧j<l.heap.size) (λj a=>by have:=ae.o.lt j a;have:=aa.o.size;omega)
 have y:=@J (p<w.heap.size) (aB.o p XP.o)
 have av:=@J (∀j,X j→j<l.heap.size) (λj a=>by have:=aB.o j a;have:=k.o.size;omega)
 have K0:=tru
 go_wp2_with (clear K0;go_at_call 72;refine aQ.o.mono ?_;rintro e w5 ⟨rfl,f5,aM,aN,g5,az,v5,p5⟩;have F5:=J f5;have V5:=J v5;have P5:=J p5;clear f5 v5 p5;go_frame)
 obtain⟨i,o⟩:∃i:Nat→Prop,i=λj=>X j∨(Value.slice ia L.length ic).ownBlock=some j:=⟨_,rfl⟩
 have aZ:=@J (∀j,i j→j<l.heap.size) (λj a=>by rw[o] at a;exact a.elim (av.o j) (λe=>(d.o j e).2))
 have ah:=@J (∀j,j<w.heap.size→i j→X j) (λj a e=>by rw[o] at e;exact e.resolve_right (λe=>by have:=(d.o j e).1;omega))
 have ai:=@J (∀j,X j→i j) (λj a=>by rw[o];exact .inl a)
 have aA:=@J (∀j,(Value.slice ia L.length ic).ownBlock=some j→i j) (λj a=>by rw[o];exact .inr a)
 clear o
 have aW:=@J (zbk w0 l p i S I 0 [] w5) (by
  have b:=P5.o (λj=>i j∨(j=aM∨j=aN∨az j)) (λj a=>a.elim (λe=>.inl (by rw[e];exact ai.o p XP.o)) .inr) (λ_=>[])
  refine⟨aM,aN,g5,az,_,_,0,b,le_refl _,λj a=>a.imp_right (V5.o j),λj a=>.inl a,λj a=>a.elim (λe=>Nat.lt_of_lt_of_le (aZ.o j e) F5.o.size) (λe=>b.hi j (.inr e)),λj a=>a.imp_right (V5.o j),.nil,by simp,F5.o⟩)
 have aw:=J (λwr (f:Fr (λj=>j=p) l wr)=>HC.o wr (k.o.of0.trans f (λ_ _ e=>e)))
 have ax:=@J (Kept i l (λw=>vC w (.slice fa first.length fc) first)) (HF.o.step k.o.of0 (λj a e=>ah.o j a e))
 have D:=J (ai.o p XP.o)
 go_wp2_with fail
 go_loopw [35] (λiv wr=>∃n:Nat,iv=.int .i64 n∧n≤first.length∧zbk w0 l p i S I n (Zy S I [] (first.take n) now) wr) (λiv _=>first.length-(intOf iv).toNat)
 case atStart=>exact⟨0,rfl,zero_le _,aW.o⟩
 case round=>
  obtain⟨n,rfl,hn,hr⟩:=hrel
  have RR:=J hr
  have FR:=J hr.fr
  clear hr
  by_cases ar:n<first.length
  ·have i1:(n:Int)<(first.length:Int):=by omega
   obtain⟨t,O⟩:∃x,first[n]? =some x:=⟨_,getElem?_eq_getElem ar⟩
   have ag:=J (zf1 (S:=S) (I:=I) (A:=[]) O now)
   obtain⟨bb,off,a1,ts,H,-,aI,ao⟩:=Vy (by decide) (λ_ _ _ h=>TxQ.len3' h) (ax.o.same (FR.o.mono (λj e=>by rw[e];exact D.o))) O
   cases H
   obtain⟨ja,jc,ka,kc,rfl⟩:=aI.form
   have R1:=J ao.now.1
   have KT:=@J (Kept i l (λw=>TxQ w t [.int .u32 t.ver,.slice ja t.ins.length jc,.slice ka t.outs.length kc])) (by
    obtain⟨bg,bc,ba,a8,aK,-,-,r⟩:=Vy (by decide) (λ_ _ _ h=>TxQ.len3' h) ax.o O
    cases aK
    have F:=(r wr (FR.o.mono (λj e=>by rw[e];exact D.o))).1
    have h2:=ao.now.1
    have e1:a8=[.int .u32 t.ver,.slice ja t.ins.length jc,.slice ka t.outs.length kc]:=zfe (by rw[TxQ.len3' r.now.2];rfl) F h2
    subst e1
    exact r.imp (λ_ _ h=>h.2))
   have FA:=J ((frN wr).alloc (.cells #[.int .u32 t.ver,.slice ja t.ins.length jc,.slice ka t.outs.length kc] 34))
   have RA:=J (qN wr t.ver (.slice ja t.ins.length jc) (.slice ka t.outs.length kc)).2.2.2
   have m:=J (zfg HG.o D.o (RR.o.fr0 FA.o) (by omega) (aw.o _ (FR.o.trans0 FA.o)) HS.o KT.o aH)
   rw[←ag.o] at m
   clear aI ao O
   have⟨K0,K1,K2,K3⟩:=tZ4
   go_wp2_with ((first|((with_reducible refine zt ?_);first|(clear K0;refine zn1 rfl rfl rfl R1.o rfl ?_)|(clear K2;refine zn1 rfl rfl rfl RA.o rfl ?_))|((with_reducible refine zv ?_);clear K1;refine zi rfl (zm (w:=wr) (ty:=34) (cs:=[.int .u32 t.ver,.slice ja t.ins.length jc,.slice ka t.outs.length kc]) rfl rfl rfl rfl yZ (qM rfl rfl rfl)) ?_;generalize wr.alloc (.cells #[.int .u32 t.ver,.slice ja t.ins.length jc,.slice ka t.outs.length kc] 34)=wA at*)|(clear K3;go_at_call 16;refine m.o.mono ?_;rintro e w9 ⟨v9,rfl,u⟩;have R9:=J u;clear u));go_frame)
   go_roundw
   case rel=>exact⟨n+1,by go_num,by omega,R9.o⟩
   case measure=>simp[intOf];omega
  ·have s:n=first.length:=by omega
   have i1:¬(n:Int)<(first.length:Int):=by omega
   have aX:=@J (zbk w0 l p i S I first.length (Zy S I [] first now) wr) (by have:=RR.o;rw[s,take_length] at this;exact this)
   clear s
   go_wp2_with fail
   go_loopw [47] (λiv v=>∃n:Nat,iv=.int .i64 n∧n≤L.length∧zbk w0 l p i S I (first.length+n) (Xf S I (Zy S I [] first now) (L.take n)) v) (λiv _=>L.length-(intOf iv).toNat)
   case atStart=>exact⟨0,rfl,zero_le _,aX.o⟩
   case round=>
    obtain⟨n,rfl,hn,hr⟩:=hrel
    rename World=>v
    have RQ:=J hr
    have FQ:=J hr.fr
    clear hr
    by_cases ar:n<L.length
    ·have i1:(n:Int)<(L.length:Int):=by omega
     obtain⟨e,O⟩:∃x,L[n]? =some x:=⟨_,getElem?_eq_getElem ar⟩
     have ag:=J (zfG (S:=S) (I:=I) (A:=Zy S I [] first now) O)
     have q:=mem_of_getElem? O
     have EX:=@J (e.id∈xq L) (mem_map.2 ⟨e,q,rfl⟩)
     have aC:=J (af.o e.id EX.o)
     have XL:=J (zx aC.o)
     have OQ:=J (zb ae.o FQ.o (λj a e=>by have:=(d.o j a).1;have:=y.o;omega))
     have aL:(xq L)[n]? =some e.id:=by unfold xq;rw[getElem?_map,O];rfl
     obtain⟨bb,off,a1,H,aJ,-⟩:=(y3.own OQ.o af.o).at_ aL
     rw[EL.o] at H
     cases H
     have R1:=J aJ
     have A1:=J (aO.o e q)
     obtain⟨P,Q,U,V,al⟩:=(W.o.data e q).now.form
     have Z:YH C L e.id=[.int .u32 e.tx.ver,.slice P e.tx.ins.length Q,.slice U e.tx.outs.length V,.int .u64 e.fee,.int .i64 e.size,.int .u64 e.added]:=by
      unfold YH
      rw[if_pos EX.o,al]
     obtain⟨M,hM,hm⟩:=W.o.am
     have LK:=J (λw' (h':qK w' ma M)=>Ys (w:=w') aC.o h' hm Z)
     have MN:=@J (ma≠p) (λe=>W.o.apart.1 e.symm)
     have KT:=@J (Kept i l (λw=>TxQ w e.tx [.int .u32 e.tx.ver,.slice P e.tx.ins.length Q,.slice U e.tx.outs.length V])) (((HH.o.data e q).step (V':=i) k.o.of0 (λj a e=>ah.o j a e)).imp (λw2 _ ⟨bp,F,h2⟩=>by
       rw[al] at F
       obtain⟨bk,bl,bn,bo,rfl⟩:=h2.form
       unfold zmx at F
       simp only[List.cons_append,List.nil_append,List.cons.injEq,and_true,true_and] at F
       rw[F.1,F.2]
       exact h2))
     have FA:=J ((frN v).alloc (.cells (zf e.id).toArray 41))
     have RX:=J (zy v (zf e.id) 41)
     have m:=J (zfg HG.o D.o (RQ.o.fr0 (FA.o.drew)) (by have:=ad.o;omega) (aw.o _ (FQ.o.trans0 FA.o.drew)) HS.o KT.o (now:=e.added.toNat) (by have:=A1.o;omega))
     rw[show((e.added.toNat:Nat):Int)=e.added from Int.toNat_of_nonneg A1.o.1,←ag.o] at m
     have aT:=@J (qK v ma M) (hM.keep FQ.o MN.o)
     clear aJ O q aL al Z hM hm
     have⟨K0,K1⟩:=tZ2
     go_wp2_with ((first|((with_reducible refine zt ?_);clear K0;refine zn3 rfl rfl rfl R1.o XL.o ?_)|((with_reducible refine zv ?_);clear K1;refine zob (w:=v) (cs:=zf e.id) rfl rfl rfl rfl XL.o zS ?_));go_frame)
     generalize bj:v.heap.size=qx at*
     generalize v.alloc (.cells (zf e.id).toArray 41)=wa at*
     have aY:=J (za RX.o (frN wa).drew id)
     have aS:=J ((aT.o.keep FA.o id).keep (frN wa).drew id)
     refine ym [ff,ff,ff,ff,ff,ff,ff,ff,ff,ff,tt] (λw'=>w'.rangeAt qx 0 (zf e.id)∧qK w' ma M) (by kernel_rfl) (by kernel_rfl) 10 (by kernel_rfl) (by kernel_rfl) ?_ (λK hK=>?_)
     ·exact⟨aY.o,aS.o⟩
     generalize wa.drew=wb at*
     repeat((first|(refine z7 rfl ?_;constructor;constructor;(focus(first|exact zn7 rfl (λw h=>h.1) XL.o|exact λw' h=>zQ (t:=133) rfl rfl rfl (LK.o w' h.2)|exact λw' _=>vT (t:=129) (f:=0) rfl rfl (zjt e.tx.ver P U e.tx.ins.length Q e.tx.outs.length V e.fee e.size e.added w')|exact λw' _=>vT (t:=129) (f:=2) rfl rfl (znG e.tx.ver P U e.tx.ins.length Q e.tx.outs.length V e.fee e.size e.added w')|(rintro w' ⟨s1,s2⟩;go_simp;(try with_reducible rfl);done))))|(refine ya rfl ?_));try simp only[Act.put,pA,pB,pC])
     (refine z6 rfl (λK' hK'=>?_))
     go_simp
     refine m.o.mono ?_
     rintro e' w9 ⟨v9,rfl,u⟩
     have R9:=J u
     clear u
     have bm:=ad.o
     refine hK'.out _ _ (λh=>absurd rfl h) (λhS=>?_)
     refine xD (hK.out _ _ ?_)
     go_wp2_with fail
     go_roundw
     case rel=>exact⟨n+1,by go_num,by omega,R9.o⟩
     case measure=>simp[intOf];omega
    ·have s:n=L.length:=by omega
     have i1:¬(n:Int)<(L.length:Int):=by omega
     obtain⟨R,T,g9,z,E,C9,N9,b,a6,aG,ak,aF,aq,hv,aE,aj⟩:=RQ.o
     rw[s,take_length] at b
     have b:yn w0 v p R T g9 z E C9 (Qe S I L first now) N9:=b
     have OQ:=J (zb ae.o aj (λj a e=>by have:=(d.o j a).1;have:=y.o;omega))
     have GB:=@J (∀gb,(Value.slice ia L.length ic).ownBlock=some gb→∀w',Fr (λj=>j=gb) v w'→yn w0 w' p R T g9 z E C9 (Qe S I L first now) N9) (λgb an w' f=>b.frV f (λj a e=>by
       have F:=d.o gb an
       have:=y.o
       rcases aq j a with e2|e2<;>omega) (λj e=>by have:=(d.o gb an).1;have:=HH.o.fr.size;omega) (λj e=>ak j (aA.o j (by rw[e];exact an))) (λ_ _ e=>e) b.sub)
     have au:=J (zaT b (B:=wd.heap.size) OQ.o af.o (by rw[EL.o];have:=ad.o;omega) GB.o)
     have ay:=J b
     have B9:=J (And.intro aG (And.intro ak (And.intro aF aq)))
     have aV:=@J (N9≤first.length+L.length) (by omega)
     have aR:=J aj
     clear s b a6 aG ak aF aq hv aE aj OQ
     unfold zeC at au
     have K0:=tru
     go_wp2_with (clear K0;go_at_call 98;refine au.o.mono ?_;rintro e w8 ⟨gv,rfl,od,fd,bd⟩;have OD:=J od;have FD:=J fd;clear od fd bd;go_frame)
     go_ret2
     have ab:Fr (λj=>(Value.slice ia L.length ic).ownBlock=some j) v w8:=FD.o
     have aU:yn w0 w8 p R T g9 z E C9 (Qe S I L first now) N9:=ay.o.frV ab (λj a e=>by
       have F:=d.o j e
       have:=y.o
       rcases B9.o.2.2.2 j a with e2|e2<;>omega) (λj e=>by have:=(d.o j e).1;have:=HH.o.fr.size;omega) (λj e=>B9.o.2.1 j (aA.o j e)) (λ_ _ e=>e) ay.o.sub
     have bf:=k.o.size
     refine⟨gv,rfl,⟨R,T,g9,z,E,C9,N9,aU,aV.o,λj a=>?_,λj a=>B9.o.2.1 j (ai.o j a),λj a=>Nat.lt_of_lt_of_le (B9.o.2.2.1 j a) ab.size,λj a=>(B9.o.2.2.2 j a).imp_right (λe=>by omega)⟩,?_,?_⟩
     ·rcases B9.o.1 j a with e|e
      ·by_cases hw:j<w.heap.size
       ·exact .inl (ah.o j hw e)
       ·exact .inr (by omega)
      ·exact .inr (by omega)
     ·exact(k.o.of0.trans aR.o (λ_ _ e=>e)).trans ab (λj a e=>by have:=(d.o j e).1;omega)
     ·have:(xq L).filter (λx=> !Zl (Qe S I L first now) x)=zlj S I L first now:=by
       unfold zlj
       refine List.filter_congr λx _=>?_
       simp[Zl]
      have ho:=OD.o
      rw[this] at ho
      exact xj ho aa.o.size
end
theorem zd0 {α:Type} {x y:List α} {k:Nat} (h:x.take k=y.take k) (e:x[k]? =y[k]?):x.take (k+1)=y.take (k+1):=by rw[take_add_one,take_add_one,h,e]
def zdm (w:World) (x y:List Int) (e:Ending) (w':World):Prop:=e=.returned (.bool (decide (x=y)))∧Fr No w w'
theorem zij (w:World) (a b:Value) (x y:List Int) (o:y7 w a x.length (x.map zM)) (p:y7 w b y.length (y.map zM)) (s:x.length≤maxLen):
  Calls prog 65 #[a,b] w (zdm w x y):=by
 unfold maxLen at s
 obtain⟨T,U,rfl⟩:=o.form
 obtain⟨V,W,rfl⟩:=p.form
 by_cases hl:x.length=y.length
 ·have q:((x.length:Int) !=(y.length:Int))=false:=by simp[hl]
  have v:=J hl
  clear hl
  go_enter Tryz.func65,Tryz.ntmps65
  go_wp2
  go_loopw [13] (λi wr=>∃n:Nat,n≤x.length∧i=.int .i64 n∧x.take n=y.take n∧Fr No w wr) (λi _=>x.length-(intOf i).toNat)
  case atStart=>exact⟨0,zero_le _,rfl,rfl,Fr.refl _ _⟩
  case round=>
   obtain⟨n,X,rfl,g,j⟩:=hrel
   by_cases hlt:n<x.length
   ·have h:n<y.length:=by have:=v.o;omega
    rcases o with(⟨_,e,_⟩|⟨z,E,c1,I,m,P,C,Q⟩)|⟨_,_,_,e,_⟩
    ·omega
    rotate_left
    ·omega
    rcases p with(⟨_,e,_⟩|⟨A,F,c2,L,M,N,B,O⟩)|⟨_,_,_,e,_⟩
    ·omega
    rotate_left
    ·omega
    cases I
    cases L
    have t:=j.cell (C n (zM x[n]) (by rw[getElem?_map,getElem?_eq_getElem hlt];rfl)) id
    have u:=j.cell (B n (zM y[n]) (by rw[getElem?_map,getElem?_eq_getElem h];rfl)) id
    unfold zM at t u
    have G:=J g
    have Y:(n:Int)<(x.length:Int):=by omega
    have Z:(n:Int)<(y.length:Int):=by omega
    clear g m P C Q M N B O
    by_cases hx:x[n]=y[n]
    ·have r:(x[n] !=y[n])=false:=by simp[hx]
     have H:=J hx
     clear hx
     go_wp2
     refine wrLx [ff,ff,ff,ff,ff,ff,ff,ff,ff] (λw'=>w'.cell? ⟨z,E+n,none⟩=some (.int .u8 x[n])∧w'.cell? ⟨A,F+n,none⟩=some (.int .u8 y[n])) ?_ (λK hK=>?_)
     ·exact⟨t,u⟩
     repeat((first|(refine zj rfl ?_;constructor;constructor;(focus(rintro w' ⟨R,S⟩;go_simp;(try with_reducible rfl);done)))|(refine zl rfl ?_));try simp only[Act.put,pA,pB,pC])
     refine zL (hK.out _ _ ?_)
     go_wp2
     go_roundw
     case rel=>exact⟨n+1,by omega,by go_num,zd0 G.o (by simp[H.o,hlt,h]),by(repeat(first|with_reducible exact Fr.refl _ _|with_reducible assumption|with_reducible refine Fr.drew ?_|with_reducible refine Fr.drewN ?_ _|with_reducible refine Fr.alloc ?_ _|with_reducible refine Fr.setCell ?_ _ (.inl (by simp<;>omega)) _))⟩
     case measure=>simp[intOf];omega
    ·have r:(x[n] !=y[n])=true:=by simp[hx]
     have d:decide (x=y)=false:=by
      simp only[decide_eq_false_iff_not]
      intro e;subst e;exact hx rfl
     have c:∀w',Fr No w w'→zdm w x y (.returned (.bool false)) w':=λw' f=>⟨by rw[d],f⟩
     have k:=J c
     clear c d hx
     go_wp2
     refine wrLx [ff,ff,ff,ff,ff,ff,ff,ff,ff] (λw'=>w'.cell? ⟨z,E+n,none⟩=some (.int .u8 x[n])∧w'.cell? ⟨A,F+n,none⟩=some (.int .u8 y[n])) ?_ (λK hK=>?_)
     ·exact⟨t,u⟩
     repeat((first|(refine zj rfl ?_;constructor;constructor;(focus(rintro w' ⟨R,S⟩;go_simp;(try with_reducible rfl);done)))|(refine zl rfl ?_));try simp only[Act.put,pA,pB,pC])
     refine zL (hK.out _ _ ?_)
     go_wp2
     go_ret
     exact k.o _ (by(repeat(first|with_reducible exact Fr.refl _ _|with_reducible assumption|with_reducible refine Fr.drew ?_|with_reducible refine Fr.drewN ?_ _|with_reducible refine Fr.alloc ?_ _|with_reducible refine Fr.setCell ?_ _ (.inl (by simp<;>omega)) _)))
   ·have l:n=x.length:=by omega
    have D:decide (x=y)=true:=by
     have m:=v.o
     rw[l,take_length,m,take_length] at g
     simp[g]
    have c:zdm w x y (.returned (.bool true)) wr:=⟨by rw[D],j⟩
    have k:=J c
    clear c D g l
    go_wp2
    go_ret
    exact k.o
 ·have q:((x.length:Int) !=(y.length:Int))=true:=by simp;omega
  have d:decide (x=y)=false:=by
   simp only[decide_eq_false_iff_not]
   intro e;subst e;exact hl rfl
  have c:∀w',Fr No w w'→zdm w x y (.returned (.bool false)) w':=λw' f=>⟨by rw[d],f⟩
  have k:=J c
  clear c d hl o p
  go_enter Tryz.func65,Tryz.ntmps65
  go_wp2
  go_ret
  exact k.o _ (by(repeat(first|with_reducible exact Fr.refl _ _|with_reducible assumption|with_reducible refine Fr.drew ?_|with_reducible refine Fr.drewN ?_ _|with_reducible refine Fr.alloc ?_ _|with_reducible refine Fr.setCell ?_ _ (.inl (by simp<;>omega)) _)))
end Go.Proofs.YtdkkjchclkjleaaGreatDoor
