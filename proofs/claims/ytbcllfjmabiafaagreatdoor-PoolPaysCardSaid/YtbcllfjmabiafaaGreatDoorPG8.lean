/- Own rows of elements whose parts lie apart: kept while the row grows. -/
import Derived.Deep.CutRange
import Derived.Test.YtbcllfjmabiafaaGreatDoorPG7
import Derived.Test.YtbcllfjmabiafaaGreatDoorPG3
set_option linter.unusedVariables false
set_option linter.unusedSimpArgs false
set_option linter.unnecessarySimpa false
set_option linter.all false
set_option maxRecDepth 20000
set_option maxHeartbeats 16000000
namespace Go.Proofs.YtbcllfjmabiafaaGreatDoor
open Go Go.RowKit Go.Maps Go.MapKept
open Go.Proofs.Tryz(prog)
open Nat(le_refl zero_le zero_add min_eq_left)
open List(length_append take_length length_take nil_append length_nil)
variable {U:Nat→Prop} {a b c:Value} {cs:List Value} {w:World}
structure vl {α:Type} (B:Nat) (ty:TypeId) (k:Nat) (q:World→α→List Value→Prop) (V:Nat→Prop) (w:World) (v:Value) (L:List α) (css:List (List Value)):Prop where
 row:w.ownsRow B ty k v L.length (css.flatMap id)
 cl:css.length=L.length
 ck:∀cs∈css,cs.length=k
 data:∀(i:Nat) (d:α) (cs:List Value),L[i]? =some d→css[i]? =some cs→Kept (λj=>V j∨v.ownBlock=some j) w (λw=>q w d cs)
section
variable {α:Type} {B:Nat} {ty:TypeId} {k:Nat} {q:World→α→List Value→Prop} {V:Nat→Prop} {w w':World} {v:Value} {L:List α} {css:List (List Value)}
theorem vl.nil (B:Nat) (ty:TypeId) (k:Nat) (q:World→α→List Value→Prop) (V:Nat→Prop) (w:World):vl B ty k q V w (.slice none 0 0) ([]:List α) []:=
 ⟨World.ownsRow_nil w B ty k,rfl,λ_ h=>(by cases h),λi d cs h=>by simp at h⟩
theorem vl.form (h:vl B ty k q V w v L css):∃a c,v=.slice a L.length c:=h.row.slice.arg.form
theorem vl.lt (h:vl B ty k q V w v L css):∀j,v.ownBlock=some j→B≤j∧j<w.heap.size:=λj a=>h.row.lt j a
theorem vl.fr (h:vl B ty k q V w v L css) {W:Nat→Prop} (f:Fr W w w') (m:∀j,j<w.heap.size→W j→V j) (a:∀j,v.ownBlock=some j→¬W j):vl B ty k q V w' v L css:=
 ⟨zb h.row f a,h.cl,h.ck,λi d cs g l=>(h.data i d cs g l).step ((Fr.mono (W:=λj=>W j∧j<w.heap.size) ⟨f.os,f.tape,f.output,f.size,λk c a=>f.block k c (λe=>a ⟨e,c⟩)⟩ (λj b=>.inl (m j b.2 b.1)))) (λ_ _ e=>e)⟩
theorem vl.fr0 (h:vl B ty k q V w v L css) (f:Fr No w w'):vl B ty k q V w' v L css:=h.fr f (λ_ _ e=>e.elim) (λ_ _ e=>e)
theorem vl.vary (h:vl B ty k q V w v L css) {V':Nat→Prop} (c:∀j,j<w.heap.size→V' j→V j):vl B ty k q V' w v L css:=
 ⟨h.row,h.cl,h.ck,λi d cs a b=>(h.data i d cs a b).step (Fr.refl _ _) (λj f e=>e.imp_left (c j f))⟩
theorem vl.base (h:vl B ty k q V w v L css) {a:Nat} (b:a≤B):vl a ty k q V w v L css:=⟨yu h.row b,h.cl,h.ck,h.data⟩
theorem vl.append {P:Program} {t ty2:TypeId} {bytes:Nat} {z:Value} (h:vl B ty k q V w v L css) (I:P.underlying t=some (.slice ty)) (a:(P.info? ty).map (λi=>(i.zero,i.size,i.bytes))=some (some z,k,bytes)) (y:z.cells.size=k) (r:0<k)
  {d:α} {cs:List Value} (H:Kept (λj=>V j∨v.ownBlock=some j) w (λw=>q w d cs)) (m:cs.length=k) (F:∀u∈cs,u.oneCell'=true) (o:(L.length+1)*bytes≤140737488355328) (s:L.length+1≤maxLen) (G:B≤w.heap.size):
  ∃g w',(Builtin.append_ #[t,t] ty2 #[v,.slice (some ⟨w.heap.size,0,none⟩) 1 1]).run P (w.alloc (.cells cs.toArray ty))=.ok g w'∧vl B ty k q V w' g (L++[d]) (css++[cs])∧Fr (λj=>v.ownBlock=some j) w w'∧∀j,g.ownBlock=some j→v.ownBlock=some j∨w.heap.size≤j:=by
 obtain⟨g,w',D,E,n,K,A⟩:=yA (P:=P) w B t ty2 ty k bytes z I a y r h.row cs m F o s G
 refine⟨g,w',D,⟨?_,?_,?_,?_⟩,n,A⟩
 ·rw[length_append,List.flatMap_append]
  simpa using E
 ·rw[length_append,length_append,h.cl];rfl
 ·intro x f
  rcases List.mem_append.1 f with f|f
  ·exact h.ck x f
  ·simp at f;subst f;exact m
 ·intro i e c b l
  have C:∀j,j<w.heap.size→(V j∨g.ownBlock=some j)→(V j∨v.ownBlock=some j):=λj M e=>e.imp_right (λe=>(A j e).resolve_right (by omega))
  by_cases hi:i<L.length
  ·rw[List.getElem?_append_left hi] at b
   rw[List.getElem?_append_left (by rw[h.cl];exact hi)] at l
   exact(h.data i e c b l).step (n.mono (λj e=>.inr e)) C
  ·have p:i=L.length:=by have:=(List.getElem?_eq_some_iff.1 b).1;simp only[length_append,List.length_singleton] at this;omega
   subst p
   rw[List.getElem?_append_right (le_refl _),Nat.sub_self] at b
   rw[List.getElem?_append_right (by rw[h.cl];exact le_refl _),h.cl,Nat.sub_self] at l
   simp at b l
   subst b
   subst l
   exact H.step (n.mono (λj e=>.inr e)) C
theorem vl.rows (h:vl B ty k q V w v L css) (a:0<k) (b:L.length≤maxLen) (l:∀j,j<w.heap.size→U j→V j) (n:∀j,v.ownBlock=some j→¬U j):Kept U w (λw=>qG k q w v L):=λw' f=>by
 refine qG.own a (zb h.row f n) h.cl h.ck b (λi d cs c g=>?_)
 refine((h.data i d cs c g).step (V':=U) (Fr.refl _ _) (λj m e=>.inl (l j m e))) w' f
end
theorem ze1 {B:Nat} {v:Value} {k:List Int} (h:qV w B v k) (ok:∀b∈k,0≤b∧b≤255) {V:Nat→Prop} (a:∀j,V j→j<B):Kept V w (λw=>zbE w v k):=
 λw' f=>⟨ok,(zb h f (λb c d=>by have:=(h.lt b c).1;have:=a b d;omega)).slice.arg⟩
theorem zj5:qP prog 112=some (34,[(0,33),(33,1)]):=by kernel_rfl
theorem zkX {p:zx} (e:p.ok) (a:Option Addr) (n c:Nat):Zx (([(0,33),(33,1)]:List (Nat×Nat)).toArray[·]?) 0 [(0,.agg (zm p).toArray),(1,.slice a n c)]:=by
 have b:(Value.agg (zm p).toArray).cells.size=33:=by show(zm p).toArray.size=33;simpa using zW e
 have d:(Value.slice a n c).cells.size=1:=rfl
 simp only[Zx,b,d]
 exact⟨rfl,rfl,trivial⟩
theorem zj2 (p:zx) (a:Option Addr) (n c:Nat):qC [(0,.agg (zm p).toArray),(1,.slice a n c)]=inC p (.slice a n c):=by
 have b:(Value.agg (zm p).toArray).cells.toList=zm p:=by show(zm p).toArray.toList=_;simp
 have d:(Value.slice a n c).cells.toList=[.slice a n c]:=rfl
 simp only[qC,List.flatMap_cons,List.flatMap_nil,b,d,inC,List.append_nil]
theorem VY:(prog.info? 112).map (λi=>(i.zero,i.size))=some (some (.agg (inC vi (.slice none 0 0)).toArray),34):=by kernel_rfl
theorem zeZ:(prog.info? 27).map (λi=>(i.zero,i.size))=some (some (.agg (txC 0 (.slice none 0 0) (.slice none 0 0)).toArray),3):=by kernel_rfl
theorem JZ (w:World):(zeroValue 27).run prog w=.ok (.agg (txC 0 (.slice none 0 0) (.slice none 0 0)).toArray) w:=by kernel_rfl
theorem zjd (t:Int) (a:Option Addr) (n c:Nat) (w:World):(Instr.build 27 #[(0,.int .u32 t),(2,.slice a n c)]).run prog w=.ok (.agg [.int .u32 t,.slice none 0 0,.slice a n c].toArray) w:=by kernel_rfl
theorem jC (e:a.oneCell'=true) (f:b.oneCell'=true) (g:c.oneCell'=true):∀u∈[a,b,c],u.oneCell'=true:=λu d=>by
 simp only[List.mem_cons,List.not_mem_nil,or_false] at d
 rcases d with rfl|rfl|rfl
 ·exact e
 ·exact f
 ·exact g
def zgU (T:TypeId) (B:Nat) (l:List yC) (z:Option Addr→Nat→List Value) (w2:World) (s:Value) (wc:World):Prop:=
 ∃qd pa pc,s=.pointer (some ⟨qd,0,none⟩)∧B≤qd∧Fr No w2 wc∧wc.heap[qd]? =some (.cells (z pa pc).toArray T (0,0))∧wc.ownsRow B 58 33 (.slice pa l.length pc) l.length (l.flatMap zF)∧∀j,(Value.slice pa l.length pc).ownBlock=some j→j≠qd
abbrev zgS (t:Int) (n:Nat) (pa:Option Addr) (pc:Nat):List Value:=[.int .u64 t,.slice pa n pc,.slice none 0 0]
abbrev zTx (t:Int) (n:Nat) (pa:Option Addr) (pc:Nat):List Value:=[.int .u32 t,.slice none 0 0,.slice pa n pc]
def znD (wc:World) (qd:Nat) (b:qf) (pa:Option Addr) (pc:Nat) (n:Nat) (wr:World):Prop:=
 ∃tv css,wr.heap[qd]? =some (.cells #[.int .u64 b.tag,.slice pa b.pay.length pc,tv] 65 (0,0))∧vl wc.heap.size 27 3 TxQ (λj=>j<wc.heap.size) wr tv (b.txs.take n) css∧Fr (λj=>j=qd) wc wr
def znC (wd:World) (qu:Nat) (t:TxD) (va:Option Addr) (vc:Nat) (m:Nat) (wi:World):Prop:=
 ∃iv ics,wi.heap[qu]? =some (.cells #[.int .u32 t.ver,iv,.slice va t.outs.length vc] 27 (0,0))∧vl wd.heap.size 112 34 InQ (λj=>j<wd.heap.size) wi iv (t.ins.take m) ics∧Fr (λj=>j=qu) wd wi
theorem zla (w:World) {b:qf} (ht:vG w b cs) (hN:b.pay.length≤1000) (hT:b.txs.length≤1000) (hI:∀t∈b.txs,t.ins.length≤1000∧t.outs.length≤1000∧∀x∈t.ins,x.key.length≤1000):
  Calls prog 58 #[.agg cs.toArray] w (zlS w b):=by
 obtain⟨ia,ic,oa,oc,rfl,hv,ho,a7⟩:=ht
 have zB:=zau
 have zT:=JZ
 have zI:=Yc
 have f1:Fr No w (w.alloc (.cells #[.int .u64 b.tag,.slice ia b.pay.length ic,.slice oa b.txs.length oc] 65)):=(frN w).alloc _
 have ah:Fr No (w.alloc (.cells #[.int .u64 b.tag,.slice ia b.pay.length ic,.slice oa b.txs.length oc] 65)) _:=(frN _).alloc (.cells JC.toArray 65)
 obtain⟨c0,c1,c2,-⟩:=YC w (.int .u64 b.tag) (.slice ia b.pay.length ic) (.slice oa b.txs.length oc) 65
 have C0:=Hd (ah.cell c0 _root_.id)
 have C1:=Hd (ah.cell c1 _root_.id)
 have C2:=Hd (ah.cell c2 _root_.id)
 have F2:=Hd (f1.trans0 ah)
 have B2:=Hd (yU (w.alloc (.cells #[.int .u64 b.tag,.slice ia b.pay.length ic,.slice oa b.txs.length oc] 65)) (.cells JC.toArray 65) (n:=w.heap.size+1) (by simp))
 have HO:=Hd (ho.keep F2.o)
 have bk:=Hd (a7.keep0 F2.o)
 have Z2:=@Hd (((w.alloc (.cells #[.int .u64 b.tag,.slice ia b.pay.length ic,.slice oa b.txs.length oc] 65)).alloc (.cells JC.toArray 65)).heap.size=w.heap.size+2) (by simp)
 have HN:=Hd hN
 have HI:=Hd hI
 have HV:=Hd hv
 clear c0 c1 c2 f1 ah ho hv hN a7 hI
 show Calls prog 58 #[.agg #[.int .u64 b.tag,.slice ia b.pay.length ic,.slice oa b.txs.length oc]] w _
 go_enter Tryz.func58,Tryz.ntmps58
 go_wp2_with fail
 generalize (w.alloc (.cells #[.int .u64 b.tag,.slice ia b.pay.length ic,.slice oa b.txs.length oc] 65)).alloc (.cells JC.toArray 65)=w2 at*
 go_cut [3] from 9 to 14 (λs3 wc=>zgU 65 w2.heap.size b.pay (zgS b.tag b.pay.length) w2 s3 wc)
 case first=>
  have I:=Hd (frN w2).drew
  have af:=Hd (HO.o.keep I.o)
  have d:=Hd (I.o.cell C0.o _root_.id)
  have g:=Hd (I.o.cell C1.o _root_.id)
  have Zd:=@Hd (w2.drew.heap.size=w2.heap.size) (rfl)
  refine JM 8 [0,1,2,3,4,5,6,7] (λw'=>w'.cell? ⟨w.heap.size,0,none⟩=some (.int .u64 b.tag)∧w'.cell? ⟨w.heap.size,1,none⟩=some (.slice ia b.pay.length ic)) (by kernel_rfl) (by kernel_rfl) (by kernel_rfl) (by kernel_rfl) ?_ (λK hK=>?_)
  ·exact⟨d.o,g.o⟩
  generalize w2.drew=E at*
  (((first|(refine yX 0 (by kernel_rfl) rfl rfl ?_;apply Exists.intro;refine⟨?_,?_⟩;(focus(first|(intro w' hS;obtain⟨Z,s2⟩:=hS;exact goS))))|(refine yY 0 (by kernel_rfl) rfl rfl ?_));try simp only[Act.put,pA,pB,pC]);((first|(refine yX 1 (by kernel_rfl) rfl rfl ?_;apply Exists.intro;refine⟨?_,?_⟩;(focus(first|(intro w' hS;obtain⟨Z,s2⟩:=hS;exact goS))))|(refine yY 1 (by kernel_rfl) rfl rfl ?_));try simp only[Act.put,pA,pB,pC]);((first|(refine yX 2 (by kernel_rfl) rfl rfl ?_;apply Exists.intro;refine⟨?_,?_⟩;(focus(first|(intro w' hS;obtain⟨Z,s2⟩:=hS;exact goS))))|(refine yY 2 (by kernel_rfl) rfl rfl ?_));try simp only[Act.put,pA,pB,pC]);((first|(refine yX 3 (by kernel_rfl) rfl rfl ?_;apply Exists.intro;refine⟨?_,?_⟩;(focus(first|(intro w' hS;obtain⟨Z,s2⟩:=hS;exact goS))))|(refine yY 3 (by kernel_rfl) rfl rfl ?_));try simp only[Act.put,pA,pB,pC]))
  refine XJ 4 6 (by kernel_rfl) rfl rfl rfl rfl (λK' hK'=>?_) (λK' hK'=>?_)
  ·obtain⟨pv,F,X,u,Y,-⟩:=Z8 E (k:=[]) (World.ownsRow_nil E w2.heap.size _ 33) af.o (by have:=HN.o;simp;omega) (by have:=Zd.o;omega) 22
   rw[length_nil,zero_add,nil_append] at u
   obtain⟨l,o,R⟩:=u.slice.arg.form
   subst R
   have A1:=Hd X
   have y:=@Hd (Fr No E F) (Y.mono (λj e=>by cases e))
   have O4:=Hd u
   clear X u Y
   refine yE rfl rfl rfl A1.o ?_
   refine nXt hK' ?_ λhS=>?_
   ·exact⟨y.o.cell d.o _root_.id,y.o.cell g.o _root_.id⟩
   try simp only[Act.put,pA,pB,pC]
   (((first|(refine yX 5 (by kernel_rfl) rfl rfl ?_;apply Exists.intro;refine⟨?_,?_⟩;(focus(first|exact λw' _=>yv (t:=65) rfl rfl (zgZ _ _ _ _ _)|(intro w' hS;obtain⟨Z,s2⟩:=hS;exact goS))))|(refine yY 5 (by kernel_rfl) rfl rfl ?_));try simp only[Act.put,pA,pB,pC]))
   refine xW 6 (by kernel_rfl) rfl rfl (λK' hK'=>?_)
   refine yD (xH rfl (zau _)) ?_
   have N:=Hd ((frN F).alloc (.cells (JC).toArray 65))
   refine nXt hK' ?_ λhS=>?_
   ·exact⟨N.o.cell (y.o.cell d.o _root_.id) _root_.id,N.o.cell (y.o.cell g.o _root_.id) _root_.id⟩
   try simp only[Act.put,pA,pB,pC]
   refine xW 7 (by kernel_rfl) rfl rfl (λK' hK'=>?_)
   refine xp (zj (w:=F) (ty:=65) (cs:=(zgS b.tag b.pay.length) l o) rfl rfl rfl rfl vz (jC rfl rfl rfl)) ?_
   have O:=Hd ((frN F).alloc (.cells ((zgS b.tag b.pay.length) l o).toArray 65))
   refine nXt hK' ?_ λhS=>?_
   ·exact⟨O.o.cell (y.o.cell d.o _root_.id) _root_.id,O.o.cell (y.o.cell g.o _root_.id) _root_.id⟩
   try simp only[Act.put,pA,pB,pC]
   refine JH (hK.out _ _ ?_)
   go_wp2_with fail
   go_meet
   case rel=>exact⟨F.heap.size,l,o,rfl,by have:=y.o.size;have:=Zd.o;omega,I.o.trans0 (y.o.trans0 O.o),ye F (.cells ((zgS b.tag b.pay.length) l o).toArray 65),zb O4.o O.o (λ_ _=>_root_.id),λj a e=>by have:=(O4.o.lt j a).2;omega⟩
  ·refine yD (xH rfl (zau _)) ?_
   have N:=Hd ((frN E).alloc (.cells (JC).toArray 65))
   have B5:=Hd (ye E (.cells (JC).toArray 65))
   have Q5:=@Hd ((E.alloc (.cells (JC).toArray 65)).heap.size=E.heap.size+1) (by simp)
   generalize E.alloc (.cells (JC).toArray 65)=F at*
   generalize au:E.heap.size=G at*
   refine nXt hK' ?_ λhS=>?_
   ·exact⟨N.o.cell d.o _root_.id,N.o.cell g.o _root_.id⟩
   try simp only[Act.put,pA,pB,pC]
   refine xW 4 (by kernel_rfl) rfl rfl (λK' hK'=>?_)
   obtain⟨pv,w5,X,u,Y,-⟩:=Z8 F (k:=[]) (World.ownsRow_nil F (w2.heap.size+1) _ 33) (af.o.keep N.o) (by have:=HN.o;simp;omega) (by have:=Zd.o;have:=Q5.o;omega) 22
   rw[length_nil,zero_add,nil_append] at u
   obtain⟨l,o,R⟩:=u.slice.arg.form
   subst R
   have A1:=Hd X
   have y:=@Hd (Fr No F w5) (Y.mono (λj e=>by cases e))
   have O4:=Hd u
   clear X u Y
   refine yE rfl rfl rfl A1.o ?_
   have L:=Hd (N.o.trans0 y.o)
   have aa:=Hd (y.o.obj B5.o _root_.id)
   refine nXt hK' ?_ λhS=>?_
   ·exact⟨L.o.cell d.o _root_.id,L.o.cell g.o _root_.id⟩
   try simp only[Act.put,pA,pB,pC]
   (((first|(refine yX 5 (by kernel_rfl) rfl rfl ?_;apply Exists.intro;refine⟨?_,?_⟩;(focus(first|exact λw' _=>yv (t:=65) rfl rfl (zgZ _ _ _ _ _)|(intro w' hS;obtain⟨Z,s2⟩:=hS;exact goS))))|(refine yY 5 (by kernel_rfl) rfl rfl ?_));try simp only[Act.put,pA,pB,pC]))
   refine xW 7 (by kernel_rfl) rfl rfl (λK' hK'=>?_)
   refine xp (zU (ty:=65) (b:=G) (off:=0) (cs:=(zgS b.tag b.pay.length) l o) rfl rfl rfl (yb aa.o (le_refl 3)) vz (jC rfl rfl rfl)) ?_
   have O:=Hd (zy G ((zgS b.tag b.pay.length) l o) 0 w5)
   have M:=@Hd (Fr No E _) (L.o.trans O.o (λi hi e=>by omega))
   refine nXt hK' ?_ λhS=>?_
   ·exact⟨M.o.cell d.o _root_.id,M.o.cell g.o _root_.id⟩
   try simp only[Act.put,pA,pB,pC]
   refine JH (hK.out _ _ ?_)
   go_wp2_with fail
   go_meet
   case rel=>exact⟨G,l,o,rfl,by have:=Zd.o;omega,I.o.trans0 M.o,zcQ (cs:=(zgS b.tag b.pay.length) l o) aa.o rfl,yu (zb O4.o O.o (λj a e=>by have:=(O4.o.lt j a).1;have:=Zd.o;omega)) (Nat.le_succ _),λj a e=>by have:=(O4.o.lt j a).1;have:=Zd.o;omega⟩
 case rest=>
  rename World=>wz
  obtain⟨G,l,o,rfl,au,fc,bq,op,aX⟩:=hcut
  have FC:=Hd fc
  have BQ:=Hd bq
  have OP:=Hd op
  have QD:=Hd au
  have NQ:=Hd aX
  have bf:=Hd (fc.cell C2.o _root_.id)
  have c2:=bf.o
  have bc:=Hd (fc.obj B2.o _root_.id)
  have QL:=Hd (yr bq)
  clear fc bq op au aX
  go_wp2_with fail
  clear c2
  go_loopw [18] (λiv wr=>∃n:Nat,iv=.int .i64 n∧n≤b.txs.length∧znD wz G b l o n wr) (λiv _=>b.txs.length-(intOf iv).toNat)
  case atStart=>exact⟨0,rfl,zero_le _,.slice none 0 0,[],BQ.o,vl.nil _ _ _ _ _ _,Fr.refl _ _⟩
  case round=>
   obtain⟨n,rfl,hn,tv,css,aU,aG,fr⟩:=hrel
   have FR:=Hd fr
   have az:=Hd aU
   have KR:=Hd aG
   have FW:=@Hd (Fr No w2 wr) (FC.o.trans fr (λj a e=>by have:=QD.o;omega))
   obtain⟨q,r,a8⟩:=aG.form
   rw[length_take,min_eq_left hn] at a8
   subst a8
   clear fr aU aG
   by_cases bA:n<b.txs.length
   ·have i1:(n:Int)<(b.txs.length:Int):=by omega
    obtain⟨t,hx⟩:∃x,b.txs[n]? =some x:=⟨_,List.getElem?_eq_getElem bA⟩
    have HX:=Hd hx
    obtain⟨bb,off,cap,ts,bD,hr,hq⟩:=(bk.o.keep0 FW.o).at_ hx
    cases bD
    obtain⟨ja,jc,ka,kc,rfl,al,ax,ak⟩:=hq
    have TV:=Hd al
    have R1:=@Hd (wr.rangeAt bb (off+n*3) [.int .u32 t.ver,.slice ja t.ins.length jc,.slice ka t.outs.length kc]) (hr)
    have TI:=Hd (HI.o t (List.mem_of_getElem? hx))
    have QA:=@Hd (wr.heap.size<(wr.alloc (.cells #[.int .u32 t.ver,.slice ja t.ins.length jc,.slice ka t.outs.length kc] 27)).heap.size) (by simp)
    have FA:=Hd ((frN wr).alloc (.cells #[.int .u32 t.ver,.slice ja t.ins.length jc,.slice ka t.outs.length kc] 27))
    obtain⟨d0,d1,d2,-⟩:=YC wr (.int .u32 t.ver) (.slice ja t.ins.length jc) (.slice ka t.outs.length kc) 27
    have D0:=Hd d0
    have D1:=Hd d1
    have D2:=Hd d2
    have aM:=Hd (ak.keep FA.o)
    have bj:=Hd (ax.keep0 FA.o)
    clear hr hx al ax ak d0 d1 d2
    have⟨K0,K1⟩:=tZ2
    go_wp2_with ((first|((with_reducible refine zt ?_);clear K0;refine znT rfl rfl rfl R1.o rfl ?_)|((with_reducible refine zr ?_);clear K1;refine zi rfl (zj (w:=wr) (ty:=27) (cs:=[.int .u32 t.ver,.slice ja t.ins.length jc,.slice ka t.outs.length kc]) rfl rfl rfl rfl xt (jC rfl rfl rfl)) ?_;generalize wr.alloc (.cells #[.int .u32 t.ver,.slice ja t.ins.length jc,.slice ka t.outs.length kc] 27)=wq at*));go_frame)
    have aT:=Hd TI.o.2.1
    go_cut [6] from 22 to 27 (λs6 wd=>zgU 27 wq.heap.size t.outs (zTx t.ver t.outs.length) wq s6 wd)
    case first=>
     have I:=Hd (frN wq).drew
     have af:=Hd (aM.o.keep I.o)
     have d:=Hd (I.o.cell D0.o _root_.id)
     have g:=Hd (I.o.cell D2.o _root_.id)
     have Zd:=@Hd (wq.drew.heap.size=wq.heap.size) (rfl)
     refine JM 8 [0,1,2,3,4,5,6,7] (λw'=>w'.cell? ⟨wr.heap.size,0,none⟩=some (.int .u32 t.ver)∧w'.cell? ⟨wr.heap.size,2,none⟩=some (.slice ka t.outs.length kc)) (by kernel_rfl) (by kernel_rfl) (by kernel_rfl) (by kernel_rfl) ?_ (λK hK=>?_)
     ·exact⟨d.o,g.o⟩
     generalize wq.drew=E at*
     (((first|(refine yX 0 (by kernel_rfl) rfl rfl ?_;apply Exists.intro;refine⟨?_,?_⟩;(focus(first|(intro w' hS;obtain⟨Z,s2⟩:=hS;exact goS))))|(refine yY 0 (by kernel_rfl) rfl rfl ?_));try simp only[Act.put,pA,pB,pC]);((first|(refine yX 1 (by kernel_rfl) rfl rfl ?_;apply Exists.intro;refine⟨?_,?_⟩;(focus(first|(intro w' hS;obtain⟨Z,s2⟩:=hS;exact goS))))|(refine yY 1 (by kernel_rfl) rfl rfl ?_));try simp only[Act.put,pA,pB,pC]);((first|(refine yX 2 (by kernel_rfl) rfl rfl ?_;apply Exists.intro;refine⟨?_,?_⟩;(focus(first|(intro w' hS;obtain⟨Z,s2⟩:=hS;exact goS))))|(refine yY 2 (by kernel_rfl) rfl rfl ?_));try simp only[Act.put,pA,pB,pC]);((first|(refine yX 3 (by kernel_rfl) rfl rfl ?_;apply Exists.intro;refine⟨?_,?_⟩;(focus(first|(intro w' hS;obtain⟨Z,s2⟩:=hS;exact goS))))|(refine yY 3 (by kernel_rfl) rfl rfl ?_));try simp only[Act.put,pA,pB,pC]))
     refine XJ 4 6 (by kernel_rfl) rfl rfl rfl rfl (λK' hK'=>?_) (λK' hK'=>?_)
     ·obtain⟨pv,F,X,u,Y,-⟩:=Z8 E (k:=[]) (World.ownsRow_nil E wq.heap.size _ 33) af.o (by have:=aT.o;simp;omega) (by have:=Zd.o;omega) 22
      rw[length_nil,zero_add,nil_append] at u
      obtain⟨l,o,R⟩:=u.slice.arg.form
      subst R
      have A1:=Hd X
      have y:=@Hd (Fr No E F) (Y.mono (λj e=>by cases e))
      have O4:=Hd u
      clear X u Y
      refine yE rfl rfl rfl A1.o ?_
      refine nXt hK' ?_ λhS=>?_
      ·exact⟨y.o.cell d.o _root_.id,y.o.cell g.o _root_.id⟩
      try simp only[Act.put,pA,pB,pC]
      (((first|(refine yX 5 (by kernel_rfl) rfl rfl ?_;apply Exists.intro;refine⟨?_,?_⟩;(focus(first|exact λw' _=>yv (t:=27) rfl rfl (zjd _ _ _ _ _)|(intro w' hS;obtain⟨Z,s2⟩:=hS;exact goS))))|(refine yY 5 (by kernel_rfl) rfl rfl ?_));try simp only[Act.put,pA,pB,pC]))
      refine xW 6 (by kernel_rfl) rfl rfl (λK' hK'=>?_)
      refine yD (xH rfl (JZ _)) ?_
      have N:=Hd ((frN F).alloc (.cells (txC 0 (.slice none 0 0) (.slice none 0 0)).toArray 27))
      refine nXt hK' ?_ λhS=>?_
      ·exact⟨N.o.cell (y.o.cell d.o _root_.id) _root_.id,N.o.cell (y.o.cell g.o _root_.id) _root_.id⟩
      try simp only[Act.put,pA,pB,pC]
      refine xW 7 (by kernel_rfl) rfl rfl (λK' hK'=>?_)
      refine xp (zj (w:=F) (ty:=27) (cs:=(zTx t.ver t.outs.length) l o) rfl rfl rfl rfl xt (jC rfl rfl rfl)) ?_
      have O:=Hd ((frN F).alloc (.cells ((zTx t.ver t.outs.length) l o).toArray 27))
      refine nXt hK' ?_ λhS=>?_
      ·exact⟨O.o.cell (y.o.cell d.o _root_.id) _root_.id,O.o.cell (y.o.cell g.o _root_.id) _root_.id⟩
      try simp only[Act.put,pA,pB,pC]
      refine JH (hK.out _ _ ?_)
      go_wp2_with fail
      go_meet
      case rel=>exact⟨F.heap.size,l,o,rfl,by have:=y.o.size;have:=Zd.o;omega,I.o.trans0 (y.o.trans0 O.o),ye F (.cells ((zTx t.ver t.outs.length) l o).toArray 27),zb O4.o O.o (λ_ _=>_root_.id),λj a e=>by have:=(O4.o.lt j a).2;omega⟩
     ·refine yD (xH rfl (JZ _)) ?_
      have N:=Hd ((frN E).alloc (.cells (txC 0 (.slice none 0 0) (.slice none 0 0)).toArray 27))
      have B5:=Hd (ye E (.cells (txC 0 (.slice none 0 0) (.slice none 0 0)).toArray 27))
      have Q5:=@Hd ((E.alloc (.cells (txC 0 (.slice none 0 0) (.slice none 0 0)).toArray 27)).heap.size=E.heap.size+1) (by simp)
      generalize E.alloc (.cells (txC 0 (.slice none 0 0) (.slice none 0 0)).toArray 27)=F at*
      generalize au:E.heap.size=G at*
      refine nXt hK' ?_ λhS=>?_
      ·exact⟨N.o.cell d.o _root_.id,N.o.cell g.o _root_.id⟩
      try simp only[Act.put,pA,pB,pC]
      refine xW 4 (by kernel_rfl) rfl rfl (λK' hK'=>?_)
      obtain⟨pv,w5,X,u,Y,-⟩:=Z8 F (k:=[]) (World.ownsRow_nil F (wq.heap.size+1) _ 33) (af.o.keep N.o) (by have:=aT.o;simp;omega) (by have:=Zd.o;have:=Q5.o;omega) 22
      rw[length_nil,zero_add,nil_append] at u
      obtain⟨l,o,R⟩:=u.slice.arg.form
      subst R
      have A1:=Hd X
      have y:=@Hd (Fr No F w5) (Y.mono (λj e=>by cases e))
      have O4:=Hd u
      clear X u Y
      refine yE rfl rfl rfl A1.o ?_
      have L:=Hd (N.o.trans0 y.o)
      have aa:=Hd (y.o.obj B5.o _root_.id)
      refine nXt hK' ?_ λhS=>?_
      ·exact⟨L.o.cell d.o _root_.id,L.o.cell g.o _root_.id⟩
      try simp only[Act.put,pA,pB,pC]
      (((first|(refine yX 5 (by kernel_rfl) rfl rfl ?_;apply Exists.intro;refine⟨?_,?_⟩;(focus(first|exact λw' _=>yv (t:=27) rfl rfl (zjd _ _ _ _ _)|(intro w' hS;obtain⟨Z,s2⟩:=hS;exact goS))))|(refine yY 5 (by kernel_rfl) rfl rfl ?_));try simp only[Act.put,pA,pB,pC]))
      refine xW 7 (by kernel_rfl) rfl rfl (λK' hK'=>?_)
      refine xp (zU (ty:=27) (b:=G) (off:=0) (cs:=(zTx t.ver t.outs.length) l o) rfl rfl rfl (yb aa.o (le_refl 3)) xt (jC rfl rfl rfl)) ?_
      have O:=Hd (zy G ((zTx t.ver t.outs.length) l o) 0 w5)
      have M:=@Hd (Fr No E _) (L.o.trans O.o (λi hi e=>by omega))
      refine nXt hK' ?_ λhS=>?_
      ·exact⟨M.o.cell d.o _root_.id,M.o.cell g.o _root_.id⟩
      try simp only[Act.put,pA,pB,pC]
      refine JH (hK.out _ _ ?_)
      go_wp2_with fail
      go_meet
      case rel=>exact⟨G,l,o,rfl,by have:=Zd.o;omega,I.o.trans0 M.o,zcQ (cs:=(zTx t.ver t.outs.length) l o) aa.o rfl,yu (zb O4.o O.o (λj a e=>by have:=(O4.o.lt j a).1;have:=Zd.o;omega)) (Nat.le_succ _),λj a e=>by have:=(O4.o.lt j a).1;have:=Zd.o;omega⟩
    case rest=>
     rename World=>wd
     obtain⟨qu,va,vc,rfl,aZ,fd,bu,ou,aY⟩:=hcut
     have I:=Hd fd
     have BU:=Hd bu
     have OU:=Hd ou
     have QU:=Hd aZ
     have NU:=Hd aY
     have bg:=Hd (fd.cell D1.o _root_.id)
     have bx:=bg.o
     have UL:=Hd (yr bu)
     clear fd bu ou aZ aY
     go_wp2_with fail
     clear bx
     have VZ:=@Hd (∀j,j<wz.heap.size→j<wd.heap.size) (λj a=>by have:=FR.o.size;have:=FA.o.size;have:=I.o.size;omega)
     have bw:=@Hd (G<wq.heap.size∧wr.heap.size<wq.heap.size) (by have:=yr az.o;have:=FA.o.size;exact⟨by omega,QA.o⟩)
     have bI:=TI.o.1
     go_loopw [31] (λiv s=>∃m:Nat,iv=.int .i64 m∧m≤t.ins.length∧znC wd qu t va vc m s) (λiv _=>t.ins.length-(intOf iv).toNat)
     case atStart=>exact⟨0,rfl,zero_le _,.slice none 0 0,[],BU.o,vl.nil _ _ _ _ _ _,Fr.refl _ _⟩
     case round=>
      obtain⟨m,rfl,hm,iv,ba,aV,aF,fi⟩:=hrel
      rename World=>s
      have FI:=Hd fi
      have aA:=Hd aV
      have KI:=Hd aF
      obtain⟨A,B,aW⟩:=aF.form
      rw[length_take,min_eq_left hm] at aW
      subst aW
      have aC:=@Hd (Fr No wq s) (I.o.trans fi (λj a e=>by have:=QU.o;omega))
      clear fi aV aF
      by_cases bB:m<t.ins.length
      ·have i2:(m:Int)<(t.ins.length:Int):=by omega
       obtain⟨x,av⟩:∃x,t.ins[m]? =some x:=⟨_,List.getElem?_eq_getElem bB⟩
       have bm:=Hd av
       obtain⟨b2,bG,bF,xs,bE,a6,bC⟩:=(bj.o.keep0 aC.o).at_ av
       cases bE
       obtain⟨C,D,rfl,H,ay⟩:=bC
       have aE:=Hd H
       have br:=Hd ay
       have R2:=Hd a6
       have IL:=Hd (jf H (.slice C x.key.length D))
       have PL:=Hd (zW H)
       have KL:=Hd (TI.o.2.2 x (List.mem_of_getElem? av))
       have FB:=Hd ((frN s).alloc (.cells (inC x.from_ (.slice C x.key.length D)).toArray 112))
       have aN:=Hd (XF s (p:=x.from_) (kv:=.slice C x.key.length D) H)
       have QB:=@Hd ((s.alloc (.cells (inC x.from_ (.slice C x.key.length D)).toArray 112)).heap.size=s.heap.size+1) (by simp)
       clear a6 av H ay
       have⟨K0,K1⟩:=tZ2
       go_wp2_with ((first|((with_reducible refine zt ?_);clear K0;refine znS rfl rfl rfl R2.o IL.o ?_)|((with_reducible refine zr ?_);clear K1;refine zn1 (w:=s) (cs:=inC x.from_ (.slice C x.key.length D)) rfl rfl rfl rfl IL.o Jm ?_;generalize s.alloc (.cells (inC x.from_ (.slice C x.key.length D)).toArray 112)=wj at*));go_frame)
       have ar:=Hd (FB.o.trans0 (frN wj).drew)
       have aK:=Hd (ar.o.obj aA.o _root_.id)
       have aL:=@Hd (wj.drew.cell? ⟨qu,1,none⟩=some (.slice A m B)) (by have:=zv aK.o 1 _ rfl;simpa using this)
       have aQ:=Hd (KI.o.fr0 ar.o)
       have RZ:=@Hd (wj.drew.rangeAt s.heap.size 0 (zm x.from_)∧wj.drew.cell? ⟨s.heap.size,33,none⟩=some (.slice C x.key.length D)) (⟨za aN.o.1 (frN wj).drew _root_.id,(frN wj).drew.cell aN.o.2 _root_.id⟩)
       have aR:=Hd (br.o.keep ar.o)
       have QZ:=@Hd (wj.drew.heap.size=s.heap.size+1) (QB.o)
       have UQ:=@Hd (qu<s.heap.size) (yr aA.o)
       refine yw [ff,ff,ff,ff,ff,ff,tt,ff,tt,tt,ff,tt] (λw'=>w'.cell? ⟨qu,1,none⟩=some (.slice A m B)∧w'.rangeAt s.heap.size 0 (zm x.from_)∧w'.cell? ⟨s.heap.size,33,none⟩=some (.slice C x.key.length D)) (by kernel_rfl) (by kernel_rfl) 11 (by kernel_rfl) (by kernel_rfl) ?_ (λK hK=>?_)
       ·exact⟨aL.o,RZ.o.1,RZ.o.2⟩
       generalize wj.drew=z at*
       obtain⟨kv,w9,X,u,Y,-⟩:=vx z (qV.nil z z.heap.size) aR.o.2 (by simp;have:=KL.o;omega) (le_refl _) 110
       rw[nil_append] at u
       obtain⟨an,ao,bz⟩:=u.form
       subst bz
       have A1:=Hd X
       have F9:=@Hd (Fr No z w9) (Y.mono (λj e=>by cases e))
       have K9:=Hd u
       clear X u Y
       have aD:=Hd (jf aE.o (.slice an x.key.length ao))
       have bs:=Hd (aQ.o.fr0 F9.o)
       have bp:=@Hd (Kept (λj=>j<wd.heap.size∨(Value.slice A m B).ownBlock=some j) w9 (λw=>InQ w x (inC x.from_ (.slice an x.key.length ao)))) (λw' f=>⟨an,ao,rfl,aE.o,ze1 K9.o aR.o.1 (V:=λj=>j<wd.heap.size∨(Value.slice A m B).ownBlock=some j) (λj a=>by
        have:=FI.o.size
        have:=QZ.o
        rcases a with a|a
        ·omega
        ·have:=(aQ.o.lt j a).2;omega) w' f⟩)
       obtain⟨v5,c,b1,Q,b3,b4⟩:=bs.o.append (P:=prog) (t:=25) (ty2:=25) (bytes:=64) Qd zhf rfl (by decide) bp.o aD.o Jm (by rw[length_take];have:=TI.o.1;omega) (by rw[length_take];unfold maxLen;have:=TI.o.1;omega) (by have:=F9.o.size;have:=FI.o.size;have:=QZ.o;omega)
       have B1:=Hd b1
       have aO:=@Hd (vl wd.heap.size 112 34 InQ (λj=>j<wd.heap.size) c v5 (t.ins.take (m+1)) (ba++[inC x.from_ (.slice an x.key.length ao)])) (by rw[List.take_add_one,bm.o];exact Q)
       have bh:=Hd b4
       have aq:=Hd b3
       obtain⟨T,W,S⟩:=Q.form
       rw[length_append,length_take,min_eq_left hm] at S
       simp only[List.length_singleton] at S
       subst S
       clear b1 Q b3 b4
       have ag:=@Hd (∀j,(Value.slice A m B).ownBlock=some j→wd.heap.size≤j∧j<s.heap.size) (λj a=>KI.o.lt j a)
       have bd:=Hd (F9.o.obj aK.o _root_.id)
       have ad:=Hd (aq.o.obj bd.o (λe=>by have:=(ag.o _ e).1;have:=UL.o;omega))
       have aS:=@Hd (c.cell? ⟨qu,1,none⟩=some (.slice A m B)) (by have:=zv ad.o 1 _ rfl;simpa using this)
       have aw:=@Hd (c.rangeAt s.heap.size 0 (zm x.from_)∧c.cell? ⟨s.heap.size,33,none⟩=some (.slice C x.key.length D)) (⟨za (za RZ.o.1 F9.o _root_.id) aq.o (λe=>by have:=(ag.o _ e).2;omega),aq.o.cell (F9.o.cell RZ.o.2 _root_.id) (λe=>by have h:s.heap.size<s.heap.size:=(ag.o _ e).2;omega)⟩)
       have bH:=yp (i:=1) ad.o
       have S9:=@Hd (∀w',Fr No z w'→w'.cell? ⟨qu,1,none⟩=some (.slice A m B)∧w'.rangeAt s.heap.size 0 (zm x.from_)∧w'.cell? ⟨s.heap.size,33,none⟩=some (.slice C x.key.length D)) (λw' f=>⟨f.cell aL.o _root_.id,za RZ.o.1 f _root_.id,f.cell RZ.o.2 _root_.id⟩)
       have fs:Fr (λj=>j=qu) c (c.setCell ⟨qu,1,none⟩ (.slice T (m+1) W)):=(Fr.refl (λj=>j=qu) c).setCell ⟨qu,1,none⟩ (.inr rfl) _
       have aJ:=Hd (heap_setCell_same c qu 1 _ _ (.slice T (m+1) W) ad.o)
       have aP:=Hd (aO.o.fr fs (λj _ e=>by rw[e];exact UL.o) (λj a e=>by
        rcases bh.o j a with h|h
        ·have:=(ag.o _ h).1;have:=UL.o;omega
        ·have:=F9.o.size;have:=QZ.o;have:=UQ.o;omega))
       have aB:=@Hd (Fr (λj=>j=qu) wd (c.setCell ⟨qu,1,none⟩ (.slice T (m+1) W))) ((((FI.o.trans0 ar.o).trans0 F9.o).trans aq.o (λj a e=>by have:=(ag.o _ e).1;omega)).trans fs (λj _ e=>e))
       clear fs
       repeat((first|(refine yk rfl ?_;constructor;constructor;(focus(first|exact znZ rfl (λw h=>h.2.1) PL.o|(rintro w' ⟨Z,s2,s3⟩;exact goS))))|(refine yl rfl ?_));try simp only[Act.put,pA,pB,pC])
       (refine yf rfl (λK' hK'=>?_))
       refine yE rfl rfl rfl A1.o ?_
       refine hK'.out _ _ (λ_=>?_) (λhS=>?_)
       ·exact S9.o _ F9.o
       try simp only[Act.put,pA,pB,pC]
       repeat((first|(refine yk rfl ?_;constructor;constructor;(focus(first|exact znZ rfl (λw h=>h.2.1) PL.o|exact λw' _=>jI (t:=112) (vs:=[(0,.agg (zm x.from_).toArray),(1,.slice an x.key.length ao)]) rfl rfl zj5 (zkX aE.o _ _ _) (zj2 _ _ _ _) (by rw[aD.o])|(rintro w' ⟨Z,s2,s3⟩;exact goS))))|(refine yl rfl ?_));try simp only[Act.put,pA,pB,pC])
       (refine yf rfl (λK' hK'=>?_))
       refine yD (zK (t:=25) rfl rfl Qd VY rfl (by decide) (by decide) aD.o) ?_
       refine hK'.out _ _ (λ_=>?_) (λhS=>?_)
       ·exact S9.o _ (F9.o.alloc _)
       try simp only[Act.put,pA,pB,pC]
       (refine yf rfl (λK' hK'=>?_))
       refine yE rfl rfl rfl B1.o ?_
       refine hK'.out _ _ (λ_=>?_) (λhS=>?_)
       ·exact⟨aS.o,aw.o.1,aw.o.2⟩
       try simp only[Act.put,pA,pB,pC]
       repeat((first|(refine yk rfl ?_;constructor;constructor;(focus(first|(rintro w' ⟨Z,s2,s3⟩;exact goS))))|(refine yl rfl ?_));try simp only[Act.put,pA,pB,pC])
       (refine yf rfl (λK' hK'=>?_))
       go_simp
       refine hK'.out _ _ (λh=>absurd rfl h) (λhS=>?_)
       refine xV (hK.out _ _ ?_)
       go_wp2_with fail
       go_roundw
       case rel=>exact⟨m+1,by go_num,by omega,_,_,aJ.o,aP.o,aB.o⟩
       case measure=>simp[intOf];omega
      ·have ai:m=t.ins.length:=by omega
       have i2:¬(m:Int)<(t.ins.length:Int):=by omega
       have ae:=@Hd (Fr No wr s) (FA.o.trans0 aC.o)
       have aI:=Hd (ae.o.obj az.o _root_.id)
       have bt:=Hd (KR.o.fr0 ae.o)
       have cA:s.cell? ⟨G,2,none⟩=some (.slice q n r):=by have:=zv aI.o 2 _ rfl;simpa using this
       have RU:=Hd (zv aA.o)
       have KT:=@Hd (Kept (λj=>j<wz.heap.size∨(Value.slice q n r).ownBlock=some j) s (λw=>TxQ w t [.int .u32 t.ver,.slice A m B,.slice va t.outs.length vc])) (by
        have k1:vl wd.heap.size 112 34 InQ (λj=>j<wd.heap.size) s (.slice A m B) t.ins ba:=by have:=KI.o;rw[ai,take_length] at this;rw[ai];exact this
        have k2:=k1.rows (U:=λj=>j<wz.heap.size∨(Value.slice q n r).ownBlock=some j) (by decide) (by unfold maxLen;have:=TI.o.1;omega) (λj a e=>e.elim (VZ.o j) (λe=>by have:=(KR.o.lt j e).2;have:=FA.o.size;have:=I.o.size;omega)) (λj a e=>by
         have h1:=(k1.lt j a).1
         rcases e with e|e
         ·have:=VZ.o j e;omega
         ·have:=(KR.o.lt j e).2;have:=FA.o.size;have:=I.o.size;omega)
        have k3:=zaO (V:=λj=>j<wz.heap.size∨(Value.slice q n r).ownBlock=some j) (zb OU.o FI.o (λj a e=>NU.o j a e)) aM.o.1 (λj e=>by
         rcases e with e|e
         ·have:=FR.o.size;have:=FA.o.size;omega
         ·have:=(KR.o.lt j e).2;have:=FA.o.size;omega)
        intro w' f
        exact⟨A,B,va,vc,by rw[ai];rfl,TV.o,by have:=k2 w' f;rw[ai] at this;exact this,k3 w' f⟩)
       obtain⟨v5,c,b1,Q,b3,b4⟩:=bt.o.append (P:=prog) (t:=50) (ty2:=50) (bytes:=56) zet zhg rfl (by decide) KT.o rfl (jC rfl rfl rfl) (by rw[length_take];omega) (by rw[length_take];unfold maxLen;omega) (by have:=FR.o.size;have:=ae.o.size;omega)
       have B1:=Hd b1
       have bn:=@Hd (vl wz.heap.size 27 3 TxQ (λj=>j<wz.heap.size) c v5 (b.txs.take (n+1)) (css++[[.int .u32 t.ver,.slice A m B,.slice va t.outs.length vc]])) (by rw[List.take_add_one,HX.o];exact Q)
       obtain⟨T,W,S⟩:=Q.form
       rw[length_append,length_take,min_eq_left hn] at S
       simp only[List.length_singleton] at S
       subst S
       have NT:=@Hd (∀j,(Value.slice q n r).ownBlock=some j→wz.heap.size≤j∧j<wr.heap.size) (λj a=>KR.o.lt j a)
       have ab:=Hd (b3.obj aI.o (λe=>by have:=(NT.o _ e).1;have:=QL.o;omega))
       have cB:c.cell? ⟨G,2,none⟩=some (.slice q n r):=by have:=zv ab.o 2 _ rfl;simpa using this
       have fB:=yp (i:=2) ab.o
       have fs:Fr (λj=>j=G) c (c.setCell ⟨G,2,none⟩ (.slice T (n+1) W)):=(Fr.refl (λj=>j=G) c).setCell ⟨G,2,none⟩ (.inr rfl) _
       have aH:=Hd (heap_setCell_same c G 2 _ _ (.slice T (n+1) W) ab.o)
       have bo:=Hd (bn.o.fr fs (λj _ e=>by rw[e];exact QL.o) (λj a e=>by
        rcases b4 j a with h|h
        ·have:=(NT.o _ h).1;have:=QL.o;omega
        ·have:=ae.o.size;have:=bw.o.1;have:=aC.o.size;omega))
       have aB:=@Hd (Fr (λj=>j=G) wz (c.setCell ⟨G,2,none⟩ (.slice T (n+1) W))) (((FR.o.trans0 ae.o).trans b3 (λj a e=>by have:=(NT.o _ e).1;omega)).trans fs (λj _ e=>e))
       clear b1 Q b3 b4 fs ai
       have⟨K0,K1,K2⟩:=tZ3
       go_wp2_with (((with_reducible refine zt ?_);first|(clear K0;refine znT rfl rfl rfl RU.o rfl ?_)|(clear K1;refine zg rfl (zK (t:=50) rfl rfl zet zeZ rfl (by decide) (by decide) rfl) ?_)|(clear K2;at_builtin;refine zJ rfl rfl rfl rfl B1.o ?_));go_frame)
       go_roundw
       case rel=>exact⟨n+1,by go_num,by omega,_,_,aH.o,bo.o,aB.o⟩
       case measure=>simp[intOf];omega
   ·have aj:n=b.txs.length:=by omega
    have i1:¬(n:Int)<(b.txs.length:Int):=by omega
    have R6:=Hd (zv az.o)
    have BZ:=Hd (FR.o.obj bc.o (λe=>by have:=QD.o;have:=Z2.o;omega))
    have bl:=@Hd (∀V:Nat→Prop,(∀j,V j→j<w2.heap.size)→Kept V wr (λw=>vG w b [.int .u64 b.tag,.slice l b.pay.length o,.slice q n r])) (λV hV w' f=>by
     have k1:vl wz.heap.size 27 3 TxQ (λj=>j<wz.heap.size) wr (.slice q n r) b.txs css:=by have:=KR.o;rw[aj,take_length] at this;rw[aj];exact this
     have k2:=k1.rows (U:=V) (by decide) (by unfold maxLen;omega) (λj a e=>by have:=hV j e;have:=QD.o;have:=QL.o;omega) (λj a e=>by have:=(k1.lt j a).1;have:=hV j e;have:=QD.o;have:=QL.o;omega) w' f
     have k3:=zaO (V:=V) (zb OP.o FR.o (λj a e=>NQ.o j a e)) HO.o.1 hV w' f
     exact⟨l,o,q,r,by rw[aj];rfl,HV.o,k3,by rw[aj] at k2;exact k2⟩)
    clear aj
    have⟨K0,K1⟩:=tZ2
    go_wp2_with ((first|((with_reducible refine zt ?_);clear K0;refine znX rfl rfl rfl R6.o rfl ?_)|((with_reducible refine zr ?_);clear K1;refine zi rfl (zU (ty:=65) (b:=w.heap.size+1) (off:=0) (cs:=[.int .u64 b.tag,.slice l b.pay.length o,.slice q n r]) rfl rfl rfl (yb BZ.o (le_refl 3)) vz (jC rfl rfl rfl)) ?_));go_frame)
    have BE:=zcQ (cs:=[.int .u64 b.tag,.slice l b.pay.length o,.slice q n r]) BZ.o rfl
    have fE:=zy (w.heap.size+1) [.int .u64 b.tag,.slice l b.pay.length o,.slice q n r] 0 wr
    refine bodyPost_ret (v:=.agg [.int .u64 b.tag,.slice l b.pay.length o,.slice q n r].toArray) (results_cell_row (P:=prog) (fn:=Tryz.f58) rfl _ _ (w.heap.size+1) 65 _ (0,0) _ rfl BE Tryz.underlying65 rfl vz) rfl ⟨_,rfl,(F2.o.trans0 FW.o).trans fE (λi hi e=>by omega),λV hV w' f=>bl.o (λj=>V j∨j=w.heap.size+1) (λj a=>by have:=Z2.o;rcases a with a|a;have:=hV j a;omega;omega) w' ((fE.mono (λj a=>.inr a)).trans (f.mono (λj a=>.inl a)) (λ_ _ h=>h))⟩
theorem Zw:prog.underlying 129=some (.map 45 3):=by kernel_rfl
theorem zag {q:Nat} {a b c d e:Value} (h:w.rangeAt q 0 [a,b,c,d,e]):w.cell? ⟨q,0,none⟩=some a∧w.cell? ⟨q,1,none⟩=some b∧w.cell? ⟨q,2,none⟩=some c∧w.cell? ⟨q,3,none⟩=some d∧w.cell? ⟨q,4,none⟩=some e:=
 ⟨by simpa using h 0 _ rfl,by simpa using h 1 _ rfl,by simpa using h 2 _ rfl,by simpa using h 3 _ rfl,by simpa using h 4 _ rfl⟩
theorem zgd {V:Nat→Prop} {d:yx} {k i:Option Addr} {n m l j:Nat} (h:Kept V w (λw=>jG w d [a,b,c,.slice k n l,.slice i m j])):n=d.ids.length∧m=d.chg.length∧Kept V w (λw=>y4 w (.slice k d.ids.length l) d.ids)∧Kept V w (λw=>zfU w (.slice i d.chg.length j) d.chg):=by
 have g:∀w',jG w' d [a,b,c,.slice k n l,.slice i m j]→n=d.ids.length∧m=d.chg.length∧y4 w' (.slice k d.ids.length l) d.ids∧zfU w' (.slice i d.chg.length j) d.chg:=by
  rintro w' ⟨bcs,x,y,o,p,e,u,hi,v⟩
  obtain⟨z,A,B,C,rfl⟩:=u.form
  simp only[List.cons_append,nil_append,List.cons.injEq,and_true] at e
  obtain⟨-,-,-,q,r⟩:=e
  injection q with e11 e12 e13
  injection r with e21 e22 e23
  subst e11;subst e13;subst e21;subst e23
  exact⟨e12,e22,hi,v⟩
 obtain⟨s,t,-,-⟩:=g w h.now
 exact⟨s,t,λw' f=>(g w' (h w' f)).2.2.1,λw' f=>(g w' (h w' f)).2.2.2⟩
theorem vo.setM {g w w':World} {p s b:Nat} {css:List (List Value)} {D:ChD} (h:vo g w p s U b c css D) {M':List (zf×Int)} (m:zi3 w' b M') (f:Fr (λj=>j=b) w w'):vo g w' p s U b c css ⟨D.S,D.bs,M'⟩:=
 {h with
  obj:=f.obj h.obj h.pm
  set:=h.set.frV f (λj a e=>h.um (e▸a)) (λj e=>by have:=h.lo2;omega)
  row:=zb h.row f (λj a e=>(h.rn j a).2.1 e)
  data:=λi d cs k l=>(h.data i d cs k l).same (f.mono (λj a=>.inr (.inr (.inl a))))
  map:=m}
theorem zdL.len {x:YM} (h:zdL w x cs):cs.length=2:=by
 obtain⟨a,b,c,d,rfl,_⟩:=h
 rfl
theorem zfM {T w:World} {p s g:Nat} {i:Value} {css:List (List Value)} {D:ChD} (h:vo T w p s U g i css D) {d:yx} (hd:Kept (chV p U g i) w (λw=>jG w d cs)) (hN:D.S.length+Jh d.chg≤100000) (hC:d.chg.length≤100000) (hI:d.ids.length≤100000):
  Calls prog 60 #[.pointer (some ⟨p,0,none⟩),.agg cs.toArray] w λe w'=>e=.returned (.tuple #[])∧∃M',vo T w' p s U g i css ⟨xP d.chg D.S,D.bs,M'⟩∧(∀x v,(x,v)∈M'↔x∉d.ids∧(x,v)∈D.M)∧M'.length≤D.M.length∧Fr (chV p U g i) w w':=by
 obtain⟨pa,pc,ta,tc,ia,ic,R,z,rfl⟩:=hd.now.form
 obtain⟨-,-,ki,kc⟩:=zgd hd
 have zH:=yJ
 have f1:=(frN w).alloc (.cells #[.int .u64 d.blk.tag,.slice pa d.blk.pay.length pc,.slice ta d.blk.txs.length tc,.slice ia d.ids.length ic,.slice R d.chg.length z] 142)
 have F1:=Hd f1
 have H1:=Hd (h.fr0 f1)
 have KI:=Hd (ki.same f1.of0)
 have KC:=Hd (kc.same f1.of0)
 obtain⟨-,-,-,x3,x4⟩:=zag (zq w [.int .u64 d.blk.tag,.slice pa d.blk.pay.length pc,.slice ta d.blk.txs.length tc,.slice ia d.ids.length ic,.slice R d.chg.length z] 142)
 have X3:=Hd x3
 have X4:=Hd x4
 have NV:=@Hd (¬chV p U g i w.heap.size) (λe=>by have:=h.hi _ e;omega)
 have az:(w.alloc (.cells #[.int .u64 d.blk.tag,.slice pa d.blk.pay.length pc,.slice ta d.blk.txs.length tc,.slice ia d.ids.length ic,.slice R d.chg.length z] 142)).cell? ⟨w.heap.size,4,none⟩=some (.slice R d.chg.length z):=x4
 have HU:=@Hd (∀j,U j→chV p U g i j) (λj r=>.inr (.inl r))
 have PI:(d.chg.length:Int)-1=zhs d.chg.length:=by cases d.chg.length with|zero=>rfl|succ n=>show((n+1:Nat):Int)-1=(n:Int);omega
 have HM:=@Hd (chV p U g i g) (.inr (.inr (.inl rfl)))
 clear h hd ki kc x3 x4 f1
 show Calls prog 60 #[.pointer (some ⟨p,0,none⟩),.agg #[.int .u64 d.blk.tag,.slice pa d.blk.pay.length pc,.slice ta d.blk.txs.length tc,.slice ia d.ids.length ic,.slice R d.chg.length z]] w _
 go_enter Tryz.func60,Tryz.ntmps60
 go_wp2_with fail
 generalize w.alloc (.cells #[.int .u64 d.blk.tag,.slice pa d.blk.pay.length pc,.slice ta d.blk.txs.length tc,.slice ia d.ids.length ic,.slice R d.chg.length z] 142)=w1 at*
 generalize w.heap.size=q0 at*
 clear az
 go_loopw [4] (λL wr=>∃k:Nat,L=.int .i64 (zhs k)∧k≤d.chg.length∧vo T wr p s U g i css ⟨xP (d.chg.drop k) D.S,D.bs,D.M⟩∧Fr (chV p U g i) w1 wr) (λL _=>(intOf L+1).toNat)
 case atStart=>exact⟨d.chg.length,rfl,le_refl _,by rw[List.drop_length];exact H1.o,Fr.refl _ _⟩
 case round=>
  obtain⟨k,rfl,hk,o,fr⟩:=hrel
  have V:=Hd fr
  have E:=Hd o
  clear fr o PI
  cases k with
  |succ m=>
   have q:zhs (m+1)=(m:Int):=rfl
   rw[q]
   clear q
   have i1:(0:Int)≤(m:Int):=by omega
   obtain⟨c,u⟩:∃x,d.chg[m]? =some x:=⟨_,List.getElem?_eq_getElem (by omega)⟩
   have i2:(m:Int)<(d.chg.length:Int):=by omega
   have i3:(0:Int)≤(m:Int):=by omega
   have TN:=Hd (zku u)
   have SN:=Hd (zgP D.S u)
   have UL:=Hd (zdH (d.chg.drop (m+1)) D.S)
   have ao:=Hd (KC.o.same V.o)
   obtain⟨b,off,cap,aA,hv,ay,⟨P,Q,N,O,af,-⟩,ag⟩:=zai (by decide) (λ_ _ _ h=>h.len) ao.o u
   cases hv
   subst af
   have KP:=@Hd (Kept (chV p U g i) wr (λw=>(w.cell? ⟨b,off+m*2,none⟩=some (.slice P c.took.length Q)∧w.cell? ⟨b,off+m*2+1,none⟩=some (.slice N c.made.length O))∧vt w (.slice P c.took.length Q) c.took∧vw w (.slice N c.made.length O) c.made)) (λw' f=>by
    obtain⟨hr,aD,aE,aB,aC,e,q1,q2⟩:=ag w' f
    simp only[List.cons.injEq,and_true] at e
    obtain⟨e1,e2⟩:=e
    injection e1 with e11 _ e13
    injection e2 with e21 _ e23
    subst e11;subst e13;subst e21;subst e23
    exact⟨⟨hr 0 _ rfl,hr 1 _ rfl⟩,q1,q2⟩)
   have FD:=Hd (frN wr).drew
   have G:=Hd (E.o.fr0 FD.o)
   have I:=Hd (KP.o.same FD.o.of0)
   have P0:=Hd G.o.cells.1
   have av:=Hd ((V.o.trans0 FD.o).cell X4.o NV.o)
   have ak:=Hd (V.o.trans0 FD.o)
   have TK:=Hd (zkt G.o.set I.o.now.2.2 (show c.made.length+(xP (d.chg.drop (m+1)) D.S).length≤100000 by have:=TN.o;have:=UL.o;omega))
   have ar:=Hd (λ(w':World) (S:List zn) (h:CS T w' s U S) (v:Value) (l:List zn) (hl:vt w' v l) (hn:l.length+S.length≤100000)=>zhu h hl hn)
   have TL:=Hd (zdD (xP (d.chg.drop (m+1)) D.S) c.made)
   clear ag u ay
   generalize xP (d.chg.drop (m+1)) D.S=S1 at*
   go_wp2_with fail
   refine wrLx [ff,ff,ff,ff,ff,ff,ff,ff,ff,ff,tt] (λw'=>w'.cell? ⟨p,0,none⟩=some (.pointer (some ⟨s,0,none⟩))∧w'.cell? ⟨q0,4,none⟩=some (.slice (some ⟨b,off,none⟩) d.chg.length z)∧w'.cell? ⟨b,off+m*2+1,none⟩=some (.slice N c.made.length O)) ?_ (λK hK=>?_)
   ·exact⟨P0.o,av.o,I.o.now.1.2⟩
   generalize wr.drew=z1 at*
   repeat((first|(refine zk rfl ?_;constructor;constructor;(focus(first|(rintro w' ⟨s1,s2,s3⟩;exact goS))))|(refine zl rfl ?_));try simp only[Act.put,pA,pB,pC])
   (refine zM rfl (λK' hK'=>?_))
   go_simp
   refine TK.o.mono ?_
   rintro e w2 ⟨x,rfl,-,A,f2⟩
   have W:=Hd (G.o.setS A f2)
   have F2:=@Hd (Fr (chV p U g i) w1 w2) (ak.o.trans (f2.mono (λj r=>HU.o j r)) (λ_ _ h=>h))
   have ab:=Hd (I.o.same (f2.mono (λj r=>HU.o j r)))
   clear A f2
   refine nXt hK' ?_ λhS=>?_
   ·exact⟨W.o.cells.1,F2.o.cell X4.o NV.o,ab.o.now.1.2⟩
   try simp only[Act.put,pA,pB,pC]
   refine zN (hK.out _ _ ?_)
   have FE:=Hd (frN w2).drew
   have F:=Hd (W.o.fr0 FE.o)
   have H:=Hd (ab.o.same FE.o.of0)
   have F3:=Hd (F2.o.trans0 FE.o)
   have au:=Hd (ar.o _ _ F.o.set _ _ H.o.now.2.1 (show c.took.length+(JK S1 c.made).length≤100000 by have:=TN.o;have:=UL.o;have:=TL.o;omega))
   go_wp2_with fail
   refine wrLx [ff,ff,ff,ff,ff,ff,ff,ff,ff,ff,tt] (λw'=>w'.cell? ⟨p,0,none⟩=some (.pointer (some ⟨s,0,none⟩))∧w'.cell? ⟨q0,4,none⟩=some (.slice (some ⟨b,off,none⟩) d.chg.length z)∧w'.cell? ⟨b,off+m*2,none⟩=some (.slice P c.took.length Q)) ?_ (λK hK=>?_)
   ·exact⟨F.o.cells.1,F3.o.cell X4.o NV.o,H.o.now.1.1⟩
   generalize w2.drew=z2 at*
   repeat((first|(refine zk rfl ?_;constructor;constructor;(focus(first|(rintro w' ⟨s1,s2,s3⟩;exact goS))))|(refine zl rfl ?_));try simp only[Act.put,pA,pB,pC])
   (refine zM rfl (λK' hK'=>?_))
   go_simp
   refine au.o.mono ?_
   rintro e w4 ⟨rfl,B,f4⟩
   have X:=Hd (F.o.setS B f4)
   have F4:=@Hd (Fr (chV p U g i) w1 w4) (F3.o.trans (f4.mono (λj r=>HU.o j r)) (λ_ _ h=>h))
   have aq:=Hd (H.o.same (f4.mono (λj r=>HU.o j r)))
   clear B f4
   refine nXt hK' ?_ λhS=>?_
   ·exact⟨X.o.cells.1,F4.o.cell X4.o NV.o,aq.o.now.1.1⟩
   try simp only[Act.put,pA,pB,pC]
   refine zN (hK.out _ _ ?_)
   go_wp2_with fail
   go_roundw
   case rel=>exact⟨m,congrArg (Value.int .i64) (by cases m with|zero=>rfl|succ n=>show((n+1:Nat):Int)-1=(n:Int);omega),by omega,by rw[SN.o];exact X.o,F4.o⟩
   case measure=>show((m:Int)-1+1).toNat<((m:Int)+1).toNat;omega
  |zero=>
   have q:zhs 0= -1:=rfl
   rw[q]
   have c3:=V.o.cell X3.o NV.o
   have al:=@Hd (vo T wr p s U g i css ⟨xP d.chg D.S,D.bs,D.M⟩) (E.o)
   clear q E
   go_wp2_with fail
   (try simp only[Exit.inBlock,Exit.then])
   clear c3
   go_loopw [40] (λL wq=>∃(n:Nat) (M:List (zf×Int)),L=.int .i64 n∧n≤d.ids.length∧vo T wq p s U g i css ⟨xP d.chg D.S,D.bs,M⟩∧(∀x v,(x,v)∈M↔x∉d.ids.take n∧(x,v)∈D.M)∧M.length≤D.M.length∧Fr (chV p U g i) w1 wq) (λL _=>d.ids.length-(intOf L).toNat)
   case atStart=>exact⟨0,D.M,rfl,zero_le _,al.o,by simp,le_refl _,V.o⟩
   case round=>
    obtain⟨n,M,rfl,hn,o,hM,aj,fr⟩:=hrel
    have FQ:=Hd fr
    have E:=Hd o
    have aa:=Hd hM
    have Z:=Hd aj
    clear fr o hM aj
    by_cases aw:n<d.ids.length
    ·have i1:(n:Int)<(d.ids.length:Int):=by omega
     obtain⟨x,u⟩:∃x,d.ids[n]? =some x:=⟨_,List.getElem?_eq_getElem aw⟩
     have KQ:=KI.o wr FQ.o
     have ad:=Hd (KQ.1 x (List.mem_of_getElem? u))
     obtain⟨b,off,cap,hv,hr,-⟩:=KQ.at_ u
     cases hv
     have R1:=Hd hr
     have HL:=Hd (zu ad.o)
     have FA:=Hd ((frN wr).alloc (.cells (zd x).toArray 45))
     have RX:=Hd (zq wr (zd x) 45)
     have TK:=@Hd (∀y,y∉d.ids.take (n+1)↔y∉d.ids.take n∧y≠x) (λy=>by
      rw[List.take_add_one,u]
      simp)
     clear hr u KQ
     go_wp2_with (first|(refine znV rfl rfl rfl R1.o HL.o ?_)|(refine zn3 (w:=wr) (cs:=zd x) rfl rfl rfl rfl HL.o zE ?_))
     have FZ:=Hd (FA.o.trans0 (frN (wr.alloc (.cells (zd x).toArray 45))).drew)
     have HZ:=Hd (E.o.fr0 FZ.o)
     have RZ:=Hd (za RX.o (frN (wr.alloc (.cells (zd x).toArray 45))).drew _root_.id)
     refine wrLx [ff,ff,ff,ff,ff,tt] (λw'=>w'.cell? ⟨p,2,none⟩=some (.map (some g))∧w'.rangeAt wr.heap.size 0 (zd x)) ?_ (λK hK=>?_)
     ·exact⟨HZ.o.cells.2.2,RZ.o⟩
     generalize (wr.alloc (.cells (zd x).toArray 45)).drew=z1 at*
     obtain⟨w5,M5,C,ai,ae,t,ah⟩:=HZ.o.map.del xT.keyed Zw (λ_ _=>xf) (ym ad.o) 0 45
     have an:=Hd C
     have Y:=Hd (HZ.o.setM ai t.fr)
     have F5:=@Hd (Fr (chV p U g i) w1 w5) ((FQ.o.trans0 FZ.o).trans t.fr (λj r e=>by subst e;exact HM.o))
     have ME:=@Hd (∀y v,(y,v)∈M5↔y∉d.ids.take (n+1)∧(y,v)∈D.M) (λy v=>by
      rw[ae y v,aa.o,TK.o]
      exact⟨λ⟨a,b,c⟩=>⟨⟨b,a⟩,c⟩,λ⟨⟨b,a⟩,c⟩=>⟨a,b,c⟩⟩)
     have ML:=Hd (Nat.le_trans ah Z.o)
     have R5:=Hd (za RZ.o t.fr (λe=>by have:=E.o.map.lt;omega))
     clear C ai ae t ah
     repeat((first|(refine zk rfl ?_;constructor;constructor;(focus(first|exact zn0 rfl (λw h=>h.2) HL.o|(rintro w' ⟨s1,s2⟩;exact goS))))|(refine zl rfl ?_));try simp only[Act.put,pA,pB,pC])
     (refine zM rfl (λK' hK'=>?_))
     refine yD (J2 rfl rfl rfl an.o) ?_
     refine nXt hK' ?_ λhS=>?_
     ·exact⟨Y.o.cells.2.2,R5.o⟩
     try simp only[Act.put]
     refine zN (hK.out _ _ ?_)
     go_wp2_with fail
     go_roundw
     case rel=>exact⟨n+1,M5,by go_num,by omega,Y.o,ME.o,ML.o,F5.o⟩
     case measure=>simp[intOf];omega
    ·have ax:n=d.ids.length:=by omega
     have i1:¬(n:Int)<(d.ids.length:Int):=by omega
     have HE:=@Hd (∀x v,(x,v)∈M↔x∉d.ids∧(x,v)∈D.M) (by
      have:=aa.o
      rw[ax,take_length] at this
      exact this)
     go_wp2
     refine bodyPost_end (results_none rfl _ _ _) rfl ?_
     exact⟨rfl,M,E.o,HE.o,Z.o,F1.o.of0.trans FQ.o (λ_ _ h=>h)⟩
def zm2 (w0 w:World) (p s mi:Nat) (U:Nat→Prop) (bv:Value) (css:List (List Value)) (D:ChD) (dq:Nat) (T:Nat→Prop) (b:qf) (E:Int) (S:List zn) (M:List (zf×Int)) (d:yx) (e:Ending) (w':World):Prop:=
 e=.returned (.int .i64 E)∧vo w0 w' p s U mi bv css ⟨S,D.bs,M⟩∧Fr (λj=>chV p U mi bv j∨j=dq) w w'∧d.blk=b∧
  ∃cs,w'.heap[dq]? =some (.cells cs.toArray 142 (0,0))∧Kept (λj=>chV p U mi bv j∨T j) w' (λw=>jG w d cs)
end Go.Proofs.YtbcllfjmabiafaaGreatDoor
