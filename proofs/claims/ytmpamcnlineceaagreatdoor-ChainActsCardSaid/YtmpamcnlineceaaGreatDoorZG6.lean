/- chain: transactions and blocks as they lie. -/
import Derived.Deep.LoopGhost
import Derived.Lib.Bytealg
import Derived.Sort.Grow
import Derived.Laws.Externs
import Derived.Shelf.SlSortCmp.WholeK
import Derived.Test.YtmpamcnlineceaaGreatDoorProg
import Derived.Shelf.SlSortCmp.NoneTotal
import Derived.Laws.MakeOwn
import Derived.Test.YtmpamcnlineceaaGreatDoorZG5
import Derived.Test.YtmpamcnlineceaaGreatDoorZG4
import Derived.Test.YtmpamcnlineceaaGreatDoorZG3
import Derived.Test.YtmpamcnlineceaaGreatDoorZG2
set_option linter.unusedVariables false
set_option linter.unusedSimpArgs false
set_option linter.unnecessarySimpa false
set_option linter.all false
set_option maxRecDepth 20000
set_option maxHeartbeats 16000000
namespace Go.Proofs.YtmpamcnlineceaaGreatDoor
open Go Go.RowKit Go.Maps Go.MapKept
open Go.Proofs.Tryz(prog)
open List(mem_map mem_append length_map append_assoc nil_append size_toArray)
open Nat(le_refl zero_le le_trans)
variable {V:Nat→Prop} {c k n:Nat} {cs:List Value} {kv v:Value} {w w':World}
def Kept (V:Nat→Prop) (w:World) (Q:World→Prop):Prop:=∀w',Fr V w w'→Q w'
theorem Kept.now {Q:World→Prop} (h:Kept V w Q):Q w:=h w (Fr.refl V w)
theorem Kept.step {V V':Nat→Prop} {Q:World→Prop} (h:Kept V w Q) (f:Fr V w w') (b:∀j,j<w.heap.size→V' j→V j):Kept V' w' Q:=
 λc a=>h c (f.trans a b)
theorem Kept.same {Q:World→Prop} (h:Kept V w Q) (f:Fr V w w'):Kept V w' Q:=h.step f (λ_ _ h=>h)
theorem Kept.imp {Q R:World→Prop} (h:Kept V w Q) (a:∀w',Fr V w w'→Q w'→R w'):Kept V w R:=λw' f=>a w' f (h w' f)
structure InD where
 from_:zE
 key:List Int
structure TxD where
 ver:Int
 ins:List InD
 outs:List yk
structure y7 where
 tag:Int
 pay:List yk
 txs:List TxD
def xB {α:Type} (k:Nat) (q:World→α→List Value→Prop) (w:World) (v:Value) (L:List α):Prop:=
 ∃va vc,v=.slice va L.length vc∧(L.length≤maxLen∧L.length≤vc)∧∀(i:Nat) (d:α),L[i]? =some d→∃b off cs,va=some ⟨b,off,none⟩∧w.rangeAt b (off+i*k) cs∧q w d cs
theorem xB.keep {α:Type} {q:World→α→List Value→Prop} {L:List α} (l:∀d cs,q w d cs→q w' d cs) (h:xB k q w v L) (f:Fr No w w'):xB k q w' v L:=by
 obtain⟨m,n,e,j,h⟩:=h
 refine⟨m,n,e,j,λi d hi=>?_⟩
 obtain⟨b,off,cs,a,c,g⟩:=h i d hi
 exact⟨b,off,cs,a,zb c f id,l _ _ g⟩
theorem xB.form {α:Type} {q:World→α→List Value→Prop} {L:List α} (h:xB k q w v L):∃a c,v=.slice a L.length c:=by
 obtain⟨b,d,e,_⟩:=h
 exact⟨b,d,e⟩
theorem xB.at_ {α:Type} {q:World→α→List Value→Prop} {L:List α} (h:xB k q w v L) {i:Nat} {d:α} (g:L[i]? =some d):∃b off a cs,v=.slice (some ⟨b,off,none⟩) L.length a∧w.rangeAt b (off+i*k) cs∧q w d cs:=by
 obtain⟨l,j,rfl,-,h⟩:=h
 obtain⟨b,off,cs,e,c,f⟩:=h i d g
 subst e
 exact⟨b,off,j,cs,rfl,c,f⟩
theorem xB.len {α:Type} {q:World→α→List Value→Prop} {L:List α} (h:xB k q w v L):L.length≤maxLen:=by
 obtain⟨a,b,e,h,_⟩:=h
 exact h.1
theorem xB.capLe {α:Type} {q:World→α→List Value→Prop} {L:List α} {a:Option Addr} (h:xB k q w (.slice a n c) L):n≤c:=by
 obtain⟨b,d,e,h,_⟩:=h
 injection e with _ e2 e3
 subst e2;subst e3
 exact h.2
theorem xB.nil {α:Type} {q:World→α→List Value→Prop}:xB k q w (.slice none 0 0) ([]:List α):=⟨none,0,rfl,⟨zero_le _,zero_le _⟩,λi d h=>by simp at h⟩
theorem xB.own {α:Type} {q:World→α→List Value→Prop} {L:List α} {B:Nat} {ty:TypeId} {css:List (List Value)} (b:0<k) (h:w.ownsRow B ty k v L.length (css.flatMap id)) (l:css.length=L.length) (j:∀cs∈css,cs.length=k) (m:L.length≤maxLen)
  (n:∀(i:Nat) (d:α) (cs:List Value),L[i]? =some d→css[i]? =some cs→q w d cs):xB k q w v L:=by
 obtain⟨o,p,rfl⟩:=h.slice.arg.form
 refine⟨o,p,rfl,⟨m,xG.cap h.slice.arg⟩,λi d hi=>?_⟩
 have a:i<css.length:=by rw[l];exact(List.getElem?_eq_some_iff.1 hi).1
 obtain⟨g,c,e,r,-⟩:=J6 (f:=id) b j h (List.getElem?_eq_getElem a)
 injection e with e1 e2 e3
 subst e1
 exact⟨g,0,css[i],rfl,by rwa [Nat.zero_add],n i d _ hi (List.getElem?_eq_getElem a)⟩
def VT (w:World) (v:Value) (k:List Int):Prop:=(∀b∈k,0≤b∧b≤255)∧xG w v k.length (k.map zu)
theorem VT.keep {k:List Int} (h:VT w v k) (f:Fr No w w'):VT w' v k:=⟨h.1,h.2.keep f⟩
def inC (p:zE) (kv:Value):List Value:=zi p++[kv]
theorem vl {p:zE} (h:p.ok) (kv:Value):(inC p kv).length=34:=by simp[inC,zF h]
theorem qD {p:zE} {a:Option Addr}:∀u∈inC p (.slice a n c),u.oneCell'=true:=by
 intro u b
 simp only[inC,mem_append,List.mem_singleton] at b
 rcases b with b|rfl
 ·exact yB u b
 ·rfl
def InQ (w:World) (x:InD) (cs:List Value):Prop:=∃ka kc,cs=inC x.from_ (.slice ka x.key.length kc)∧x.from_.ok∧VT w (.slice ka x.key.length kc) x.key
theorem InQ.keep {x:InD} (h:InQ w x cs) (f:Fr No w w'):InQ w' x cs:=by
 obtain⟨c,d,e,a,b⟩:=h
 exact⟨c,d,e,a,b.keep f⟩
abbrev za1 (w:World) (v:Value) (L:List InD):Prop:=xB 34 InQ w v L
theorem za1.keep0 {L:List InD} (h:za1 w v L) (f:Fr No w w'):za1 w' v L:=xB.keep (λ_ _ h=>h.keep f) h f
theorem ziK:∃d,prog.underlying 106=some d∧d.isRow=true:=vq (by kernel_rfl)
theorem ziN:(prog.info? 106).map (·.size)=some 34:=by kernel_rfl
theorem vX (w:World):(zeroValue 106).run prog w=.ok (.agg (inC vn (.slice none 0 0)).toArray) w:=by kernel_rfl
theorem zf3:prog.underlying 60=some (.slice 106):=by kernel_rfl
theorem zgB:(prog.info? 106).map (λi=>(i.zero,i.size,i.bytes))=some (some (.agg (inC vn (.slice none 0 0)).toArray),34,64):=by kernel_rfl
theorem zfg {b off:Nat} {p:zE} (r:w.rangeAt b off (inC p kv)) (ok:p.ok):w.rangeAt b off (zi p)∧w.cell? ⟨b,off+33,none⟩=some kv:=by
 refine⟨λj u a=>r j u ?_,?_⟩
 ·unfold inC
  rw[List.getElem?_append_left (List.getElem?_eq_some_iff.1 a).1]
  exact a
 ·refine r 33 kv ?_
  unfold inC
  rw[List.getElem?_append_right (by rw[zF ok];exact le_refl _),zF ok]
  rfl
theorem zhe {b off:Nat} {p:zE} (r:w.rangeAt b off (zi p)) (ok:p.ok):w.rangeAt b off (p.tx.map zu)∧w.cell? ⟨b,off+32,none⟩=some (.int .u32 p.n):=by
 refine⟨λj u a=>r j u ?_,r 32 _ (Ze ok)⟩
 unfold zi
 rw[List.getElem?_append_left (List.getElem?_eq_some_iff.1 a).1]
 exact a
def txC (v:Int) (iv ov:Value):List Value:=[.int .u32 v,iv,ov]
def TxQ (w:World) (t:TxD) (cs:List Value):Prop:=∃ia ic oa oc,cs=txC t.ver (.slice ia t.ins.length ic) (.slice oa t.outs.length oc)∧(0≤t.ver∧t.ver≤4294967295)∧za1 w (.slice ia t.ins.length ic) t.ins∧xA w (.slice oa t.outs.length oc) t.outs
theorem TxQ.keep {x:TxD} (h:TxQ w x cs) (f:Fr No w w'):TxQ w' x cs:=by
 obtain⟨d,g,i,j,e,a,b,c⟩:=h
 exact⟨d,g,i,j,e,a,b.keep0 f,c.keep f⟩
abbrev YD (w:World) (v:Value) (L:List TxD):Prop:=xB 3 TxQ w v L
theorem YD.keep0 {L:List TxD} (h:YD w v L) (f:Fr No w w'):YD w' v L:=xB.keep (λ_ _ h=>h.keep f) h f
theorem jF {t:Int} {a b:Option Addr} {n c m d:Nat}:∀u∈txC t (.slice a n c) (.slice b m d),u.oneCell'=true:=by
 intro u e
 simp only[txC,List.mem_cons,List.not_mem_nil,or_false] at e
 rcases e with rfl|rfl|rfl<;>rfl
theorem zcA:∃d,prog.underlying 62=some d∧d.isRow=true:=vq (by kernel_rfl)
theorem qN:(prog.info? 62).map (·.size)=some 3:=by kernel_rfl
theorem zf4:prog.underlying 34=some (.slice 62):=by kernel_rfl
theorem zgC:(prog.info? 62).map (λi=>(i.zero,i.size,i.bytes))=some (some (.agg (txC 0 (.slice none 0 0) (.slice none 0 0)).toArray),3,56):=by kernel_rfl
def zdN (t:Int) (pv tv:Value):List Value:=[.int .u64 t,pv,tv]
def xT (w:World) (b:y7) (cs:List Value):Prop:=∃pa pc ta tc,cs=zdN b.tag (.slice pa b.pay.length pc) (.slice ta b.txs.length tc)∧(0≤b.tag∧b.tag≤18446744073709551615)∧xA w (.slice pa b.pay.length pc) b.pay∧YD w (.slice ta b.txs.length tc) b.txs
theorem xT.keep {x:y7} (h:xT w x cs) (f:Fr No w w'):xT w' x cs:=by
 obtain⟨d,g,i,j,e,a,b,c⟩:=h
 exact⟨d,g,i,j,e,a,b.keep f,c.keep0 f⟩
theorem Y3:∃d,prog.underlying 36=some d∧d.isRow=true:=vq (by kernel_rfl)
theorem xg:(prog.info? 36).map (·.size)=some 3:=by kernel_rfl
structure jM (w:World):Prop where
 at_:Je w
 lt:2<w.heap.size
theorem jM.keep (h:jM w) {W:Nat→Prop} (f:Fr W w w') (a:∀j,W j→2<j):jM w':=⟨h.at_.keep f (λh=>by have:=a _ h;omega) (λh=>by have:=a _ h;omega),Nat.lt_of_lt_of_le h.lt f.size⟩
theorem jM.keep0 (h:jM w) (f:Fr No w w'):jM w':=h.keep f (λ_ h=>h.elim)
theorem vp (l:List Int):xU (y9 l):=by
 refine⟨zca Yq.adds,λx a=>?_⟩
 unfold y9 VR at a
 obtain⟨y,_,b⟩:=List.mem_flatMap.1 a
 simp only[JC,List.mem_cons,List.not_mem_nil,or_false] at b
 rcases b with rfl|rfl|rfl|rfl<;>omega
theorem jh (l:List Int):xU (xL l):=vp _
theorem zeY {k:List Int} (h:xG w kv k.length (k.map zu)) {p:Nat} (i:w.heap.size≤p):vR w p kv k:=by
 rcases h with(⟨rfl,d,-⟩|⟨b,off,c,rfl,d,f,e,g⟩)|⟨a,c,rfl,d,-,-⟩
 ·exact .inl ⟨List.eq_nil_of_length_eq_zero d,none,0,rfl⟩
 ·exact .inr ⟨b,off,c,rfl,by omega,e,d⟩
 ·exact .inl ⟨List.eq_nil_of_length_eq_zero d,some a,c,rfl⟩
theorem Vm {k:List Int} (h:xG w kv k.length (k.map zu)):∀p,(w.alloc (.cells #[kv] 84)).heap.size≤p→Jo (w.alloc (.cells #[kv] 84)) p (.slice (some ⟨w.heap.size,0,none⟩) 1 1) [k]:=λp a=>by
 have b:(w.alloc (.cells #[kv] 84)).heap.size=w.heap.size+1:=by simp
 refine⟨_,_,rfl,λi l hi=>?_⟩
 cases i with
 |succ i=>simp at hi
 |zero=>
  have e:k=l:=by simpa using hi
  subst e
  exact⟨w.heap.size,0,kv,rfl,by omega,zm (zS w (.cells #[kv] 84)) 0 _ rfl,zeY (h.keep ((frN w).alloc _)) a⟩
theorem zb9 (a:jM w) {k:List Int} (h:xG w kv k.length (k.map zu)) (b:k.length≤1000000000000):
  Calls prog 44 #[.slice (some ⟨w.heap.size,0,none⟩) 1 1] (w.alloc (.cells #[kv] 84)) λe w'=>e=.returned (.agg ((y9 k).map zu).toArray)∧Fr No (w.alloc (.cells #[kv] 84)) w':=by
 have f:=(frN w).alloc (.cells #[kv] 84)
 have g:=a.keep0 f
 have:=zdH g.at_ g.lt (v:=.slice (some ⟨w.heap.size,0,none⟩) 1 1) (L:=[k]) (Vm h) (by simp) (by simpa using b)
 simpa using this
theorem zfr (o:jM w) {k:List Int} (h:xG w kv k.length (k.map zu)) (s:k.length≤1000000000000):
  Calls prog 87 #[kv] w λe w'=>e=.returned (.agg (zl (y9 k)).toArray)∧Fr No w w':=by
 have A:∀w,(zeroValue 40).run prog w=.ok (.agg yO) w:=λw=>by kernel_rfl
 have d:=@J (Fr No w (w.alloc (.cells yO 40))) ((frN w).alloc _)
 have l:=J (zS w (.cells yO 40))
 have r:=J (zb9 (o.keep0 d.o) (h.keep d.o) s)
 have c:=@J (((y9 k).map zu).length=32) (by rw[length_map];exact(vp k).1)
 obtain⟨y,z,rfl⟩:=h.form
 clear o h
 unfold zl
 generalize y9 k=a at*
 go_enter Tryz.func87,Tryz.ntmps87
 generalize u:w.alloc (.cells yO 40)=j at*
 have f:=@J (Fr No j (j.alloc (.cells #[.slice y k.length z] 84))) ((frN j).alloc _)
 go_wp2_with (first|(go_at_call 44;refine r.o.mono ?_;rintro e p ⟨rfl,n⟩;have g:=J n;clear n)|((with_reducible refine zr ?_);refine ze rfl (zy (ty:=40) (b:=w.heap.size) (off:=0) (cs:=a.map zu) rfl rfl rfl (by rw[c.o];exact zM (g.o.obj (f.o.obj l.o id) id) (le_refl 32)) (by rw[c.o];exact qm) (λv t=>by obtain⟨x,-,rfl⟩:=mem_map.1 t;rfl)) ?_))
 have q:=@J (p.heap[w.heap.size]? =some (.cells yO 40 (0,0))) (g.o.obj (f.o.obj l.o id) id)
 have m:=yN w.heap.size 40 (a.map zu) 0 p yO q.o
 have e:=qL (a.map zu) [] yO.toList [] (by rw[c.o];rfl)
 simp only[nil_append,List.append_nil,List.length_nil] at e
 rw[e] at m
 exact bodyPost_ret (v:=.agg (a.map zu).toArray) (results_cell_row (P:=prog) (fn:=Tryz.f87) rfl _ _ w.heap.size 40 (a.map zu).toArray (0,0) _ rfl m Tryz.underlying40 rfl (by rw[size_toArray,c.o];exact qm)) rfl ⟨rfl,((d.o.trans0 f.o).trans0 g.o).trans (zv _ _ _ _) (λi hi e=>(show False by omega))⟩
theorem zau (k:jM w) {L:List (List Int)} (r:∀p,w.heap.size≤p→Jo w p v L) (R:L.length≤1000000) (S:L.flatten.length≤1000000000000):
  Calls prog 28 #[v] w λe w'=>e=.returned (.agg (zl (xL L.flatten)).toArray)∧Fr No w w':=by
 have W:∀w,(zeroValue 40).run prog w=.ok (.agg yO) w:=λw=>by kernel_rfl
 have g:=@J (Fr No w (w.alloc (.cells yO 40))) ((frN w).alloc _)
 have F:=J (zS w (.cells yO 40))
 have o:=J (k.keep0 g.o)
 have H:=J (zdH o.o.at_ o.o.lt (λp T=>(r p (le_trans g.o.size T)).keep g.o.of0) R S)
 have c:=@J (((y9 L.flatten).map zu).length=32) (by rw[length_map];exact(vp _).1)
 have j:=@J (((xL L.flatten).map zu).length=32) (by rw[length_map];exact(vp _).1)
 have B:=J (λ(w:World) (k:jM w) (kv:Value) (h:xG w kv (y9 L.flatten).length ((y9 L.flatten).map zu))=>zb9 k h (by rw[(vp L.flatten).1];decide))
 have C:=@J (y9 (y9 L.flatten)=xL L.flatten) (rfl)
 rw[C.o] at B
 have q:=J ((vp L.flatten).1)
 obtain⟨X,Y,rfl,-⟩:=r w.heap.size (le_refl _)
 clear k r C
 unfold zl
 generalize xL L.flatten=f at*
 generalize y9 L.flatten=d at*
 go_enter Tryz.func28,Tryz.ntmps28
 generalize U:w.alloc (.cells yO 40)=Z at*
 have⟨K,M,N,O⟩:=tZ4
 go_wp2_with ((first|(clear K;go_at_call 44;refine H.o.mono ?_;rintro e a ⟨rfl,D⟩;have m:=J D;clear D)|(clear N;go_at_call 44;refine I.o.mono ?_;rintro e V ⟨rfl,E⟩;have z:=J E;clear E;have u:=J (z.o.obj (y.o.obj (n.o.obj (m.o.obj F.o id) id) id) id))|((with_reducible refine zr ?_);first|(clear M;refine ze rfl (zj (w:=a) (ty:=40) (cs:=d.map zu) rfl rfl rfl (by rw[c.o];rfl) (by rw[c.o];exact qm) (λv s=>by obtain⟨x,-,rfl⟩:=mem_map.1 s;rfl)) ?_;have G:=J (zS a (.cells (d.map zu).toArray 40));have n:=@J (Fr No a (a.alloc (.cells (d.map zu).toArray 40))) ((frN a).alloc _);have Q:=@J (a.heap.size<(a.alloc (.cells (d.map zu).toArray 40)).heap.size) (by simp);generalize a.alloc (.cells (d.map zu).toArray 40)=l at*;generalize a.heap.size=t at*;have I:=J (B.o l ((o.o.keep0 m.o).keep0 n.o) (.slice (some ⟨t,0,none⟩) 32 32) (by rw[q.o];exact .inl (.inr ⟨t,0,32,rfl,le_refl _,by decide,zm G.o,Q.o⟩)));have y:=@J (Fr No l (l.alloc (.cells #[.slice (some ⟨t,0,none⟩) 32 32] 84))) ((frN l).alloc _))|(clear O;refine ze rfl (zy (ty:=40) (b:=w.heap.size) (off:=0) (cs:=f.map zu) rfl rfl rfl (by rw[j.o];exact zM u.o (le_refl 32)) (by rw[j.o];exact qm) (λv s=>by obtain⟨x,-,rfl⟩:=mem_map.1 s;rfl)) ?_)));go_frame)
 have A:=yN w.heap.size 40 (f.map zu) 0 V yO u.o
 have e:=qL (f.map zu) [] yO.toList [] (by rw[j.o];rfl)
 simp only[nil_append,List.append_nil,List.length_nil] at e
 rw[e] at A
 exact bodyPost_ret (v:=.agg (f.map zu).toArray) (results_cell_row (P:=prog) (fn:=Tryz.f28) rfl _ _ w.heap.size 40 (f.map zu).toArray (0,0) _ rfl A Tryz.underlying40 rfl (by rw[size_toArray,j.o];exact qm)) rfl ⟨rfl,((((g.o.trans0 m.o).trans0 n.o).trans0 y.o).trans0 z.o).trans (zv _ _ _ _) (λi hi e=>(show False by omega))⟩
def leB:Nat→Int→List Int
 |0,_=>[]
 |n+1,x=>x % 256::leB n (x / 256)
theorem xh:∀(n:Nat) (x:Int),(leB n x).length=n
 |0,_=>rfl
 |n+1,x=>by simp[leB,xh n]
def JE:Nat→Int→Int
 |0,x=>x
 |n+1,x=>JE n (x / 256)
theorem Zh:∀(n:Nat) (x:Int),JE (n+1) x=JE n x / 256
 |0,_=>rfl
 |n+1,x=>by rw[JE,Zh n (x / 256)];rfl
theorem Xa:∀(n:Nat) (x:Int),leB (n+1) x=leB n x++[JE n x % 256]
 |0,_=>rfl
 |n+1,x=>by rw[leB,Xa n (x / 256)];rfl
theorem Qq:∀(n:Nat) {x:Int},0≤x∧x≤18446744073709551615→0≤JE n x∧JE n x≤18446744073709551615
 |0,_,h=>h
 |n+1,x,h=>by
  rw[Zh]
  have:=Qq n h
  omega
theorem Xy {B:Nat} {l:List Int} (b:yC w B v l) (C:B≤w.heap.size) {x:Int} (F:0≤x∧x≤18446744073709551615) (hn:n≤8) (E:l.length≤100000):
  Calls prog 60 #[v,.int .u64 x,.int .i64 n] w λe w'=>∃a,e=.returned a∧yC w' B a (l++leB n x)∧Fr (λj=>v.ownBlock=some j) w w'∧Zq w v a:=by
 have P:=J b
 have Q:=J F
 have N:=J C
 have p:=J E
 obtain⟨d,f,rfl⟩:=b.form
 clear b F C E
 go_enter Tryz.func60,Tryz.ntmps60
 go_wp2
 go_loopw [0,1,8] (λz Y r wr=>∃k:Nat,r=.int .i64 k∧k≤n∧Y=.int .u64 (JE k x)∧yC wr B z (l++leB k x)∧Fr (λj=>Value.ownBlock (.slice d l.length f)=some j) w wr∧Zq w (.slice d l.length f) z) (λ_ _ r _=>n-(intOf r).toNat)
 case atStart=>exact⟨0,rfl,zero_le _,rfl,by simpa[leB] using P.o,Fr.refl _ _,λk D=>.inl D⟩
 case round=>
  obtain⟨k,rfl,D,rfl,b,fr,A⟩:=hrel
  have c:=J b
  have g:=J fr
  have o:=J A
  obtain⟨T,U,rfl⟩:=b.form
  clear b fr A
  by_cases hlt:k<n
  rotate_left
  ·have q:k=n:=by omega
   subst q
   have W:¬(k:Int)<(k:Int):=by omega
   have O:=@J (∃a,(Value.slice T (l++leB k x).length U)=a∧yC wr B a (l++leB k x)∧Fr (λj=>Value.ownBlock (.slice d l.length f)=some j) w wr∧Zq w (.slice d l.length f) a) (⟨_,rfl,c.o,g.o,o.o⟩)
   generalize Z:(l++leB k x).length=m at*
   go_wp2
   go_ret
   obtain⟨a,e,h⟩:=O.o
   exact⟨a,by rw[←e];rfl,h⟩
  ·have W:(k:Int)<(n:Int):=by omega
   have hs:=Qq k Q.o
   have R:=@J ((l++leB k x).length≤100008) (by rw[List.length_append,xh];have:=p.o;omega)
   obtain⟨G,X,s,t,u,y⟩:=yT wr (x:=JE k x % 256) c.o (by have:=R.o;omega) (le_trans N.o g.o.size) 84
   have H:=J s
   have I:=@J (yC X B G (l++leB (k+1) x)) (by rw[Xa,←append_assoc];exact t)
   have K:=J (g.o.trans u (λi hi e=>(o.o i e).resolve_right (by omega)))
   have M:=@J (Zq w (.slice d l.length f) G) (λj V=>(y j V).elim (λe=>o.o j e) (λe=>.inr (le_trans g.o.size e)))
   have S:=J (Zh k x)
   clear s t u y
   generalize l++leB k x=L at*
   go_wp2_with (first|(at_builtin;refine zk rfl rfl rfl rfl H.o ?_))
   go_roundw
   case rel=>exact⟨k+1,by go_num,by omega,by rw[S.o],I.o,K.o,M.o⟩
   case measure=>simp[intOf];omega
def yV (t:TxD):Bool:=t.ins.all (λx=>decide (x.key.length≤64)) && (decide (t.ins.length≤8) && decide (t.outs.length≤8))
theorem jO (w:World) {p:zE} (ok:p.ok):(w.alloc (.cells (inC p kv).toArray 106)).rangeAt w.heap.size 0 (zi p)∧(w.alloc (.cells (inC p kv).toArray 106)).cell? ⟨w.heap.size,33,none⟩=some kv:=by
 have:=zfg (zK w (inC p kv) 106) ok
 simpa using this
theorem qF (w:World) (v:Int) (a b:Value):(w.alloc (.cells #[.int .u32 v,a,b] 62)).cell? ⟨w.heap.size,0,none⟩=some (.int .u32 v)∧(w.alloc (.cells #[.int .u32 v,a,b] 62)).cell? ⟨w.heap.size,1,none⟩=some a∧(w.alloc (.cells #[.int .u32 v,a,b] 62)).cell? ⟨w.heap.size,2,none⟩=some b∧(w.alloc (.cells #[.int .u32 v,a,b] 62)).rangeAt w.heap.size 0 [.int .u32 v,a,b]:=by
 have:=zK w [.int .u32 v,a,b] 62
 exact⟨by simpa using this 0 _ rfl,by simpa using this 1 _ rfl,by simpa using this 2 _ rfl,this⟩
theorem zbr (w:World) {t:TxD} (Q:TxQ w t cs):
  Calls prog 59 #[.agg cs.toArray] w λe w'=>e=.returned (.bool (yV t))∧Fr No w w':=by
 obtain⟨r,s,u,v,rfl,-,hi,-⟩:=Q
 have X:=vX
 have y:=J ((frN w).alloc (.cells #[.int .u32 t.ver,.slice r t.ins.length s,.slice u t.outs.length v] 62))
 obtain⟨-,c1,c2,-⟩:=qF w t.ver (.slice r t.ins.length s) (.slice u t.outs.length v)
 have I:=J c1
 have K:=J c2
 have L:=J (hi.keep0 y.o)
 have P:t.ins.length≤9223372036854775807:=le_trans hi.len (by unfold maxLen;decide)
 clear hi
 show Calls prog 59 #[.agg #[.int .u32 t.ver,.slice r t.ins.length s,.slice u t.outs.length v]] w _
 go_enter Tryz.func59,Tryz.ntmps59
 go_wp2
 generalize w.alloc (.cells #[.int .u32 t.ver,.slice r t.ins.length s,.slice u t.outs.length v] 62)=U at*
 generalize w.heap.size=q at*
 clear c1 c2
 go_loopw [8] (λC wr=>∃n:Nat,C=.int .i64 n∧n≤t.ins.length∧(∀x∈t.ins.take n,x.key.length≤64)∧Fr No U wr) (λC _=>t.ins.length-(intOf C).toNat)
 case atStart=>exact⟨0,rfl,zero_le _,by simp,Fr.refl _ _⟩
 case round=>
  obtain⟨n,rfl,W,m,fr⟩:=hrel
  have i:=J fr
  have A:=J m
  clear fr m
  by_cases B:n<t.ins.length
  ·have S:(n:Int)<(t.ins.length:Int):=by omega
   obtain⟨x,o⟩:∃x,t.ins[n]? =some x:=⟨_,List.getElem?_eq_getElem B⟩
   obtain⟨b,off,O,cs,R,H,f,g,rfl,h,l⟩:=(L.o.keep0 i.o).at_ o
   cases R
   have G:=J H
   have p:=J (vl h (.slice f x.key.length g))
   have N:=(jO wr (kv:=.slice f x.key.length g) h).2
   have E:=J (i.o.alloc (.cells (inC x.from_ (.slice f x.key.length g)).toArray 106))
   have F:=J o
   clear H l h o
   by_cases hk:64<x.key.length
   ·have D:decide ((64:Int)<(x.key.length:Int))=true:=by simp;omega
    have j:=@J (yV t=false) (by
     have:t.ins.all (λx=>decide (x.key.length≤64))=false:=by
      rw[List.all_eq_false]
      exact⟨x,List.mem_of_getElem? F.o,by simp;omega⟩
     simp[yV,this])
    clear hk
    go_wp2_with (first|(refine ziV rfl rfl rfl G.o p.o ?_)|(refine zi4 (w:=wr) (cs:=inC x.from_ (.slice f x.key.length g)) rfl rfl rfl rfl p.o qD ?_;generalize wr.alloc (.cells (inC x.from_ (.slice f x.key.length g)).toArray 106)=V at*))
    go_ret
    exact⟨by rw[j.o];rfl,y.o.trans0 E.o⟩
   ·have D:decide ((64:Int)<(x.key.length:Int))=false:=by simp;omega
    have M:=@J (∀e∈t.ins.take (n+1),e.key.length≤64) (λe d=>by
     rw[List.take_add_one,F.o] at d
     rcases mem_append.1 d with d|d
     ·exact A.o e d
     ·simp at d;subst d;omega)
    clear hk
    go_wp2_with (first|(refine ziV rfl rfl rfl G.o p.o ?_)|(refine zi4 (w:=wr) (cs:=inC x.from_ (.slice f x.key.length g)) rfl rfl rfl rfl p.o qD ?_;generalize wr.alloc (.cells (inC x.from_ (.slice f x.key.length g)).toArray 106)=V at*))
    go_roundw
    case rel=>exact⟨n+1,by go_num,by omega,M.o,E.o⟩
    case measure=>simp[intOf];omega
  ·have S:¬(n:Int)<(t.ins.length:Int):=by omega
   have c1:=i.o.cell I.o id
   have c2:=i.o.cell K.o id
   have a:t.ins.all (λx=>decide (x.key.length≤64))=true:=by
    rw[List.all_eq_true]
    intro x o
    rw[show n=t.ins.length by omega,List.take_length] at A
    simpa using A.o x o
   have j:=@J (yV t=(decide (t.ins.length≤8) && decide (t.outs.length≤8))) (by simp[yV,a])
   have z:=J (y.o.trans0 i.o)
   clear a
   by_cases h8:t.ins.length≤8
   ·have D:decide ((t.ins.length:Int)≤8)=true:=by simp;omega
    by_cases h9:t.outs.length≤8
    ·have T:decide ((t.outs.length:Int)≤8)=true:=by simp;omega
     have c:(decide (t.ins.length≤8) && decide (t.outs.length≤8))=true:=by simp[h8,h9]
     have k:=J c
     clear h8 h9 c
     go_wp2
     go_ret
     exact⟨by rw[j.o,k.o];rfl,z.o⟩
    ·have T:decide ((t.outs.length:Int)≤8)=false:=by simp;omega
     have c:(decide (t.ins.length≤8) && decide (t.outs.length≤8))=false:=by simp[h8,h9]
     have k:=J c
     clear h8 h9 c
     go_wp2
     go_ret
     exact⟨by rw[j.o,k.o];rfl,z.o⟩
   ·have D:decide ((t.ins.length:Int)≤8)=false:=by simp;omega
    have c:(decide (t.ins.length≤8) && decide (t.outs.length≤8))=false:=by simp[h8]
    have k:=J c
    clear h8 c
    go_wp2
    go_ret
    exact⟨by rw[j.o,k.o];rfl,z.o⟩
abbrev zay (w:World) (r b:Nat) (M R:List (zE×yk)):Prop:=jL prog 72 jR VO w r b M R
def Laid (Md D M':List (zE×yk)):Prop:=∀k v,(k,v)∈M'↔(k,v)∈D∨((k,v)∈Md∧∀u,(k,u)∉D)
theorem Laid.step {f D d c:List (zE×yk)} {x:zE×yk} (h:Laid f D d) (m:∀u,(x.1,u)∉D) (j:Upd d x.1 x.2 c):Laid f (D++[x]) c:=by
 intro k v
 obtain⟨g,n⟩:=x
 rw[j k v,h k v]
 simp only[mem_append,List.mem_singleton,Prod.mk.injEq]
 constructor
 ·rintro(⟨rfl,rfl⟩|⟨a,b|⟨b,i⟩⟩)
  ·exact .inl (.inr ⟨rfl,rfl⟩)
  ·exact .inl (.inl b)
  ·exact .inr ⟨b,λu=>by rintro(h|⟨h,_⟩);exact i u h;exact a h⟩
 ·rintro((a|⟨rfl,rfl⟩)|⟨a,b⟩)
  ·by_cases e:k=g
   ·subst e;exact absurd a (m v)
   ·exact .inr ⟨e,.inl a⟩
  ·exact .inl ⟨rfl,rfl⟩
  ·by_cases e:k=g
   ·subst e;exact absurd (.inr ⟨rfl,rfl⟩) (b n)
   ·exact .inr ⟨e,.inr ⟨a,λu l=>b u (.inl l)⟩⟩
theorem zdW (w:World) {p bs:Nat} {o c:List (zE×yk)} (hd:vN w p o) (hs:vN w bs c) (ae:p≠bs) (hN:o.length+c.length≤1000000) (ok:∀x∈c,x.1.ok∧x.2.ok):
  Calls prog 69 #[.map (some p),.map (some bs)] w λe w'=>e=.returned (.tuple #[])∧∃f,vN w' p f∧Laid o c f∧Fr (λj=>j=p) w w':=by
 obtain⟨d,s,hit⟩:=hs.rangeI jG
 have H:=hs.nodup
 have ab:=hd.lt
 have Q:=J (hd.keep ((frN w).alloc (.mapIter (some bs) d #[] d)) id)
 have T:=J hit
 have F0:=J ((frN w).alloc (.mapIter (some bs) d #[] d))
 have HN:=J H
 have Z:=J ok
 have zp:=jk
 have zo:=yA
 clear hd hs hit H ok
 go_enter Tryz.func69,Tryz.ntmps69
 go_wp2_with (refine jT rfl rfl rfl s ?_)
 generalize hq:w.heap.size=r at*
 generalize w.alloc (.mapIter (some bs) d #[] d)=W at*
 clear s
 try simp only[Act.put,pA,pB,pC]
 go_loopg [] c.length (λm wr=>∃(D R f:List (zE×yk)),(D++R).Perm c∧R.length=m∧zay wr r bs c R∧vN wr p f∧Laid o D f∧f.length≤o.length+D.length∧Fr (λj=>j=p) w wr)
 case atStart=>exact⟨[],c,o,List.Perm.refl _,rfl,T.o,Q.o,λk v=>by simp,by simp,F0.o.of0⟩
 case round=>
  obtain⟨D,R,f,a,hm,M,O,N,af,h⟩:=hrel
  cases R with
  |nil=>
   have l:=M.stop
   have E:Laid o c f:=λk v=>by
    rw[N k v]
    have:∀x,x∈D↔x∈c:=λx=>by rw[←a.mem_iff];simp
    simp only[this]
   have HL:=J E
   have HM:=J O
   have HF:=J h
   clear M a hm N E O h
   go_wp2_with (refine qn rfl rfl rfl (l _) ?_)
   go_end0
   exact⟨rfl,f,HM.o,HL.o,HF.o⟩
  |cons x0 R0=>
   obtain⟨A,x,B,w2,g,l,C,f2,q⟩:=M.step (by simp) 0
   have hx:x∈c:=a.subset (by rw[g];simp)
   have t:=J (Z.o x hx)
   have PL:=J (zF t.o.1)
   have OL:=J (z6 t.o.2)
   have n:((D++[x])++(A++B)).Perm c:=by
    refine List.Perm.trans ?_ a
    rw[g,append_assoc]
    exact List.Perm.append_left _ (show(x::(A++B)).Perm (A++x::B) from List.perm_middle.symm)
   have L:∀u,(x.1,u)∉D:=by
    intro u hu
    have h1:=(n.map (·.1)).nodup_iff.2 HN.o
    rw[List.map_append,List.map_append,append_assoc] at h1
    exact(List.nodup_append.1 h1).2.2 x.1 (mem_map.2 ⟨_,hu,rfl⟩) x.1 (by simp) rfl
   have z:D.length+(A++B).length+1=c.length:=by have:=n.length_eq;simp at this⊢;omega
   obtain⟨t1,t2,t3,t4,P⟩:=VE w2 (T1:=72) (T2:=68) (z1:=(zi vn).toArray) (z2:=(zx vF).toArray) (c1:=zi x.1) (c2:=zx x.2) (by rw[PL.o];rfl) (by rw[OL.o];exact xq)
   have K:r≠p:=by have:=ab;omega
   have F:=(O.keep f2 (λe=>K e.symm)).keep P id
   obtain⟨w4,y,I,G,hU,hT,ad⟩:=F.upd vi.keyed jG (λ_ _=>qO) (yF t.o.1) (by unfold maxLen;simp at z;omega) x.2
   have fT:=hT.fr
   have Y:=J G
   have U:=J ((C.keep P id id).keep fT (λe=>ae e.symm) K)
   have V:=J (N.step L hU)
   have S:=J (((h.trans f2 (λi hi e=>by omega)).trans P.of0 (λi hi e=>e)).trans fT (λi hi e=>e))
   have X:=@J (y.length≤o.length+(D++[x]).length) (by simp;omega)
   have HP:=J n
   have HR:=@J ((A++B).length<gk) (by rw[←hm,g];simp)
   have T1:=J t1
   have T2:=J t2
   have T3:=J t3
   have T4:=J t4
   have aa:=J I
   clear M C O F N h hx n L z t1 t2 t3 t4 P I G hU hT ad fT g a hm f2
   unfold jR VO at l q
   go_wp2_with (first|refine qn rfl rfl rfl l ?_|refine vH rfl rfl rfl q ?_|(refine ze rfl (zy (ty:=72) (b:=w2.heap.size) rfl rfl rfl T1.o (by rw[PL.o];exact yL) yB) ?_)|(refine ze rfl (zy (ty:=68) (b:=w2.heap.size+1) rfl (by show Value.pointer (some ⟨_,0,none⟩)=_;simp) rfl T2.o (by rw[OL.o];exact yW) zV) ?_)|(refine ziX rfl rfl rfl T3.o PL.o ?_)|(refine ziW rfl rfl rfl T4.o OL.o ?_)|(refine ze rfl (Ju rfl rfl rfl rfl aa.o) ?_))
   go_roundg (A++B).length
   case measure=>exact HR.o
   case rel=>exact⟨D++[x],A++B,y,HP.o,rfl,U.o,Y.o,V.o,X.o,S.o⟩
def xQ (S l:List zh):Int:=if(l.map (·.at_)).Nodup then if l.any (λc=>xE S c.at_) then 10 else 0 else 12
def qQ (S l:List zh):List zh:=if xQ S l=0 then qP S l else S
theorem Vs {S l:List zh} (a:(l.map (·.at_)).Nodup) (b:∀c∈l,xE S c.at_=false):xQ S l=0∧qQ S l=qP S l:=by
 have:xQ S l=0:=by
  unfold xQ
  rw[if_pos a,if_neg (by rw[Bool.not_eq_true,List.any_eq_false];exact λc d=>by rw[b c d];simp)]
 exact⟨this,by unfold qQ;rw[if_pos this]⟩
theorem zdB {S l:List zh} (a:(l.map (·.at_)).Nodup) {c:zh} (d:c∈l) (b:xE S c.at_=true):xQ S l=10∧qQ S l=S:=by
 have:xQ S l=10:=by
  unfold xQ
  rw[if_pos a,if_pos (List.any_eq_true.2 ⟨c,d,b⟩)]
 exact⟨this,by unfold qQ;rw[this];rfl⟩
theorem zdC {S l:List zh} (a:¬(l.map (·.at_)).Nodup):xQ S l=12∧qQ S l=S:=by
 have:xQ S l=12:=by
  unfold xQ
  rw[if_neg a]
 exact⟨this,by unfold qQ;rw[this];rfl⟩
section
variable {w0 w:World} {p:Nat} {V:Nat→Prop} {S:List zh}
theorem CS.put (h:CS w0 w p V S) {m:Nat} {M g:List (zE×yk)} (q:w.heap[p]? =some (.cells #[.map (some m)] 109 (0,0))) (A:∀k v,(k,v)∈M↔(⟨k,v⟩:zh)∈S) {o:List (zE×yk)} {l:List zh} (x:vN w' m g) (t:Laid M o g) (s:∀k v,(k,v)∈o↔(⟨k,v⟩:zh)∈l) (n:(l.map (·.at_)).Nodup) (r:∀c∈l,xE S c.at_=false) (ok:∀c∈l,c.ok) (f:Fr (λj=>j=m) w w'):
  CS w0 w' p V (qP S l):=by
 obtain⟨E,D,a,z,B,d,rfl⟩:=h.ex
 rw[q] at a
 injection a with a
 injection a with e1
 injection e1 with e1
 injection e1 with e1
 injection e1 with e1
 injection e1 with e1
 subst e1
 refine⟨⟨m,g,f.obj q d,x,λk v=>?_,d,rfl⟩,vD h.srt n r,λc y=>(vo.1 y).elim (h.ok c) (ok c),h.lo,h.fr.trans f (λi hi e=>by subst e;have:=h.lo i (.inr rfl);omega)⟩
 rw[t k v,vo,s,A]
 constructor
 ·rintro(b|⟨b,_⟩)
  ·exact .inr b
  ·exact .inl b
 ·rintro(b|b)
  ·refine .inr ⟨b,λu C=>?_⟩
   exact jA.1 (r _ ((s k u).1 C)) _ b rfl
  ·exact .inl b
theorem zbW (h:CS w0 w p V S) {l:List zh} (hl:xz w v l) (hN:l.length+S.length≤100000):
  Calls prog 50 #[.pointer (some ⟨p,0,none⟩),v] w λe w'=>e=.returned (.int .i64 (xQ S l))∧CS w0 w' p V (qQ S l)∧Fr V w w':=by
 obtain⟨va,vc,rfl⟩:=hl.2.form
 have U:=J h
 have HL:=J hl
 clear h hl
 by_cases hnd:(l.map (·.at_)).Nodup
 ·have ND:=J hnd
  clear hnd
  go_enter Tryz.func50,Tryz.ntmps50
  go_wp2_with fail
  refine(zhd w w (Fr.refl _ _) HL.o (by omega) ND.o).mono ?_
  rintro e w1 ⟨p1,rfl,V1,c1,f1,au⟩
  have C1:=J c1
  have F1:=J f1
  have aj:=J au
  have Y:=J (U.o.fr0 f1)
  clear c1 f1 au
  obtain⟨m,M,hb,hm,hs,aw,E⟩:=Y.o.ex
  obtain⟨G,I,Z,ab,ad,ax,j⟩:=C1.o.ex
  obtain⟨z,T,hit⟩:=ab.rangeI jG
  have aJ:w1.cell? ⟨p1,0,none⟩=some (.map (some G)):=(Qg Z).1
  have HB:=J hb
  have az:=J Z
  have ah:=J hm
  have HS:=J hs
  have u:=@J (∀k v,(k,v)∈I↔(⟨k,v⟩:zh)∈l) (λk v=>by rw[ad,vo];simp)
  have aD:=J hit
  have F0:=J ((frN w1).alloc (.mapIter (some G) z #[] z))
  have aG:=@J (m≠G) (λe=>by
   have h1:=aj.o G (by rw[j];exact .inr rfl)
   have h2:=U.o.hi m (by rw[E];exact .inr rfl)
   omega)
  have LM:=J (XH hm hs Y.o.srt)
  have ak:=@J (I.length=l.length) (by rw[XH ab ad C1.o.srt,(jd l []).length_eq];rfl)
  have aH:=J aw
  have ai:=@J (p1≠m) (λe=>by
   have h1:=aj.o p1 (by rw[j];exact .inl rfl)
   have h2:=U.o.hi m (by rw[E];exact .inr rfl)
   omega)
  have VM:=@J (V m∧V p) (by rw[E];exact⟨.inr rfl,.inl rfl⟩)
  have zp:=jk
  have zo:=yA
  clear hb Z hm ab hs ad aw ax E j hit
  go_wp2_with (refine jT rfl rfl rfl T ?_)
  generalize hq:w1.heap.size=r at*
  generalize w1.alloc (.mapIter (some G) z #[] z)=W at*
  clear T aJ
  try simp only[Act.put,pA,pB,pC]
  go_loopg [] l.length (λn wr=>∃(D R:List (zE×yk)),(D++R).Perm I∧R.length=n∧zay wr r G I R∧(∀x∈D,xE S x.1=false)∧Fr No w1 wr)
  case atStart=>exact⟨[],I,List.Perm.refl _,ak.o,aD.o,by simp,F0.o⟩
  case round=>
   obtain⟨D,R,a,hm,hI,hD,F⟩:=hrel
   cases R with
   |nil=>
    have s:=hI.stop
    have aa:∀c∈l,xE S c.at_=false:=λc hc=>hD (c.at_,c.out) (by
     have:(c.at_,c.out)∈D++[]:=a.mem_iff.2 ((u.o _ _).2 hc)
     simpa using this)
    obtain⟨N,O⟩:=Vs ND.o aa
    have E0:=J N
    have E1:=J O
    have aC:=J aa
    have FR:=J F
    have aF:=J hI.map
    clear hI a hm hD F N O aa
    have b0:=FR.o.obj HB.o id
    have b1:=FR.o.obj az.o id
    have g:wr.cell? ⟨p,0,none⟩=some (.map (some m)):=(Qg b0).1
    have c1:wr.cell? ⟨p1,0,none⟩=some (.map (some G)):=(Qg b1).1
    have ar:=ah.o.keep FR.o id
    have ag:=J (Y.o.fr0 FR.o)
    have Q:∀x∈I,x.1.ok∧x.2.ok:=λx hx=>HL.o.1 _ ((u.o x.1 x.2).1 hx)
    have av:=zdW wr.drew (ar.keep (frN _).drew id) (aF.o.keep (frN _).drew id) aG.o (by rw[LM.o,ak.o];omega) Q
    have aB:=J av
    clear b1 ar Q av
    go_wp2_with (refine qn rfl rfl rfl (s _) ?_)
    refine wrLx [ff,ff,ff,ff,ff,ff,ff,ff,tt] (λw'=>w'.cell? ⟨p,0,none⟩=some (.map (some m))∧w'.cell? ⟨p1,0,none⟩=some (.map (some G))) ?_ (λK hK=>?_)
    ·exact⟨g,c1⟩
    repeat((first|(refine zn rfl ?_;constructor;constructor;(focus(first|(rintro w' ⟨s1,s2⟩;exact goS))))|(refine zq rfl ?_));try simp only[Act.put,pA,pB,pC])
    (refine zN rfl (λK' hK'=>?_))
    go_simp
    refine aB.o.mono ?_
    rintro e w3 ⟨rfl,M',aq,ao,f3⟩
    have aA:=J (ag.o.put b0 HS.o aq ao u.o ND.o aC.o HL.o.1 ((frN wr).drew.of0.trans f3 (λ_ _ h=>h)))
    have F3:=@J (Fr V w w3) (((F1.o.trans0 FR.o).of0.trans ((frN wr).drew.of0.trans f3 (λ_ _ h=>h)) (λi hi e=>by subst e;exact VM.o.1)))
    have S3:=@J (w3.cell? ⟨p,0,none⟩=some (.map (some m))∧w3.cell? ⟨p1,0,none⟩=some (.map (some G))) (⟨f3.cell g aH.o,f3.cell c1 ai.o⟩)
    clear aq ao f3 ag
    refine nXt hK' ?_ λhS=>?_
    ·exact S3.o
    try simp only[Act.put,pA,pB,pC]
    refine zZ (hK.out _ _ ?_)
    go_wp2
    go_ret
    exact⟨by rw[E0.o];rfl,by rw[E1.o];exact aA.o,F3.o⟩
   |cons x0 R0=>
    obtain⟨A,x,B,b,C,s,an,f2,o⟩:=hI.step (by simp) 0
    have hx:x∈I:=a.subset (by rw[C];simp)
    have ae:=(u.o x.1 x.2).1 hx
    have al:=J (HL.o.1 _ ae)
    have PL:=J (zF al.o.1)
    have XO:=J (vQ U.o.ok x.1)
    have OL:=J (z6 XO.o)
    have ay:((D++[x])++(A++B)).Perm I:=by
     refine List.Perm.trans ?_ a
     rw[C,append_assoc]
     exact List.Perm.append_left _ (show(x::(A++B)).Perm (A++x::B) from List.perm_middle.symm)
    have P:Fr No w1 b:=F.trans f2 (λi hi e=>by omega)
    have f:=P.alloc (.cells (zi x.1).toArray 72)
    have bA:=f.obj HB.o id
    have g:(b.alloc (.cells (zi x.1).toArray 72)).cell? ⟨p,0,none⟩=some (.map (some m)):=(Qg bA).1
    have L:=J (zK b (zi x.1) 72)
    have H:=J (ah.o.keep f id)
    have aE:=J (an.keep (((frN b).alloc (.cells (zi x.1).toArray 72)).alloc (.cells (zx (yj S x.1)).toArray 68)).drew id id)
    have af:=J ((f.alloc (.cells (zx (yj S x.1)).toArray 68)).drew)
    have d:=J (λw' (h':vN w' m M)=>zaJ (w:=w') (q:=x.1) HS.o U.o.srt al.o.1 h')
    have HP:=J ay
    have HR:=@J ((A++B).length<gk) (by rw[←hm,C];simp)
    have aI:=J ae
    have HD:=J hD
    clear hI an F P f bA hx ae ay C a hm f2 hD
    unfold jR VO at s o
    cases hh:xE S x.1 with
    |true=>
     obtain⟨N,O⟩:=zdB ND.o aI.o hh
     have E0:=J N
     have E1:=J O
     rw[hh] at d
     have FZ:=J (F1.o.trans0 af.o)
     clear hh N O
     generalize hX:yj S x.1=X at*
     generalize hQ:x.1=q at*
     clear hX
     go_wp2_with (first|refine qn rfl rfl rfl s ?_|refine vH rfl rfl rfl o ?_|(refine ze rfl (zj (w:=b) (ty:=72) rfl rfl rfl (by rw[PL.o];rfl) (by rw[PL.o];exact yL) yB) ?_))
     refine wrLx [ff,ff,ff,ff,ff,ff,ff,ff,ff,tt,tt,ff] (λw'=>w'.cell? ⟨p,0,none⟩=some (.map (some m))∧w'.rangeAt b.heap.size 0 (zi q)∧vN w' m M) ?_ (λK hK=>?_)
     ·exact⟨g,zb L.o (frN _).drew id,H.o.keep (frN _).drew id⟩
     repeat((first|(refine zn rfl ?_;constructor;constructor;(focus(first|exact zi1 rfl (λw h=>h.2.1) PL.o|exact λw' h=>qY (t:=107) rfl rfl rfl (d.o w' h.2.2)|(rintro w' ⟨s1,s2,s3⟩;exact goS))))|(refine zq rfl ?_));try simp only[Act.put,pA,pB,pC])
     (refine zN rfl (λK' hK'=>?_))
     refine yg (y4 rfl (yA _)) ?_
     refine nXt hK' ?_ λhS=>?_
     ·exact⟨(((frN (b.alloc (.cells (zi q).toArray 72))).drew).alloc _).cell g id,zb L.o (((frN (b.alloc (.cells (zi q).toArray 72))).drew).alloc _) id,H.o.keep (((frN (b.alloc (.cells (zi q).toArray 72))).drew).alloc _) id⟩
     try simp only[Act.put,pA,pB,pC]
     (refine zN rfl (λK' hK'=>?_))
     refine xx (zj (w:=((b.alloc (.cells (zi q).toArray 72))).drew) (ty:=68) (cs:=zx X) rfl rfl rfl (by rw[OL.o];rfl) (by rw[OL.o];exact yW) zV) ?_
     refine nXt hK' ?_ λhS=>?_
     ·exact⟨(((frN (b.alloc (.cells (zi q).toArray 72))).drew).alloc _).cell g id,zb L.o (((frN (b.alloc (.cells (zi q).toArray 72))).drew).alloc _) id,H.o.keep (((frN (b.alloc (.cells (zi q).toArray 72))).drew).alloc _) id⟩
     try simp only[Act.put]
     repeat((first|(refine zn rfl ?_;constructor;constructor;(focus(first|(rintro w' -;exact goS))))|(refine zq rfl ?_));try simp only[Act.put,pA,pB,pC])
     refine zZ (hK.out _ _ ?_)
     clear g L H d
     go_wp2
     go_ret
     exact⟨by rw[E0.o];rfl,by rw[E1.o];exact U.o.fr0 FZ.o,FZ.o.of0⟩
    |false=>
     rw[hh] at d
     have HH:=J hh
     clear hh
     generalize hX:yj S x.1=X at*
     generalize hQ:x.1=q at*
     clear hX
     go_wp2_with (first|refine qn rfl rfl rfl s ?_|refine vH rfl rfl rfl o ?_|(refine ze rfl (zj (w:=b) (ty:=72) rfl rfl rfl (by rw[PL.o];rfl) (by rw[PL.o];exact yL) yB) ?_))
     refine wrLx [ff,ff,ff,ff,ff,ff,ff,ff,ff,tt,tt,ff] (λw'=>w'.cell? ⟨p,0,none⟩=some (.map (some m))∧w'.rangeAt b.heap.size 0 (zi q)∧vN w' m M) ?_ (λK hK=>?_)
     ·exact⟨g,zb L.o (frN _).drew id,H.o.keep (frN _).drew id⟩
     repeat((first|(refine zn rfl ?_;constructor;constructor;(focus(first|exact zi1 rfl (λw h=>h.2.1) PL.o|exact λw' h=>qY (t:=107) rfl rfl rfl (d.o w' h.2.2)|(rintro w' ⟨s1,s2,s3⟩;exact goS))))|(refine zq rfl ?_));try simp only[Act.put,pA,pB,pC])
     (refine zN rfl (λK' hK'=>?_))
     refine yg (y4 rfl (yA _)) ?_
     refine nXt hK' ?_ λhS=>?_
     ·exact⟨(((frN (b.alloc (.cells (zi q).toArray 72))).drew).alloc _).cell g id,zb L.o (((frN (b.alloc (.cells (zi q).toArray 72))).drew).alloc _) id,H.o.keep (((frN (b.alloc (.cells (zi q).toArray 72))).drew).alloc _) id⟩
     try simp only[Act.put,pA,pB,pC]
     (refine zN rfl (λK' hK'=>?_))
     refine xx (zj (w:=((b.alloc (.cells (zi q).toArray 72))).drew) (ty:=68) (cs:=zx X) rfl rfl rfl (by rw[OL.o];rfl) (by rw[OL.o];exact yW) zV) ?_
     refine nXt hK' ?_ λhS=>?_
     ·exact⟨(((frN (b.alloc (.cells (zi q).toArray 72))).drew).alloc _).cell g id,zb L.o (((frN (b.alloc (.cells (zi q).toArray 72))).drew).alloc _) id,H.o.keep (((frN (b.alloc (.cells (zi q).toArray 72))).drew).alloc _) id⟩
     try simp only[Act.put]
     repeat((first|(refine zn rfl ?_;constructor;constructor;(focus(first|(rintro w' -;exact goS))))|(refine zq rfl ?_));try simp only[Act.put,pA,pB,pC])
     refine zZ (hK.out _ _ ?_)
     clear g L H d
     go_wp2
     go_roundg (A++B).length
     case measure=>exact HR.o
     case rel=>
      refine⟨D++[x],A++B,HP.o,rfl,aE.o,?_,af.o⟩
      intro y hy
      rcases mem_append.1 hy with h|h
      ·exact HD.o y h
      ·rw[List.mem_singleton.1 h,hQ];exact HH.o
 ·have ND:=J hnd
  obtain⟨N,O⟩:=zdC (S:=S) hnd
  have E0:=J N
  have E1:=J O
  clear hnd N O
  go_enter Tryz.func50,Tryz.ntmps50
  go_wp2_with fail
  refine(zek w HL.o (by omega) ND.o).mono ?_
  rintro e w1 ⟨rfl,f1⟩
  have F1:=J f1
  clear f1
  go_wp2
  go_ret
  exact⟨by rw[E0.o];rfl,by rw[E1.o];exact U.o.fr0 F1.o,F1.o.of0⟩
end
end Go.Proofs.YtmpamcnlineceaaGreatDoor
namespace Go
open Go.RowKit Go.Sort
def JL (w w':World):Prop:=∃q os,w'=grow (w.drewN q) os
theorem JL.refl (w:World):JL w w:=⟨0,#[],by simp[grow];rfl⟩
theorem JL.drew {w w':World} (h:JL w w'):JL w w'.drew:=by
 obtain⟨q,os,rfl⟩:=h
 exact⟨q+1,os,rfl⟩
theorem JL.alloc {w w':World} (h:JL w w') (o:Obj):JL w (w'.alloc o):=by
 obtain⟨q,os,rfl⟩:=h
 exact⟨q,os++ #[o],by rw[alloc_eq_grow,grow_grow]⟩
def u8 (x:Int):UInt8:=x.toNat.toUInt8
theorem zhh {x y:Int} (a:0≤x∧x≤255) (b:0≤y∧y≤255):u8 x<u8 y↔x<y:=by
 unfold u8
 rw[UInt8.lt_iff_toNat_lt]
 have e:∀z:Int,0≤z∧z≤255→(z.toNat.toUInt8).toNat=z.toNat:=λz c=>by
  rw[Nat.toUInt8_eq,UInt8.toNat_ofNat']
  exact Nat.mod_eq_of_lt (by omega)
 rw[e x a,e y b]
 omega
theorem QN:∀ {a b:List Int},(∀x∈a,0≤x∧x≤255)→(∀x∈b,0≤x∧x≤255)→Lib.compareBytes (a.map u8) (b.map u8)=vA a b
 |[],[],_,_=>rfl
 |[],_::_,_,_=>rfl
 |_::_,[],_,_=>rfl
 |x::a,y::b,ha,hb=>by
  have d:=zhh (ha x (by simp)) (hb y (by simp))
  have e:=zhh (hb y (by simp)) (ha x (by simp))
  simp only[List.map_cons,Lib.compareBytes,vA,d,e]
  rw[QN (λz c=>ha z (by simp[c])) (λz c=>hb z (by simp[c]))]
theorem JR {P:Program} {w:World} {b:Nat}:∀(l:List Int) (o:Nat) (acc:ByteArray),w.rangeAt b o (l.map zu)→
  (Extern.Bytes.loadBytes ⟨b,o,none⟩ l.length acc).run P w=.ok (l.foldl (λa x=>a.push (u8 x)) acc) w
 |[],o,acc,_=>rfl
 |x::l,o,acc,h=>by
  have d:=h 0 (zu x) rfl
  rw[Nat.add_zero] at d
  have e:w.rangeAt b (o+1) (l.map zu):=λj v f=>by
   have:=h (j+1) v (by simpa using f)
   rw[show o+(j+1)=o+1+j by omega] at this
   exact this
  have ih:=JR (P:=P) l (o+1) (acc.push (u8 x)) e
  have c:(⟨b,o,none⟩:Addr).add 1=⟨b,o+1,none⟩:=by unfold Addr.add;split<;>simp_all
  show(Sem.run P (do match←load ⟨b,o,none⟩ with|.int .u8 b'=>Extern.Bytes.loadBytes ((⟨b,o,none⟩:Addr).add 1) l.length (acc.push b'.toNat.toUInt8)|_=>stuck "loadBytes: a byte expected") w)=_
  rw[Sem.run_bind,run_load]
  simp only[d,zu,Result.andThen,c]
  exact ih
theorem XK:∀(l:List Int) (acc:ByteArray),(l.foldl (λa x=>a.push (u8 x)) acc).data.toList=acc.data.toList++l.map u8
 |[],acc=>by simp
 |x::l,acc=>by
  rw[List.foldl_cons,XK l]
  simp
theorem VP {P:Program} {w:World} {f c c1 g d c2:Nat} {a b:List Int} (h:w.rangeAt f c (a.map zu)) (i:w.rangeAt g d (b.map zu)) (j:∀x∈a,0≤x∧x≤255) (k:∀x∈b,0≤x∧x≤255):
  (Extern.BytealgCompare.compare #[.slice (some ⟨f,c,none⟩) a.length c1,.slice (some ⟨g,d,none⟩) b.length c2]).run P w=.ok (.int .i64 (vA a b)) w:=by
 change Sem.run P (do pure (goInt (Extern.BytealgCompare.cmp (←Extern.Bytes.loadBytes ⟨f,c,none⟩ a.length .empty) (←Extern.Bytes.loadBytes ⟨g,d,none⟩ b.length .empty)))) w=_
 simp only[Sem.run_bind,JR a c _ h,JR b d _ i,Result.andThen,Sem.run_pure]
 rw[Lib.cmp_eq,XK,XK]
 have e:(ByteArray.empty).data.toList=[]:=rfl
 rw[e,List.nil_append,List.nil_append,QN j k]
 rfl
end Go
namespace Go.Proofs.YtmpamcnlineceaaGreatDoor
open Go Go.RowKit Go.Maps Go.MapKept
open Go.Proofs.Tryz(prog)
open List(mem_map mem_append length_map append_assoc nil_append size_toArray)
open Nat(le_refl zero_le le_trans)
set_option maxRecDepth 100000 in
theorem zeK (w:World) {c f c1 d g c2:Nat} {a b:List Int} (h:w.rangeAt c f (a.map zu)) (i:w.rangeAt d g (b.map zu)) (j:∀x∈a,0≤x∧x≤255) (k:∀x∈b,0≤x∧x≤255):
  Calls prog 82 #[.slice (some ⟨c,f,none⟩) a.length c1,.slice (some ⟨d,g,none⟩) b.length c2] w λe w'=>e=.returned (.int .i64 (vA a b))∧w'=w:=by
 go_enter Tryz.func82,Tryz.ntmps82
 go_wp2
 rw[run_callFunc_extern Tryz.func101 (by kernel_rfl) (by kernel_rfl) (by kernel_rfl) (e:=Extern.BytealgCompare.compare) (by kernel_rfl),VP h i j k]
 simp only[Result.andThen]
 rw[Oper.upon_value]
 go_wp2
 go_ret
 exact⟨rfl,rfl⟩
theorem zft (w:World) (x y:Int):Calls prog 83 #[.int .u32 x,.int .u32 y] w λe w'=>e=.returned (.int .i64 (YS x y))∧w'=w:=by
 have c:=@J ((x<y∧YS x y= -1)∨(¬x<y∧y<x∧YS x y=1)∨(¬x<y∧¬y<x∧YS x y=0)) (by
  unfold YS
  by_cases a:x<y
  ·exact .inl ⟨a,if_pos a⟩
  ·by_cases b:y<x
   ·exact .inr (.inl ⟨a,b,by rw[if_neg a,if_pos b]⟩)
   ·exact .inr (.inr ⟨a,b,by rw[if_neg a,if_neg b]⟩))
 rcases c.o with⟨a,h⟩|⟨a,b,h⟩|⟨a,b,h⟩
 all_goals
  have H:=J h
  clear h c
  go_enter Tryz.func83,Tryz.ntmps83
  go_wp2
  go_ret
  exact⟨by rw[H.o];rfl,rfl⟩
theorem zhg {w:World} {b o:Nat} {c:zh} (h:w.rangeAt b o (zw c)):w.rangeAt b o (c.at_.tx.map zu):=λj v a=>h j v (by
 unfold zw zi
 rw[append_assoc,List.getElem?_append_left (List.getElem?_eq_some_iff.1 a).1]
 exact a)
theorem ziu {w:World} {b:Nat} {c:zh} (a:c.ok) (h:w.rangeAt b 0 (zw c)):w.cell? ⟨b,32,none⟩=some (.int .u32 c.at_.n):=by
 have:=ju h 32 _ (Ze a.1)
 simpa using this
theorem zel (w:World) (a b:zh) (g:a.ok) (h:b.ok):
  Calls prog 56 #[.agg (zw a).toArray,.agg (zw b).toArray] w λe w'=>e=.returned (.int .i64 (vB a.at_ b.at_))∧JL w w':=by
 have j:((w.alloc (.cells (zw a).toArray 103)).alloc (.cells (zw b).toArray 103)).drew.rangeAt w.heap.size 0 (zw a):=zb (zK w (zw a) 103) ((frN _).alloc _).drew id
 have k:((w.alloc (.cells (zw a).toArray 103)).alloc (.cells (zw b).toArray 103)).drew.rangeAt (w.heap.size+1) 0 (zw b):=by
  have:=zK (w.alloc (.cells (zw a).toArray 103)) (zw b) 103
  simpa using zb this (frN _).drew id
 have l:=J (((JL.refl w).alloc (.cells (zw a).toArray 103)).alloc (.cells (zw b).toArray 103)).drew
 have m:=ziu g j
 have n:=ziu h k
 have x:=J (zhg j)
 have y:=J (zhg k)
 have s:=J g.1.1.1
 have t:=J h.1.1.1
 have u:=J g.1.1.2
 have v:=J h.1.1.2
 have f:=@J (vB a.at_ b.at_=if vA a.at_.tx b.at_.tx=0 then YS a.at_.n b.at_.n else vA a.at_.tx b.at_.tx) (rfl)
 have p:=J m
 have q:=J n
 have i:=zeK _ (c1:=32) (c2:=32) x.o y.o u.o v.o
 rw[s.o,t.o] at i
 have o:=J i
 clear j k g h m n i
 generalize vA a.at_.tx b.at_.tx=c at*
 generalize vB a.at_ b.at_=r at*
 go_enter Tryz.func56,Tryz.ntmps56
 go_wp2_with fail
 refine wrLx [ff,ff,ff,ff,ff,ff,tt,ff] (λw'=>True) ?_ (λK hK=>?_)
 ·trivial
 repeat((first|(refine zn rfl ?_;constructor;constructor;(focus(first|(rintro w' -;exact goS))))|(refine zq rfl ?_));try simp only[Act.put,pA,pB,pC])
 (refine zN rfl (λK' hK'=>?_))
 go_simp
 refine o.o.mono ?_
 rintro e z ⟨rfl,rfl⟩
 refine nXt hK' ?_ λhS=>?_
 ·trivial
 try simp only[Act.put,pA,pB,pC]
 repeat((first|(refine zn rfl ?_;constructor;constructor;(focus(first|(rintro w' -;exact goS))))|(refine zq rfl ?_));try simp only[Act.put,pA,pB,pC])
 refine zZ (hK.out _ _ ?_)
 by_cases h0:c=0
 ·subst h0
  have d:=@J (r=YS a.at_.n b.at_.n) (f.o)
  have c1:=p.o
  have c2:=q.o
  clear f
  go_wp2_with (go_at_call 83;refine(zft _ a.at_.n b.at_.n).mono ?_;rintro e A ⟨rfl,rfl⟩)
  go_ret
  exact⟨by rw[d.o];rfl,l.o⟩
 ·have d:=@J (r=c) (by rw[f.o,if_neg h0])
  clear f
  go_wp2
  go_ret
  exact⟨by rw[d.o];rfl,l.o⟩
end Go.Proofs.YtmpamcnlineceaaGreatDoor
namespace Go.Proofs
open Go.Shelf
def Tryz.laysF_ren:Go.Shelf.Ren:=⟨fun|6=>55|15=>81|14=>80|28=>99|29=>100|20=>91|21=>92|22=>93|23=>94|24=>95|25=>96|26=>97|27=>98|46=>105|47=>106|48=>107|49=>108|50=>109|57=>112|n=>n,fun|22=>49|24=>103|25=>127|3=>3|39=>111|0=>0|53=>59|55=>33|4=>4|46=>168|45=>167|50=>172|5=>5|9=>9|66=>179|70=>183|76=>189|77=>190|n=>n,fun|n=>n⟩
theorem Tryz.laysF:Go.Proofs.SlLaysF0.n6 prog Tryz.laysF_ren:={
 mixed:=by kernel_rfl
 f6:=⟨Tryz.f55.name,by decide,Tryz.func55.trans (congrArg some (by kernel_rfl))⟩
 f14:=⟨Tryz.f80.name,by decide,Tryz.func80.trans (congrArg some (by kernel_rfl))⟩
 f15:=Tryz.func81.trans (congrArg some (by kernel_rfl))
 f20:=⟨Tryz.f91.name,by decide,Tryz.func91.trans (congrArg some (by kernel_rfl))⟩
 f21:=⟨Tryz.f92.name,by decide,Tryz.func92.trans (congrArg some (by kernel_rfl))⟩
 f22:=⟨Tryz.f93.name,by decide,Tryz.func93.trans (congrArg some (by kernel_rfl))⟩
 f23:=⟨Tryz.f94.name,by decide,Tryz.func94.trans (congrArg some (by kernel_rfl))⟩
 f24:=⟨Tryz.f95.name,by decide,Tryz.func95.trans (congrArg some (by kernel_rfl))⟩
 f25:=⟨Tryz.f96.name,by decide,Tryz.func96.trans (congrArg some (by kernel_rfl))⟩
 f26:=⟨Tryz.f97.name,by decide,Tryz.func97.trans (congrArg some (by kernel_rfl))⟩
 f27:=⟨Tryz.f98.name,by decide,Tryz.func98.trans (congrArg some (by kernel_rfl))⟩
 f28:=Tryz.func99.trans (congrArg some (by kernel_rfl))
 f29:=Tryz.func100.trans (congrArg some (by kernel_rfl))
 f46:=⟨Tryz.f105.name,by decide,Tryz.func105.trans (congrArg some (by kernel_rfl))⟩
 f47:=Tryz.func106.trans (congrArg some (by kernel_rfl))
 f48:=Tryz.func107.trans (congrArg some (by kernel_rfl))
 f49:=⟨Tryz.f108.name,by decide,Tryz.func108.trans (congrArg some (by kernel_rfl))⟩
 f50:=⟨Tryz.f109.name,by decide,Tryz.func109.trans (congrArg some (by kernel_rfl))⟩
 f57:=⟨Tryz.f112.name,by decide,Tryz.func112.trans (congrArg some (by kernel_rfl))⟩
 t0:=Tryz.underlying0
 a0:=Tryz.isAgg0
 z0:=Tryz.sizeOf0
 v0:=Tryz.zeroValue0
 t3:=Tryz.underlying3
 a3:=Tryz.isAgg3
 z3:=Tryz.sizeOf3
 v3:=Tryz.zeroValue3
 t4:=Tryz.underlying4
 a4:=Tryz.isAgg4
 z4:=Tryz.sizeOf4
 v4:=Tryz.zeroValue4
 t5:=Tryz.underlying5
 a5:=Tryz.isAgg5
 z5:=Tryz.sizeOf5
 v5:=Tryz.zeroValue5
 t9:=Tryz.underlying9
 a9:=Tryz.isAgg9
 z9:=Tryz.sizeOf9
 v9:=Tryz.zeroValue9
 t22:=Tryz.underlying49
 a22:=Tryz.isAgg49
 z22:=Tryz.sizeOf49
 v22:=Tryz.zeroValue49
 t25:=Tryz.underlying127
 a25:=Tryz.isAgg127
 z25:=Tryz.sizeOf127
 v25:=Tryz.zeroValue127
 t39:=Tryz.underlying111
 a39:=Tryz.isAgg111
 z39:=Tryz.sizeOf111
 v39:=Tryz.zeroValue111
 t45:=Tryz.underlying167
 a45:=Tryz.isAgg167
 z45:=Tryz.sizeOf167
 v45:=Tryz.zeroValue167
 t46:=Tryz.underlying168
 a46:=Tryz.isAgg168
 z46:=Tryz.sizeOf168
 v46:=Tryz.zeroValue168
 t50:=Tryz.underlying172
 a50:=Tryz.isAgg172
 z50:=Tryz.sizeOf172
 v50:=Tryz.zeroValue172
 t53:=Tryz.underlying59
 a53:=Tryz.isAgg59
 z53:=Tryz.sizeOf59
 v53:=Tryz.zeroValue59
 t55:=Tryz.underlying33
 a55:=Tryz.isAgg33
 z55:=Tryz.sizeOf33
 v55:=Tryz.zeroValue33
 t66:=Tryz.underlying179
 a66:=Tryz.isAgg179
 z66:=Tryz.sizeOf179
 v66:=Tryz.zeroValue179
 t70:=Tryz.underlying183
 a70:=Tryz.isAgg183
 z70:=Tryz.sizeOf183
 v70:=Tryz.zeroValue183
 t76:=Tryz.underlying189
 a76:=Tryz.isAgg189
 z76:=Tryz.sizeOf189
 v76:=Tryz.zeroValue189
 t77:=Tryz.underlying190
 a77:=Tryz.isAgg190
 z77:=Tryz.sizeOf190
 v77:=Tryz.zeroValue190}
end Go.Proofs
namespace Go.Proofs.YtmpamcnlineceaaGreatDoor
open Go Go.RowKit Go.Maps Go.MapKept
open Go.Proofs.Tryz(prog)
open List(mem_map mem_append length_map append_assoc nil_append size_toArray)
open Nat(le_refl zero_le le_trans)
section
open Go.Sort
theorem zep:vn.ok:=⟨⟨rfl,λx a=>by have:x=0:=List.eq_of_mem_replicate a;omega⟩,by decide,by decide⟩
abbrev za0:Type:={c:zh // c.ok}
instance:Inhabited za0:=⟨⟨QI,zep,Xd⟩⟩
def QJ (x:za0):List Value:=zw x.1
def zbe (x y:za0):Int:=vB x.1.at_ y.1.at_
theorem zbT {p q r:zE} (b:xV p q=false) (a:xV q r=false):xV p r=false:=by
 cases h:xV p r with
 |false=>rfl
 |true=>
  cases h3:xV q p with
  |true=>rw[ZC h3 h] at a;cases a
  |false=>
   have:=YX b h3
   subst this
   rw[h] at a;cases a
theorem Xc (x y:za0):ltOf zbe x y=xV x.1.at_ y.1.at_:=by
 unfold ltOf zbe xV
 rcases QG x.1.at_ y.1.at_ with h|h|h<;>simp[h]
theorem ziy:SWO (ltOf zbe) where
 irrefl x:=by rw[Xc];exact Yd _
 trans x y z h1 h2:=by rw[Xc] at*;exact ZC h1 h2
 ntrans x y z h1 h2:=by rw[Xc] at*;exact zbT h1 h2
theorem zec:∀w,(isAgg (Tryz.laysF_ren.t 24)).run prog w=.ok true w:=λw=>by kernel_rfl
theorem zex:∀w,(Go.sizeOf (Tryz.laysF_ren.t 24)).run prog w=.ok 66 w:=λw=>by kernel_rfl
theorem zeZ (blk off size:Nat) (w:World):CmpLays prog 56 #[] QJ 66 zbe blk off size w:=
 λ_ _ _ _ x y=>(zel _ x.1 y.1 x.2 y.2).mono λ_ _ ⟨a,b⟩=>⟨a,b⟩
theorem zey {w:World} {B:Nat} {v:Value} {H S:List zh} (i:w.ownsRow B 103 66 v H.length (H.flatMap zw)) (ok:∀h∈H,h.ok) (z:S.Perm H) (f:qg S) (G:H.length≤100000):
  Calls prog 55 #[v,.func (.func 56) #[] #[]] w λe w'=>e=.returned (.tuple #[])∧w'.ownsRow B 103 66 v H.length (S.flatMap zw)∧Fr (λj=>v.ownBlock=some j) w w':=by
 have o:=i.2
 rcases o with⟨rfl,P⟩|⟨g,l,A,rfl,u,N,-⟩
 ·have F:=List.eq_nil_of_length_eq_zero P
  subst F
  have hS:S=[]:=z.eq_nil
  subst hS
  refine(AnyF.slices_SortFunc_none Tryz.laysF none 0 (.func (.func 56) #[] #[]) w).mono ?_
  rintro e w' ⟨rfl,rfl⟩
  exact⟨rfl,i,Fr.refl _ _⟩
 ·obtain⟨L,rfl⟩:=zai H ok
  have M:(L.map Subtype.val).flatMap zw=L.flatMap QJ:=by rw[List.flatMap_map];rfl
  rw[M,length_map] at i
  rw[length_map] at G⊢
  have C:∀args w,(callFunc 56 args).run prog w=.ok (.enter 56 args) w:=enters_of Tryz.func56 (by kernel_rfl) rfl
  have q:∀x:za0,(QJ x).length=66:=λx=>yv x.2
  have c:=AnyQ.slices_SortFunc Tryz.laysF 66 zec zex QJ q (λx=>yz) zbe ziy 56 #[] g 0 l L.toArray w C (zeZ _ _ _ _) (zaf QJ 66 q i) (yu N) (by rw[size_toArray];show L.length<_;omega)
  rw[size_toArray] at c
  refine c.mono ?_
  rintro e w' ⟨rfl,m,n,os,k,s,rfl⟩
  have K:m.toList.map Subtype.val=S:=sorted_perm Subtype.val (r:=λa b=>xV a.at_ b.at_) Xc (d:=L.toArray) (by rw[size_toArray];exact k) (by rw[size_toArray];exact s) z
   (by unfold qg at f;exact f.imp (fun {a b} h=>Vr h))
   (λa I b u E o=>f.uniq I u (YX E o))
  have t:m.size=L.length:=by have:=k.1;rw[size_toArray] at this;exact this
  obtain⟨y,D⟩:=zc9 QJ 66 q i t n os
  have p:m.toList.flatMap QJ=S.flatMap zw:=by rw[←K,List.flatMap_map];rfl
  rw[p] at y
  exact⟨rfl,y,D.mono (λj O=>by rw[O];rfl)⟩
end
section
open Go.Sort
theorem zcX:vz prog 103=some (66,[(0,33),(33,33)]):=by kernel_rfl
theorem zd3 {c:zh} (a:c.ok):Jb (([(0,33),(33,33)]:List (Nat×Nat)).toArray[·]?) 0 [(0,.agg (zi c.at_).toArray),(1,.agg (zx c.out).toArray)]:=by
 have h:(Value.agg (zi c.at_).toArray).cells.size=33:=by show(zi c.at_).toArray.size=33;simpa using zF a.1
 have b:(Value.agg (zx c.out).toArray).cells.size=33:=by show(zx c.out).toArray.size=33;simpa using z6 a.2
 simp only[Jb,h,b]
 exact⟨rfl,rfl,trivial⟩
theorem zcW (c:zh):qB [(0,.agg (zi c.at_).toArray),(1,.agg (zx c.out).toArray)]=zw c:=by
 have h:(Value.agg (zi c.at_).toArray).cells.toList=zi c.at_:=by show(zi c.at_).toArray.toList=_;simp
 have a:(Value.agg (zx c.out).toArray).cells.toList=zx c.out:=by show(zx c.out).toArray.toList=_;simp
 simp[qB,zw,h,a]
def Js (x:zE×yk):zh:=⟨x.1,x.2⟩
theorem zcV {M:List (zE×yk)} {S:List zh} (d:(M.map (·.1)).Nodup) (f:∀k v,(k,v)∈M↔(⟨k,v⟩:zh)∈S) (a:qg S):S.Perm (M.map Js):=by
 have b:(M.map Js).Nodup:=by
  unfold List.Nodup at*
  rw[List.pairwise_map] at*
  exact d.imp (λh e=>h (by unfold Js at e;injection e))
 have c:S.Nodup:=by
  have:=a.nodup
  unfold List.Nodup at*
  rw[List.pairwise_map] at this
  exact this.imp (λh e=>h (by rw[e]))
 refine(List.perm_ext_iff_of_nodup c b).2 (λx=>?_)
 rw[←show(⟨x.at_,x.out⟩:zh)=x from rfl,←f]
 constructor
 ·intro h
  exact mem_map.2 ⟨_,h,rfl⟩
 ·intro h
  obtain⟨y,g,e⟩:=mem_map.1 h
  unfold Js at e
  injection e with e1 e2
  rw[←e1,←e2]
  exact g
theorem zbO {w:World} {B k n:Nat} {e:TypeId} {v:Value} {xs:List Value} {r b:Nat} {M R:List (zE×yk)} (h:w.ownsRow B e k v n xs) (l:zay w r b M R):∀j,v.ownBlock=some j→j≠r:=by
 obtain⟨es,f,seen,-,-,-,-,-,-,c,-⟩:=l
 rcases h.2 with⟨rfl,_⟩|⟨g,d,i,rfl,_,m,_⟩
 ·intro j a;cases a
 ·intro j a e
  simp[Value.ownBlock] at a
  subst a e
  rw[m] at c
  cases c
section
variable {w0 w:World} {p:Nat} {V:Nat→Prop} {S:List zh}
theorem zih (h:CS w0 w p V S) (hN:S.length≤100000):
  Calls prog 39 #[.pointer (some ⟨p,0,none⟩)] w λe w'=>∃v,e=.returned v∧w'.ownsRow w.heap.size 103 66 v S.length (S.flatMap zw)∧Fr No w w':=by
 obtain⟨m,M,hb,s,hs,ay,aw⟩:=h.ex
 have LM:=J (XH s hs h.srt)
 have LR:=J (λty=>s.lenRun jG ty)
 obtain⟨iK,hi,hz,ah,aa⟩:=info_parts xR
 obtain⟨w2,ax,af,ab⟩:=run_makeSlice_owned (P:=prog) (w:=w) w.heap.size 49 103 iK _ 66 yQ hi hz ah .i64 .i64 M.length (by rw[LM.o];omega) (by rw[aa,LM.o];omega) (by rw[LM.o];unfold maxLen;omega) (le_refl _)
 have T:Fr No w w2:=Fr.of_grown ab (λk e=>by cases e)
 have ae:=s.keep T id
 obtain⟨g,F,hit⟩:=ae.rangeI jG
 have c0:w.cell? ⟨p,0,none⟩=some (.map (some m)):=(Qg hb).1
 have c2:w2.cell? ⟨p,0,none⟩=some (.map (some m)):=(Qg (T.obj hb id)).1
 have HS:=J hs
 have au:=@J (∀x∈M,x.1.ok∧x.2.ok) (λx hx=>h.ok _ ((hs x.1 x.2).1 hx))
 have Q:=J h.srt
 have al:=J s.nodup
 have aj:=J hit
 have F0:=J (T.alloc (.mapIter (some m) g #[] g))
 have an:=J (af.alloc (.mapIter (some m) g #[] g))
 have aq:=@J (w.heap.size≤w2.heap.size) (T.size)
 have av:=J h.ok
 have ar:=J s.lt
 have zp:=jk
 have zo:=yA
 clear h hb s ae hs ay aw hi hz ah aa af ab T hit
 go_enter Tryz.func39,Tryz.ntmps39
 go_wp2_with (first|(refine zg rfl (j4 rfl rfl (LR.o _)) ?_)|(refine jT rfl rfl rfl F ?_))
 generalize hq:w2.heap.size=r at*
 generalize w2.alloc (.mapIter (some m) g #[] g)=W at*
 clear F ax LR c0 c2
 try simp only[Act.put,pA,pB,pC]
 go_loopg [3] M.length (λn l wr=>∃(D R:List (zE×yk)),(D++R).Perm M∧R.length=n∧zay wr r m M R∧wr.ownsRow w.heap.size 103 66 l D.length ((D.map Js).flatMap zw)∧Fr No w wr)
 case atStart=>exact⟨[],M,List.Perm.refl _,rfl,aj.o,an.o,F0.o⟩
 case round=>
  obtain⟨D,R,a,s,X,C,y⟩:=hrel
  cases R with
  |nil=>
   have z:=X.stop
   rw[List.append_nil] at a
   have hp:=zcV al.o HS.o Q.o
   have d:S.Perm (D.map Js):=hp.trans (a.symm.map _)
   have o:D.length=S.length:=by rw[d.length_eq,length_map]
   have f:=zey (H:=D.map Js) (by rw[length_map];exact C) (λc hc=>av.o c (d.mem_iff.2 hc)) d Q.o (by rw[length_map,o];exact hN)
   rw[length_map,o] at f
   have G:=J f
   have FR:=J y
   have HO:=J C
   obtain⟨la,lc,ad⟩:=C.slice.arg.form
   rw[o] at ad
   subst ad
   clear X C a s y hp d f o
   go_wp2_with (first|(refine qn rfl rfl rfl (z _) ?_)|(go_at_call 55;refine G.o.mono ?_;rintro e w5 ⟨rfl,q,U⟩))
   go_ret
   exact⟨_,rfl,q,FR.o.trans U (λi hi e=>by have:=(HO.o.lt i e).1;omega)⟩
  |cons x0 R0=>
   obtain⟨A,x,B,N,u,z,Y,f3,E⟩:=X.step (by simp) 0
   have hx:x∈M:=a.subset (by rw[u];simp)
   have I:=J (au.o x hx)
   have O:=@J ((Js x).ok) (I.o)
   have PL:=J (zF I.o.1)
   have OL:=J (z6 I.o.2)
   have CL:=J (yv O.o)
   have d:((D++[x])++(A++B)).Perm M:=by
    refine List.Perm.trans ?_ a
    rw[u,append_assoc]
    exact List.Perm.append_left _ (show(x::(A++B)).Perm (A++x::B) from List.perm_middle.symm)
   have o:D.length≤100000:=by have:=d.length_eq;have:=LM.o;simp at this⊢;simp at*;omega
   obtain⟨t1,t2,t3,t4,t5⟩:=VE N (T1:=72) (T2:=68) (z1:=(zi vn).toArray) (z2:=(zx vF).toArray) (c1:=zi x.1) (c2:=zx x.2) (by rw[PL.o];rfl) (by rw[OL.o];exact xq)
   have L:=zbO C X
   have ag:=zf (zf C f3 (λj e e'=>L j e e')) t5 (λ_ _=>id)
   have K:=λj e=>C.lt j e
   have fr4:Fr No w ((((N.alloc (.cells (zi vn).toArray 72)).alloc (.cells (zx vF).toArray 68)).setCells N.heap.size 0 (zi x.1)).setCells (N.heap.size+1) 0 (zx x.2)):=(y.trans f3 (λi hi e=>by have:=aq.o;omega)).trans0 t5
   obtain⟨v5,w5,Z,q,U,-,-⟩:=yw (P:=prog) _ w.heap.size 49 49 103 66 80 _ yQ xR rfl (by decide) ag (zw (Js x)) CL.o yz (by omega) (by unfold maxLen;omega) fr4.size
   have ao:=@J (w5.ownsRow w.heap.size 103 66 v5 (D++[x]).length (((D++[x]).map Js).flatMap zw)) (by simpa using q)
   have ak:=J ((Y.keep t5 id id).keep U (λe=>by have:=(K m e).1;have:=ar.o;omega) (λe=>L r e rfl))
   have F5:=J (fr4.trans U (λi hi e=>by have:=(K i e).1;omega))
   obtain⟨la,lc,rfl⟩:=C.slice.arg.form
   obtain⟨a5,c5,rfl⟩:=q.slice.arg.form
   have ai:=J Z
   have HP:=J d
   have HR:=@J ((A++B).length<gk) (by rw[←s,u];simp)
   have T1:=J t1
   have T2:=J t2
   have T3:=J t3
   have T4:=J t4
   clear X Y C ag q y fr4 hx d o t1 t2 t3 t4 t5 Z U u a s f3 L K
   unfold jR VO at z E
   go_wp2_with (first|refine qn rfl rfl rfl z ?_|refine vH rfl rfl rfl E ?_|(refine ze rfl (zy (ty:=72) (b:=N.heap.size) rfl rfl rfl T1.o (by rw[PL.o];exact yL) yB) ?_)|(refine ze rfl (zy (ty:=68) (b:=N.heap.size+1) rfl (by show Value.pointer (some ⟨_,0,none⟩)=_;simp) rfl T2.o (by rw[OL.o];exact yW) zV) ?_)|(refine ziX rfl rfl rfl T3.o PL.o ?_)|(refine ziW rfl rfl rfl T4.o OL.o ?_)|(refine zg rfl (qj (t:=103) rfl rfl zcX (zd3 O.o) (zcW (Js x)) CL.o) ?_)|(refine zg rfl (zL (t:=49) rfl rfl yQ qA rfl (by decide) (by decide) CL.o) ?_)|(at_builtin;refine zk rfl rfl rfl rfl ai.o ?_))
   go_roundg (A++B).length
   case measure=>exact HR.o
   case rel=>exact⟨D++[x],A++B,HP.o,rfl,ak.o,ao.o,F5.o⟩
end
end
end Go.Proofs.YtmpamcnlineceaaGreatDoor
