/- append of a slice that may be nil. -/
import Derived.Lib.Bytealg
import Derived.Sort.Grow
import Derived.Laws.Externs
import Derived.Shelf.SlSortCmp.WholeK
import Derived.Test.YtdkkjchclkjleaaGreatDoorProg
import Derived.Shelf.SlSortCmp.NoneTotal
import Derived.Deep.LoopGhost
import Derived.Laws.OwnMore
import Derived.Test.YtdkkjchclkjleaaGreatDoorSC1
import Derived.Test.YtdkkjchclkjleaaGreatDoorSC2
set_option linter.unusedVariables false
set_option linter.unusedSimpArgs false
set_option linter.unnecessarySimpa false
set_option linter.all false
set_option maxRecDepth 20000
set_option maxHeartbeats 16000000
namespace Go
open Go.RowKit Go.Maps Go.MapKept
theorem append_nil {P:Program} (w:World) (t ty e:TypeId) (c:P.underlying t=some (.slice e)) (i:TypeInfo) (hi:P.info? e=some i) (base:Option Addr) (n a:Nat) (b:n≤a):
  (Builtin.append_ #[t,t] ty #[.slice base n a,.slice none 0 0]).run P w=.ok (.slice base n a) w:=by
 cases base<;>simp[Builtin.append_,run_underlying c,sizeOf,typeInfo,hi,b,storeCells,loadCells,Builtin.lenOf,Builtin.firstCells]
theorem Xz {P:Program} (w:World) (base:Nat) (t ty e:TypeId) (size bytes:Nat) (z:Value) (E:P.underlying t=some (.slice e)) (d:(P.info? e).map (λi=>(i.zero,i.size,i.bytes))=some (some z,size,bytes)) (D:z.cells.size=size) (C:0<size)
  (v:Value) (n:Nat) (xs:List Value) (f:w.ownsRow base e size v n xs) (x:Value) (m:Nat) (news:List Value) (F:jO w x m news) (M:news.length=m*size) (r:∀u∈news,u.oneCell'=true)
  (l:(n+m)*bytes≤140737488355328) (A:n+m≤maxLen) (p:base≤w.heap.size):
  ∃q w',(Builtin.append_ #[t,t] ty #[v,x]).run P w=.ok q w'∧w'.ownsRow base e size q (n+m) (xs++news)∧Fr (λj=>v.ownBlock=some j) w w'∧(∀k,q.ownBlock=some k→v.ownBlock=some k∨w.heap.size≤k):=by
 by_cases hnil:x=.slice none 0 0
 ·subst hnil
  have N:m=0∧news=[]:=by
   rcases F with⟨_,r,y⟩|⟨b,o,c,h,_⟩
   ·exact⟨r,y⟩
   ·cases h
  obtain⟨rfl,rfl⟩:=N
  obtain⟨i,hi,_⟩:=info_parts d
  have L:∃a c,v=.slice a n c∧n≤c:=by
   rcases f.2 with⟨rfl,rfl⟩|⟨g,G,H,rfl,_,_,h,_⟩
   ·exact⟨none,0,rfl,Nat.le_refl _⟩
   ·exact⟨_,_,rfl,h⟩
  obtain⟨a,c,rfl,B⟩:=L
  refine⟨_,w,append_nil w t ty e E i hi a n c B,by simpa using f,Fr.refl _ _,λk h=>.inl h⟩
 ·obtain⟨q,w',s,y,I,_,K⟩:=Jk (P:=P) w base t ty e size bytes z E d D C v n xs f x m news F.arg M r l A p hnil
  exact⟨q,w',s,y,(Fr.refl _ w).grown I (λk e=>.inr e),K⟩
end Go
namespace Go.Proofs.YtdkkjchclkjleaaGreatDoor
open Go Go.RowKit Go.Maps Go.MapKept
open Go.Proofs.Tryz(prog)
open List(mem_map getElem?_eq_getElem mem_append mem_of_getElem? length_append length_map take_add_one mem_singleton take_length map_append length_take length_cons take_of_length_le append_assoc nil_append)
open Nat(le_refl zero_le le_trans zero_add)
abbrev zd:=List Int
def zf (h:zd):List Value:=h.map zM
def xp (h:zd):Value:=.agg (zf h).toArray
theorem zx {h:zd} (k:zX h):(zf h).length=32:=by simp[zf,k.1]
theorem zS {h:zd}:∀v∈zf h,v.oneCell'=true:=by
 intro v a
 obtain⟨y,_,rfl⟩:=mem_map.1 a
 rfl
theorem zaj {a b:zd} (h:zf a=zf b):a=b:=zab h
theorem yY {a b:zd} (h:xp a=xp b):a=b:=by
 unfold xp at h
 injection h with h
 exact zaj (by simpa using congrArg Array.toList h)
theorem zlH:prog.underlying 41=some (.array 32 5):=by kernel_rfl
theorem yq {h:zd} (k:zX h):∃l,keyOf prog 41 (xp h)=some l:=
 zeM zlH (by kernel_rfl) (by kernel_rfl) (by kernel_rfl) (by kernel_rfl) (of_decide_eq_true (by kernel_rfl)) h k.1 (λx a=>zl9 (k.2 x a))
theorem xT:EqN prog 41:=⟨Keyed.of_law (deep_law_laid Yq (m:=2) (by decide) (of_decide_eq_true (by kernel_rfl)) (by kernel_rfl) (by kernel_rfl)),⟨2,by decide,by kernel_rfl⟩,by kernel_rfl,by kernel_rfl⟩
theorem Zx:∃d,prog.underlying 41=some d∧d.isRow=true:=vK (by kernel_rfl)
theorem yp:(prog.info? 41).map (·.size)=some 32:=by kernel_rfl
def yO:zd:=List.replicate 32 0
theorem xO:zX yO:=⟨rfl,λx a=>by have:x=0:=List.eq_of_mem_replicate a;omega⟩
theorem qi:prog.underlying 38=some (.slice 41):=by kernel_rfl
theorem qI:(prog.info? 41).map (λi=>(i.zero,i.size,i.bytes))=some (some (.agg (zf yO).toArray),32,32):=by kernel_rfl
theorem vU:(prog.info? 41).map (λi=>(i.zero,i.size))=some (some (.agg (zf yO).toArray),32):=by kernel_rfl
theorem yR (w:World):(zeroValue 41).run prog w=.ok (.agg (zf yO).toArray) w:=by kernel_rfl
def y3 (w:World) (v:Value) (l:List zd):Prop:=(∀c∈l,zX c)∧y7 w v l.length (l.flatMap zf)
theorem y3.keep {w w':World} {v:Value} {l:List zd} (h:y3 w v l) (f:Fr No w w'):y3 w' v l:=⟨h.1,h.2.keep f⟩
theorem y3.at_ {w:World} {v:Value} {l:List zd} (h:y3 w v l) {i:Nat} {c:zd} (d:l[i]? =some c):∃b off a,v=.slice (some ⟨b,off,none⟩) l.length a∧w.rangeAt b (off+i*32) (zf c)∧b<w.heap.size:=
 h.2.elem (by decide) (λx d=>zx (h.1 x d)) d
theorem Zj {l:List zd} (ok:∀c∈l,zX c):(l.flatMap zf).length=l.length*32:=xJ zf 32 l (λx a=>zx (ok x a))
theorem Zk {l:List zd}:∀u∈l.flatMap zf,u.oneCell'=true:=λu a=>by
 obtain⟨x,_,b⟩:=List.mem_flatMap.1 a
 exact zS u b
theorem y3.own {w:World} {B:Nat} {v:Value} {l:List zd} (h:w.ownsRow B 41 32 v l.length (l.flatMap zf)) (ok:∀c∈l,zX c):y3 w v l:=⟨ok,h.slice.arg⟩
theorem y7.cap {w:World} {a:Option Addr} {n c:Nat} {cs:List Value} (h:y7 w (.slice a n c) n cs):n≤c:=by
 rcases h with(⟨e,rfl,-⟩|⟨b,off,d,e,f,-⟩)|⟨a',d,e,rfl,-⟩
 ·exact zero_le _
 ·injection e with _ _ e3;subst e3;exact f
 ·exact zero_le _
theorem Xv:prog.underlying 106=some (.slice 5):=by kernel_rfl
theorem XM:(prog.info? 5).map (λi=>(i.zero,i.size,i.bytes))=some (some (.int .u8 0),1,1):=by kernel_rfl
def qJ (w:World) (B:Nat) (v:Value) (l:List Int):Prop:=w.ownsRow B 5 1 v l.length (l.map zM)
theorem zcu {l:List Int}:∀u∈l.map zM,u.oneCell'=true:=λu a=>by
 obtain⟨x,_,rfl⟩:=mem_map.1 a
 rfl
theorem qJ.nil (w:World) (B:Nat):qJ w B (.slice none 0 0) []:=World.ownsRow_nil w B _ 1
theorem qJ.form {w:World} {B:Nat} {v:Value} {l:List Int} (h:qJ w B v l):∃a c,v=.slice a l.length c:=h.slice.arg.form
theorem qJ.keep0 {w w':World} {B:Nat} {v:Value} {l:List Int} (h:qJ w B v l) (f:Fr No w w'):qJ w' B v l:=zb h f (λ_ _=>id)
def Yf (w:World) (v v':Value):Prop:=∀k,v'.ownBlock=some k→v.ownBlock=some k∨w.heap.size≤k
theorem vk (w:World) {B:Nat} {v x:Value} {l m:List Int} (p:qJ w B v l) (q:y7 w x m.length (m.map zM)) (o:l.length+m.length≤1000000) (n:B≤w.heap.size) (ty:TypeId):
  ∃b w',(Builtin.append_ #[106,106] ty #[v,x]).run prog w=.ok b w'∧qJ w' B b (l++m)∧Fr (λj=>v.ownBlock=some j) w w'∧Yf w v b:=by
 have s:(l++m).length=l.length+m.length:=length_append
 by_cases hnil:x=.slice none 0 0
 ·obtain⟨a,c,h⟩:=q.form
  rw[hnil] at h
  injection h with h1 h2 h3
  have r:m=[]:=List.eq_nil_of_length_eq_zero h2.symm
  subst r
  obtain⟨b,w',d,f,g,i⟩:=Xz (P:=prog) w B 106 ty 5 1 1 _ Xv XM rfl (by decide) v l.length (l.map zM) p x 0 [] (.inl ⟨hnil,rfl,rfl⟩) rfl (by simp) (by simp at o⊢;omega) (by unfold maxLen;simp at o;omega) n
  exact⟨b,w',d,by unfold qJ;simpa using f,g,i⟩
 ·obtain⟨b,w',d,f,g,-,i⟩:=Jk (P:=prog) w B 106 ty 5 1 1 _ Xv XM rfl (by decide) v l.length (l.map zM) p x m.length (m.map zM) q (by simp) zcu (by omega) (by unfold maxLen;omega) n hnil
  refine⟨b,w',d,?_,(Fr.refl _ w).grown g (λk e=>.inr e),i⟩
  unfold qJ
  rw[length_append,map_append]
  exact f
theorem Jn (w:World) {B:Nat} {v:Value} {l:List Int} {x:Int} (q:qJ w B v l) (p:l.length+1≤1000000) (r:B≤w.heap.size) (ty:TypeId):
  ∃a w',(Builtin.append_ #[106,106] ty #[v,.slice (some ⟨w.heap.size,0,none⟩) 1 1]).run prog (w.alloc (.cells #[zM x] 5))=.ok a w'∧qJ w' B a (l++[x])∧Fr (λj=>v.ownBlock=some j) w w'∧Yf w v a:=by
 have g:=ye w (.cells #[zM x] 5)
 obtain⟨a,w',b,c,d,f⟩:=vk (w.alloc (.cells #[zM x] 5)) (q.keep0 ((frN w).alloc _)) (x:=.slice (some ⟨w.heap.size,0,none⟩) 1 1) (m:=[x]) (.inl (.inr ⟨w.heap.size,0,1,rfl,le_refl _,by unfold maxLen;omega,λj u n=>by
   have:=zq g j u n
   exact this,by simp⟩)) p (by simp;omega) ty
 exact⟨a,w',b,c,((Fr.refl _ w).alloc _).trans d (λi hi e=>e),λk o=>(f k o).imp id (λh=>by simp at h;omega)⟩
def xy (w:World) (v:Value) (l:List yE):Prop:=(∀c∈l,c.ok)∧y7 w v l.length (l.flatMap zJ)
theorem xy.keep {w w':World} {v:Value} {l:List yE} (h:xy w v l) (f:Fr No w w'):xy w' v l:=⟨h.1,h.2.keep f⟩
theorem xy.at_ {w:World} {v:Value} {l:List yE} (h:xy w v l) {i:Nat} {c:yE} (d:l[i]? =some c):∃b off a,v=.slice (some ⟨b,off,none⟩) l.length a∧w.rangeAt b (off+i*33) (zJ c)∧b<w.heap.size:=
 h.2.elem (by decide) (λx d=>yr (h.1 x d)) d
end Go.Proofs.YtdkkjchclkjleaaGreatDoor
namespace Go
open Go.RowKit Go.Sort
def Ye (w w':World):Prop:=∃q os,w'=grow (w.drewN q) os
theorem Ye.refl (w:World):Ye w w:=⟨0,#[],by simp[grow];rfl⟩
theorem Ye.drew {w w':World} (h:Ye w w'):Ye w w'.drew:=by
 obtain⟨q,os,rfl⟩:=h
 exact⟨q+1,os,rfl⟩
theorem Ye.alloc {w w':World} (h:Ye w w') (o:Obj):Ye w (w'.alloc o):=by
 obtain⟨q,os,rfl⟩:=h
 exact⟨q,os++ #[o],by rw[alloc_eq_grow,grow_grow]⟩
def u8 (x:Int):UInt8:=x.toNat.toUInt8
end Go
namespace Go.Proofs.YtdkkjchclkjleaaGreatDoor
open Go Go.RowKit Go.Maps Go.MapKept
open Go.Proofs.Tryz(prog)
open List(mem_map getElem?_eq_getElem mem_append mem_of_getElem? length_append length_map take_add_one mem_singleton take_length map_append length_take length_cons take_of_length_le append_assoc nil_append)
open Nat(le_refl zero_le le_trans zero_add)
section
open Go.Sort
theorem zib:xQ.ok:=⟨⟨rfl,λx a=>by have:x=0:=List.eq_of_mem_replicate a;omega⟩,by decide,by decide⟩
abbrev zne:Type:={c:zr // c.ok}
instance:Inhabited zne:=⟨⟨zcz,zib,Zm⟩⟩
end
def Kept (V:Nat→Prop) (w:World) (Q:World→Prop):Prop:=∀w',Fr V w w'→Q w'
theorem Kept.now {V:Nat→Prop} {w:World} {Q:World→Prop} (h:Kept V w Q):Q w:=h w (Fr.refl V w)
theorem Kept.step {V V':Nat→Prop} {w w':World} {Q:World→Prop} (h:Kept V w Q) (f:Fr V w w') (b:∀j,j<w.heap.size→V' j→V j):Kept V' w' Q:=
 λc a=>h c (f.trans a b)
theorem Kept.same {V:Nat→Prop} {w w':World} {Q:World→Prop} (h:Kept V w Q) (f:Fr V w w'):Kept V w' Q:=h.step f (λ_ _ h=>h)
theorem Kept.imp {V:Nat→Prop} {w:World} {Q R:World→Prop} (h:Kept V w Q) (a:∀w',Fr V w w'→Q w'→R w'):Kept V w R:=λw' f=>a w' f (h w' f)
structure InD where
 from_:zF
 key:List Int
structure TxD where
 ver:Int
 ins:List InD
 outs:List yE
structure qA where
 tag:Int
 pay:List yE
 txs:List TxD
def qU {α:Type} (k:Nat) (q:World→α→List Value→Prop) (w:World) (v:Value) (L:List α):Prop:=
 ∃va vc,v=.slice va L.length vc∧L.length≤maxLen∧∀(i:Nat) (d:α),L[i]? =some d→∃b off cs,va=some ⟨b,off,none⟩∧w.rangeAt b (off+i*k) cs∧q w d cs
theorem qU.keep {α:Type} {k:Nat} {q:World→α→List Value→Prop} {w w':World} {v:Value} {L:List α} (l:∀d cs,q w d cs→q w' d cs) (h:qU k q w v L) (f:Fr No w w'):qU k q w' v L:=by
 obtain⟨m,n,e,j,h⟩:=h
 refine⟨m,n,e,j,λi d hi=>?_⟩
 obtain⟨b,off,cs,a,c,g⟩:=h i d hi
 exact⟨b,off,cs,a,za c f id,l _ _ g⟩
theorem qU.form {α:Type} {k:Nat} {q:World→α→List Value→Prop} {w:World} {v:Value} {L:List α} (h:qU k q w v L):∃a c,v=.slice a L.length c:=by
 obtain⟨b,d,e,_⟩:=h
 exact⟨b,d,e⟩
theorem qU.at_ {α:Type} {k:Nat} {q:World→α→List Value→Prop} {w:World} {v:Value} {L:List α} (h:qU k q w v L) {i:Nat} {d:α} (g:L[i]? =some d):∃b off a cs,v=.slice (some ⟨b,off,none⟩) L.length a∧w.rangeAt b (off+i*k) cs∧q w d cs:=by
 obtain⟨l,j,rfl,-,h⟩:=h
 obtain⟨b,off,cs,e,c,f⟩:=h i d g
 subst e
 exact⟨b,off,j,cs,rfl,c,f⟩
theorem qU.len {α:Type} {k:Nat} {q:World→α→List Value→Prop} {w:World} {v:Value} {L:List α} (h:qU k q w v L):L.length≤maxLen:=by
 obtain⟨a,b,e,h,_⟩:=h
 exact h
theorem qU.own {α:Type} {k:Nat} {q:World→α→List Value→Prop} {w:World} {v:Value} {L:List α} {B:Nat} {ty:TypeId} {css:List (List Value)} (b:0<k) (h:w.ownsRow B ty k v L.length (css.flatMap id)) (l:css.length=L.length) (j:∀cs∈css,cs.length=k) (m:L.length≤maxLen)
  (n:∀(i:Nat) (d:α) (cs:List Value),L[i]? =some d→css[i]? =some cs→q w d cs):qU k q w v L:=by
 obtain⟨o,p,rfl⟩:=h.slice.arg.form
 refine⟨o,p,rfl,m,λi d hi=>?_⟩
 have a:i<css.length:=by rw[l];exact(List.getElem?_eq_some_iff.1 hi).1
 obtain⟨g,c,e,r,-⟩:=JB (f:=id) b j h (getElem?_eq_getElem a)
 injection e with e1 e2 e3
 subst e1
 exact⟨g,0,css[i],rfl,by rwa [zero_add],n i d _ hi (getElem?_eq_getElem a)⟩
def zbj (w:World) (v:Value) (k:List Int):Prop:=(∀b∈k,0≤b∧b≤255)∧y7 w v k.length (k.map zM)
theorem zbj.keep {w w':World} {v:Value} {k:List Int} (h:zbj w v k) (f:Fr No w w'):zbj w' v k:=⟨h.1,h.2.keep f⟩
def inC (p:zF) (kv:Value):List Value:=zn p++[kv]
theorem vo {p:zF} (h:p.ok) (kv:Value):(inC p kv).length=34:=by simp[inC,zY h]
theorem jQ {p:zF} {a:Option Addr} {n c:Nat}:∀u∈inC p (.slice a n c),u.oneCell'=true:=by
 intro u b
 simp only[inC,mem_append,mem_singleton] at b
 rcases b with b|rfl
 ·exact yI u b
 ·rfl
def InQ (w:World) (x:InD) (cs:List Value):Prop:=∃ka kc,cs=inC x.from_ (.slice ka x.key.length kc)∧x.from_.ok∧zbj w (.slice ka x.key.length kc) x.key
theorem InQ.keep {w w':World} {x:InD} {cs:List Value} (h:InQ w x cs) (f:Fr No w w'):InQ w' x cs:=by
 obtain⟨c,d,e,a,b⟩:=h
 exact⟨c,d,e,a,b.keep f⟩
abbrev QS (w:World) (v:Value) (L:List InD):Prop:=qU 34 InQ w v L
theorem QS.keep0 {w w':World} {v:Value} {L:List InD} (h:QS w v L) (f:Fr No w w'):QS w' v L:=qU.keep (λ_ _ h=>h.keep f) h f
theorem znT:∃d,prog.underlying 108=some d∧d.isRow=true:=vK (by kernel_rfl)
theorem znY:(prog.info? 108).map (·.size)=some 34:=by kernel_rfl
theorem Zn (w:World):(zeroValue 108).run prog w=.ok (.agg (inC xQ (.slice none 0 0)).toArray) w:=by kernel_rfl
theorem Xw:prog.underlying 32=some (.slice 108):=by kernel_rfl
theorem zgV:(prog.info? 108).map (λi=>(i.zero,i.size,i.bytes))=some (some (.agg (inC xQ (.slice none 0 0)).toArray),34,64):=by kernel_rfl
theorem zcO {w:World} {b off:Nat} {p:zF} {kv:Value} (r:w.rangeAt b off (inC p kv)) (ok:p.ok):w.rangeAt b off (zn p)∧w.cell? ⟨b,off+33,none⟩=some kv:=by
 refine⟨λj u a=>r j u ?_,?_⟩
 ·unfold inC
  rw[List.getElem?_append_left (List.getElem?_eq_some_iff.1 a).1]
  exact a
 ·refine r 33 kv ?_
  unfold inC
  rw[List.getElem?_append_right (by rw[zY ok];exact le_refl _),zY ok]
  rfl
theorem zaQ {w:World} {b off:Nat} {p:zF} (r:w.rangeAt b off (zn p)) (ok:p.ok):w.rangeAt b off (p.tx.map zM)∧w.cell? ⟨b,off+32,none⟩=some (.int .u32 p.n):=by
 refine⟨λj u a=>r j u ?_,r 32 _ (zc4 ok)⟩
 unfold zn
 rw[List.getElem?_append_left (List.getElem?_eq_some_iff.1 a).1]
 exact a
def txC (v:Int) (iv ov:Value):List Value:=[.int .u32 v,iv,ov]
def TxQ (w:World) (t:TxD) (cs:List Value):Prop:=∃ia ic oa oc,cs=txC t.ver (.slice ia t.ins.length ic) (.slice oa t.outs.length oc)∧(0≤t.ver∧t.ver≤4294967295)∧QS w (.slice ia t.ins.length ic) t.ins∧xy w (.slice oa t.outs.length oc) t.outs
theorem TxQ.keep {w w':World} {x:TxD} {cs:List Value} (h:TxQ w x cs) (f:Fr No w w'):TxQ w' x cs:=by
 obtain⟨d,g,i,j,e,a,b,c⟩:=h
 exact⟨d,g,i,j,e,a,b.keep0 f,c.keep f⟩
abbrev vC (w:World) (v:Value) (L:List TxD):Prop:=qU 3 TxQ w v L
theorem vC.keep0 {w w':World} {v:Value} {L:List TxD} (h:vC w v L) (f:Fr No w w'):vC w' v L:=qU.keep (λ_ _ h=>h.keep f) h f
theorem zhc {t:Int} {a b:Option Addr} {n c m d:Nat}:∀u∈txC t (.slice a n c) (.slice b m d),u.oneCell'=true:=by
 intro u e
 simp only[txC,List.mem_cons,List.not_mem_nil,or_false] at e
 rcases e with rfl|rfl|rfl<;>rfl
theorem zdw:∃d,prog.underlying 34=some d∧d.isRow=true:=vK (by kernel_rfl)
theorem yZ:(prog.info? 34).map (·.size)=some 3:=by kernel_rfl
theorem zd1:prog.underlying 23=some (.slice 34):=by kernel_rfl
theorem zgW:(prog.info? 34).map (λi=>(i.zero,i.size,i.bytes))=some (some (.agg (txC 0 (.slice none 0 0) (.slice none 0 0)).toArray),3,56):=by kernel_rfl
def zhp (t:Int) (pv tv:Value):List Value:=[.int .u64 t,pv,tv]
def jB (w:World) (b:qA) (cs:List Value):Prop:=∃pa pc ta tc,cs=zhp b.tag (.slice pa b.pay.length pc) (.slice ta b.txs.length tc)∧(0≤b.tag∧b.tag≤18446744073709551615)∧xy w (.slice pa b.pay.length pc) b.pay∧vC w (.slice ta b.txs.length tc) b.txs
theorem jB.keep {w w':World} {x:qA} {cs:List Value} (h:jB w x cs) (f:Fr No w w'):jB w' x cs:=by
 obtain⟨d,g,i,j,e,a,b,c⟩:=h
 exact⟨d,g,i,j,e,a,b.keep f,c.keep0 f⟩
theorem zgN:∃d,prog.underlying 55=some d∧d.isRow=true:=vK (by kernel_rfl)
theorem JQ:(prog.info? 55).map (·.size)=some 3:=by kernel_rfl
structure vj (w:World):Prop where
 at_:Zc w
 lt:3<w.heap.size
theorem vj.keep {w w':World} (h:vj w) {W:Nat→Prop} (f:Fr W w w') (a:∀j,W j→3<j):vj w':=⟨h.at_.keep f (λh=>by have:=a _ h;omega) (λh=>by have:=a _ h;omega),Nat.lt_of_lt_of_le h.lt f.size⟩
theorem vj.keep0 {w w':World} (h:vj w) (f:Fr No w w'):vj w':=h.keep f (λ_ h=>h.elim)
theorem Jt (l:List Int):zX (x9 l):=by
 refine⟨zfn XJ.adds,λx a=>?_⟩
 unfold x9 zdZ at a
 obtain⟨y,_,b⟩:=List.mem_flatMap.1 a
 simp only[Qq,List.mem_cons,List.not_mem_nil,or_false] at b
 rcases b with rfl|rfl|rfl|rfl<;>omega
theorem Yd (l:List Int):zX (vL l):=Jt _
theorem zi5 {w:World} {kv:Value} {k:List Int} (h:y7 w kv k.length (k.map zM)) {p:Nat} (i:w.heap.size≤p):Jd w p kv k:=by
 rcases h with(⟨rfl,d,-⟩|⟨b,off,c,rfl,d,f,e,g⟩)|⟨a,c,rfl,d,-,-⟩
 ·exact .inl ⟨List.eq_nil_of_length_eq_zero d,none,0,rfl⟩
 ·exact .inr ⟨b,off,c,rfl,by omega,e,d⟩
 ·exact .inl ⟨List.eq_nil_of_length_eq_zero d,some a,c,rfl⟩
theorem zbV {w:World} {kv:Value} {k:List Int} (h:y7 w kv k.length (k.map zM)):∀p,(w.alloc (.cells #[kv] 106)).heap.size≤p→Zv (w.alloc (.cells #[kv] 106)) p (.slice (some ⟨w.heap.size,0,none⟩) 1 1) [k]:=λp a=>by
 have b:(w.alloc (.cells #[kv] 106)).heap.size=w.heap.size+1:=by simp
 refine⟨_,_,rfl,λi l hi=>?_⟩
 cases i with
 |succ i=>simp at hi
 |zero=>
  have e:k=l:=by simpa using hi
  subst e
  exact⟨w.heap.size,0,kv,rfl,by omega,zq (ye w (.cells #[kv] 106)) 0 _ rfl,zi5 (h.keep ((frN w).alloc _)) a⟩
theorem zfm {w:World} (a:vj w) {kv:Value} {k:List Int} (h:y7 w kv k.length (k.map zM)) (b:k.length≤1000000000000):
  Calls prog 71 #[.slice (some ⟨w.heap.size,0,none⟩) 1 1] (w.alloc (.cells #[kv] 106)) λe w'=>e=.returned (.agg ((x9 k).map zM).toArray)∧Fr No (w.alloc (.cells #[kv] 106)) w':=by
 have f:=(frN w).alloc (.cells #[kv] 106)
 have g:=a.keep0 f
 have:=zha g.at_ g.lt (v:=.slice (some ⟨w.heap.size,0,none⟩) 1 1) (L:=[k]) (zbV h) (by simp) (by simpa using b)
 simpa using this
theorem zbK {w:World} (o:vj w) {kv:Value} {k:List Int} (h:y7 w kv k.length (k.map zM)) (s:k.length≤1000000000000):
  Calls prog 36 #[kv] w λe w'=>e=.returned (.agg (zf (x9 k)).toArray)∧Fr No w w':=by
 have A:∀w,(zeroValue 41).run prog w=.ok (.agg xC) w:=λw=>by kernel_rfl
 have d:=@J (Fr No w (w.alloc (.cells xC 41))) ((frN w).alloc _)
 have l:=J (ye w (.cells xC 41))
 have r:=J (zfm (o.keep0 d.o) (h.keep d.o) s)
 have c:=@J (((x9 k).map zM).length=32) (by rw[length_map];exact(Jt k).1)
 obtain⟨y,z,rfl⟩:=h.form
 clear o h
 unfold zf
 generalize x9 k=a at*
 go_enter Tryz.func36,Tryz.ntmps36
 generalize u:w.alloc (.cells xC 41)=j at*
 have f:=@J (Fr No j (j.alloc (.cells #[.slice y k.length z] 106))) ((frN j).alloc _)
 go_wp2_with (first|(go_at_call 71;refine r.o.mono ?_;rintro e p ⟨rfl,n⟩;have g:=J n;clear n)|((with_reducible refine zv ?_);refine zi rfl (zK (ty:=41) (b:=w.heap.size) (off:=0) (cs:=a.map zM) rfl rfl rfl (by rw[c.o];exact zV (g.o.obj (f.o.obj l.o id) id) (le_refl 32)) (by rw[c.o];exact qC) (λv t=>by obtain⟨x,-,rfl⟩:=mem_map.1 t;rfl)) ?_))
 have q:=@J (p.heap[w.heap.size]? =some (.cells xC 41 (0,0))) (g.o.obj (f.o.obj l.o id) id)
 have m:=xz w.heap.size 41 (a.map zM) 0 p xC q.o
 have e:=ji (a.map zM) [] xC.toList [] (by rw[c.o];rfl)
 simp only[nil_append,List.append_nil,List.length_nil] at e
 rw[e] at m
 exact bodyPost_ret (v:=.agg (a.map zM).toArray) (results_cell_row (P:=prog) (fn:=Tryz.f36) rfl _ _ w.heap.size 41 (a.map zM).toArray (0,0) _ rfl m Tryz.underlying41 rfl (by rw[List.size_toArray,c.o];exact qC)) rfl ⟨rfl,((d.o.trans0 f.o).trans0 g.o).trans (zu _ _ _ _) (λi hi e=>(show False by omega))⟩
theorem zdc {w:World} (k:vj w) {v:Value} {L:List (List Int)} (r:∀p,w.heap.size≤p→Zv w p v L) (R:L.length≤1000000) (S:L.flatten.length≤1000000000000):
  Calls prog 46 #[v] w λe w'=>e=.returned (.agg (zf (vL L.flatten)).toArray)∧Fr No w w':=by
 have W:∀w,(zeroValue 41).run prog w=.ok (.agg xC) w:=λw=>by kernel_rfl
 have g:=@J (Fr No w (w.alloc (.cells xC 41))) ((frN w).alloc _)
 have F:=J (ye w (.cells xC 41))
 have o:=J (k.keep0 g.o)
 have H:=J (zha o.o.at_ o.o.lt (λp T=>(r p (le_trans g.o.size T)).keep g.o.of0) R S)
 have c:=@J (((x9 L.flatten).map zM).length=32) (by rw[length_map];exact(Jt _).1)
 have j:=@J (((vL L.flatten).map zM).length=32) (by rw[length_map];exact(Jt _).1)
 have B:=J (λ(w:World) (k:vj w) (kv:Value) (h:y7 w kv (x9 L.flatten).length ((x9 L.flatten).map zM))=>zfm k h (by rw[(Jt L.flatten).1];decide))
 have C:=@J (x9 (x9 L.flatten)=vL L.flatten) (rfl)
 rw[C.o] at B
 have q:=J ((Jt L.flatten).1)
 obtain⟨X,Y,rfl,-⟩:=r w.heap.size (le_refl _)
 clear k r C
 unfold zf
 generalize vL L.flatten=f at*
 generalize x9 L.flatten=d at*
 go_enter Tryz.func46,Tryz.ntmps46
 generalize U:w.alloc (.cells xC 41)=Z at*
 have⟨K,M,N,O⟩:=tZ4
 go_wp2_with ((first|(clear K;go_at_call 71;refine H.o.mono ?_;rintro e a ⟨rfl,D⟩;have m:=J D;clear D)|(clear N;go_at_call 71;refine I.o.mono ?_;rintro e V ⟨rfl,E⟩;have z:=J E;clear E;have u:=J (z.o.obj (y.o.obj (n.o.obj (m.o.obj F.o id) id) id) id))|((with_reducible refine zv ?_);first|(clear M;refine zi rfl (zm (w:=a) (ty:=41) (cs:=d.map zM) rfl rfl rfl (by rw[c.o];rfl) (by rw[c.o];exact qC) (λv s=>by obtain⟨x,-,rfl⟩:=mem_map.1 s;rfl)) ?_;have G:=J (ye a (.cells (d.map zM).toArray 41));have n:=@J (Fr No a (a.alloc (.cells (d.map zM).toArray 41))) ((frN a).alloc _);have Q:=@J (a.heap.size<(a.alloc (.cells (d.map zM).toArray 41)).heap.size) (by simp);generalize a.alloc (.cells (d.map zM).toArray 41)=l at*;generalize a.heap.size=t at*;have I:=J (B.o l ((o.o.keep0 m.o).keep0 n.o) (.slice (some ⟨t,0,none⟩) 32 32) (by rw[q.o];exact .inl (.inr ⟨t,0,32,rfl,le_refl _,by decide,zq G.o,Q.o⟩)));have y:=@J (Fr No l (l.alloc (.cells #[.slice (some ⟨t,0,none⟩) 32 32] 106))) ((frN l).alloc _))|(clear O;refine zi rfl (zK (ty:=41) (b:=w.heap.size) (off:=0) (cs:=f.map zM) rfl rfl rfl (by rw[j.o];exact zV u.o (le_refl 32)) (by rw[j.o];exact qC) (λv s=>by obtain⟨x,-,rfl⟩:=mem_map.1 s;rfl)) ?_)));go_frame)
 have A:=xz w.heap.size 41 (f.map zM) 0 V xC u.o
 have e:=ji (f.map zM) [] xC.toList [] (by rw[j.o];rfl)
 simp only[nil_append,List.append_nil,List.length_nil] at e
 rw[e] at A
 exact bodyPost_ret (v:=.agg (f.map zM).toArray) (results_cell_row (P:=prog) (fn:=Tryz.f46) rfl _ _ w.heap.size 41 (f.map zM).toArray (0,0) _ rfl A Tryz.underlying41 rfl (by rw[List.size_toArray,j.o];exact qC)) rfl ⟨rfl,((((g.o.trans0 m.o).trans0 n.o).trans0 y.o).trans0 z.o).trans (zu _ _ _ _) (λi hi e=>(show False by omega))⟩
def leB:Nat→Int→List Int
 |0,_=>[]
 |n+1,x=>x % 256::leB n (x / 256)
theorem vW:∀(n:Nat) (x:Int),(leB n x).length=n
 |0,_=>rfl
 |n+1,x=>by simp[leB,vW n]
def zdS:Nat→Int→Int
 |0,x=>x
 |n+1,x=>zdS n (x / 256)
theorem zay:∀(n:Nat) (x:Int),zdS (n+1) x=zdS n x / 256
 |0,_=>rfl
 |n+1,x=>by rw[zdS,zay n (x / 256)];rfl
theorem zeQ:∀(n:Nat) (x:Int),leB (n+1) x=leB n x++[zdS n x % 256]
 |0,_=>rfl
 |n+1,x=>by rw[leB,zeQ n (x / 256)];rfl
theorem zg6:∀(n:Nat) {x:Int},0≤x∧x≤18446744073709551615→0≤zdS n x∧zdS n x≤18446744073709551615
 |0,_,h=>h
 |n+1,x,h=>by
  rw[zay]
  have:=zg6 n h
  omega
theorem zah {w:World} {B:Nat} {v:Value} {l:List Int} (b:qJ w B v l) (C:B≤w.heap.size) {x:Int} (F:0≤x∧x≤18446744073709551615) {n:Nat} (hn:n≤8) (E:l.length≤100000):
  Calls prog 85 #[v,.int .u64 x,.int .i64 n] w λe w'=>∃a,e=.returned a∧qJ w' B a (l++leB n x)∧Fr (λj=>v.ownBlock=some j) w w'∧Yf w v a:=by
 have P:=J b
 have Q:=J F
 have N:=J C
 have p:=J E
 obtain⟨d,f,rfl⟩:=b.form
 clear b F C E
 go_enter Tryz.func85,Tryz.ntmps85
 go_wp2
 go_loopw [0,1,8] (λz Y r wr=>∃k:Nat,r=.int .i64 k∧k≤n∧Y=.int .u64 (zdS k x)∧qJ wr B z (l++leB k x)∧Fr (λj=>Value.ownBlock (.slice d l.length f)=some j) w wr∧Yf w (.slice d l.length f) z) (λ_ _ r _=>n-(intOf r).toNat)
 case atStart=>exact⟨0,rfl,zero_le _,rfl,by simpa[leB] using P.o,Fr.refl _ _,λk D=>.inl D⟩
 case round=>
  obtain⟨k,rfl,D,rfl,b,fr,A⟩:=hrel
  have c:=J b
  have g:=J fr
  have o:=J A
  obtain⟨T,U,rfl⟩:=b.form
  clear b fr A
  by_cases hlt:k<n
  rotate_left
  ·have q:k=n:=by omega
   subst q
   have W:¬(k:Int)<(k:Int):=by omega
   have O:=@J (∃a,(Value.slice T (l++leB k x).length U)=a∧qJ wr B a (l++leB k x)∧Fr (λj=>Value.ownBlock (.slice d l.length f)=some j) w wr∧Yf w (.slice d l.length f) a) (⟨_,rfl,c.o,g.o,o.o⟩)
   generalize Z:(l++leB k x).length=m at*
   go_wp2
   go_ret
   obtain⟨a,e,h⟩:=O.o
   exact⟨a,by rw[←e];rfl,h⟩
  ·have W:(k:Int)<(n:Int):=by omega
   have hs:=zg6 k Q.o
   have R:=@J ((l++leB k x).length≤100008) (by rw[length_append,vW];have:=p.o;omega)
   obtain⟨G,X,s,t,u,y⟩:=Jn wr (x:=zdS k x % 256) c.o (by have:=R.o;omega) (le_trans N.o g.o.size) 106
   have H:=J s
   have I:=@J (qJ X B G (l++leB (k+1) x)) (by rw[zeQ,←append_assoc];exact t)
   have K:=J (g.o.trans u (λi hi e=>(o.o i e).resolve_right (by omega)))
   have M:=@J (Yf w (.slice d l.length f) G) (λj V=>(y j V).elim (λe=>o.o j e) (λe=>.inr (le_trans g.o.size e)))
   have S:=J (zay k x)
   clear s t u y
   generalize l++leB k x=L at*
   go_wp2_with (first|(at_builtin;refine zR rfl rfl rfl rfl H.o ?_))
   go_roundw
   case rel=>exact⟨k+1,by go_num,by omega,by rw[S.o],I.o,K.o,M.o⟩
   case measure=>simp[intOf];omega
def qE (t:TxD):Bool:=t.ins.all (λx=>decide (x.key.length≤64)) && (decide (t.ins.length≤8) && decide (t.outs.length≤8))
theorem YN (w:World) {p:zF} {kv:Value} (ok:p.ok):(w.alloc (.cells (inC p kv).toArray 108)).rangeAt w.heap.size 0 (zn p)∧(w.alloc (.cells (inC p kv).toArray 108)).cell? ⟨w.heap.size,33,none⟩=some kv:=by
 have:=zcO (zy w (inC p kv) 108) ok
 simpa using this
theorem qN (w:World) (v:Int) (a b:Value):(w.alloc (.cells #[.int .u32 v,a,b] 34)).cell? ⟨w.heap.size,0,none⟩=some (.int .u32 v)∧(w.alloc (.cells #[.int .u32 v,a,b] 34)).cell? ⟨w.heap.size,1,none⟩=some a∧(w.alloc (.cells #[.int .u32 v,a,b] 34)).cell? ⟨w.heap.size,2,none⟩=some b∧(w.alloc (.cells #[.int .u32 v,a,b] 34)).rangeAt w.heap.size 0 [.int .u32 v,a,b]:=by
 have:=zy w [.int .u32 v,a,b] 34
 exact⟨by simpa using this 0 _ rfl,by simpa using this 1 _ rfl,by simpa using this 2 _ rfl,this⟩
theorem zby (w:World) {t:TxD} {cs:List Value} (Q:TxQ w t cs):
  Calls prog 66 #[.agg cs.toArray] w λe w'=>e=.returned (.bool (qE t))∧Fr No w w':=by
 obtain⟨r,s,u,v,rfl,-,hi,-⟩:=Q
 have X:=Zn
 have y:=J ((frN w).alloc (.cells #[.int .u32 t.ver,.slice r t.ins.length s,.slice u t.outs.length v] 34))
 obtain⟨-,c1,c2,-⟩:=qN w t.ver (.slice r t.ins.length s) (.slice u t.outs.length v)
 have I:=J c1
 have K:=J c2
 have L:=J (hi.keep0 y.o)
 have P:t.ins.length≤9223372036854775807:=le_trans hi.len (by unfold maxLen;decide)
 clear hi
 show Calls prog 66 #[.agg #[.int .u32 t.ver,.slice r t.ins.length s,.slice u t.outs.length v]] w _
 go_enter Tryz.func66,Tryz.ntmps66
 go_wp2
 generalize w.alloc (.cells #[.int .u32 t.ver,.slice r t.ins.length s,.slice u t.outs.length v] 34)=U at*
 generalize w.heap.size=q at*
 clear c1 c2
 go_loopw [8] (λC wr=>∃n:Nat,C=.int .i64 n∧n≤t.ins.length∧(∀x∈t.ins.take n,x.key.length≤64)∧Fr No U wr) (λC _=>t.ins.length-(intOf C).toNat)
 case atStart=>exact⟨0,rfl,zero_le _,by simp,Fr.refl _ _⟩
 case round=>
  obtain⟨n,rfl,W,m,fr⟩:=hrel
  have i:=J fr
  have A:=J m
  clear fr m
  by_cases B:n<t.ins.length
  ·have S:(n:Int)<(t.ins.length:Int):=by omega
   obtain⟨x,o⟩:∃x,t.ins[n]? =some x:=⟨_,getElem?_eq_getElem B⟩
   obtain⟨b,off,O,cs,R,H,f,g,rfl,h,l⟩:=(L.o.keep0 i.o).at_ o
   cases R
   have G:=J H
   have p:=J (vo h (.slice f x.key.length g))
   have N:=(YN wr (kv:=.slice f x.key.length g) h).2
   have E:=J (i.o.alloc (.cells (inC x.from_ (.slice f x.key.length g)).toArray 108))
   have F:=J o
   clear H l h o
   by_cases hk:64<x.key.length
   ·have D:decide ((64:Int)<(x.key.length:Int))=true:=by simp;omega
    have j:=@J (qE t=false) (by
     have:t.ins.all (λx=>decide (x.key.length≤64))=false:=by
      rw[List.all_eq_false]
      exact⟨x,mem_of_getElem? F.o,by simp;omega⟩
     simp[qE,this])
    clear hk
    go_wp2_with (first|(refine zn0 rfl rfl rfl G.o p.o ?_)|(refine zn9 (w:=wr) (cs:=inC x.from_ (.slice f x.key.length g)) rfl rfl rfl rfl p.o jQ ?_;generalize wr.alloc (.cells (inC x.from_ (.slice f x.key.length g)).toArray 108)=V at*))
    go_ret
    exact⟨by rw[j.o];rfl,y.o.trans0 E.o⟩
   ·have D:decide ((64:Int)<(x.key.length:Int))=false:=by simp;omega
    have M:=@J (∀e∈t.ins.take (n+1),e.key.length≤64) (λe d=>by
     rw[take_add_one,F.o] at d
     rcases mem_append.1 d with d|d
     ·exact A.o e d
     ·simp at d;subst d;omega)
    clear hk
    go_wp2_with (first|(refine zn0 rfl rfl rfl G.o p.o ?_)|(refine zn9 (w:=wr) (cs:=inC x.from_ (.slice f x.key.length g)) rfl rfl rfl rfl p.o jQ ?_;generalize wr.alloc (.cells (inC x.from_ (.slice f x.key.length g)).toArray 108)=V at*))
    go_roundw
    case rel=>exact⟨n+1,by go_num,by omega,M.o,E.o⟩
    case measure=>simp[intOf];omega
  ·have S:¬(n:Int)<(t.ins.length:Int):=by omega
   have c1:=i.o.cell I.o id
   have c2:=i.o.cell K.o id
   have a:t.ins.all (λx=>decide (x.key.length≤64))=true:=by
    rw[List.all_eq_true]
    intro x o
    rw[show n=t.ins.length by omega,take_length] at A
    simpa using A.o x o
   have j:=@J (qE t=(decide (t.ins.length≤8) && decide (t.outs.length≤8))) (by simp[qE,a])
   have z:=J (y.o.trans0 i.o)
   clear a
   by_cases h8:t.ins.length≤8
   ·have D:decide ((t.ins.length:Int)≤8)=true:=by simp;omega
    by_cases h9:t.outs.length≤8
    ·have T:decide ((t.outs.length:Int)≤8)=true:=by simp;omega
     have c:(decide (t.ins.length≤8) && decide (t.outs.length≤8))=true:=by simp[h8,h9]
     have k:=J c
     clear h8 h9 c
     go_wp2
     go_ret
     exact⟨by rw[j.o,k.o];rfl,z.o⟩
    ·have T:decide ((t.outs.length:Int)≤8)=false:=by simp;omega
     have c:(decide (t.ins.length≤8) && decide (t.outs.length≤8))=false:=by simp[h8,h9]
     have k:=J c
     clear h8 h9 c
     go_wp2
     go_ret
     exact⟨by rw[j.o,k.o];rfl,z.o⟩
   ·have D:decide ((t.ins.length:Int)≤8)=false:=by simp;omega
    have c:(decide (t.ins.length≤8) && decide (t.outs.length≤8))=false:=by simp[h8]
    have k:=J c
    clear h8 c
    go_wp2
    go_ret
    exact⟨by rw[j.o,k.o];rfl,z.o⟩
abbrev ziI (w:World) (r b:Nat) (M R:List (zF×yE)):Prop:=j5 prog 95 j8 zcp w r b M R
def Laid (Md D M':List (zF×yE)):Prop:=∀k v,(k,v)∈M'↔(k,v)∈D∨((k,v)∈Md∧∀u,(k,u)∉D)
theorem Laid.step {d D M' c:List (zF×yE)} {x:zF×yE} (h:Laid d D M') (l:∀u,(x.1,u)∉D) (i:Upd M' x.1 x.2 c):Laid d (D++[x]) c:=by
 intro k v
 obtain⟨f,m⟩:=x
 rw[i k v,h k v]
 simp only[mem_append,mem_singleton,Prod.mk.injEq]
 constructor
 ·rintro(⟨rfl,rfl⟩|⟨a,b|⟨b,g⟩⟩)
  ·exact .inl (.inr ⟨rfl,rfl⟩)
  ·exact .inl (.inl b)
  ·exact .inr ⟨b,λu=>by rintro(h|⟨h,_⟩);exact g u h;exact a h⟩
 ·rintro((a|⟨rfl,rfl⟩)|⟨a,b⟩)
  ·by_cases e:k=f
   ·subst e;exact absurd a (l v)
   ·exact .inr ⟨e,.inl a⟩
  ·exact .inl ⟨rfl,rfl⟩
  ·by_cases e:k=f
   ·subst e;exact absurd (.inr ⟨rfl,rfl⟩) (b m)
   ·exact .inr ⟨e,.inr ⟨a,λu j=>b u (.inl j)⟩⟩
theorem zhy (w:World) {o t:Nat} {n c:List (zF×yE)} (hd:j9 w o n) (hs:j9 w t c) (ae:o≠t) (hN:n.length+c.length≤1000000) (ok:∀x∈c,x.1.ok∧x.2.ok):
  Calls prog 166 #[.map (some o),.map (some t)] w λe w'=>e=.returned (.tuple #[])∧∃M',j9 w' o M'∧Laid n c M'∧Fr (λj=>j=o) w w':=by
 obtain⟨d,q,hit⟩:=hs.rangeI ZS
 have H:=hs.nodup
 have ab:=hd.lt
 have Q:=J (hd.keep ((frN w).alloc (.mapIter (some t) d #[] d)) id)
 have T:=J hit
 have F0:=J ((frN w).alloc (.mapIter (some t) d #[] d))
 have HN:=J H
 have Z:=J ok
 have zp:=vO
 have zo:=xm
 clear hd hs hit H ok
 go_enter Tryz.func166,Tryz.ntmps166
 go_wp2_with (refine jU rfl rfl rfl q ?_)
 generalize hq:w.heap.size=r at*
 generalize w.alloc (.mapIter (some t) d #[] d)=W at*
 clear q
 try simp only[Act.put,pA,pB,pC]
 go_loopg [] c.length (λm wr=>∃(D R M':List (zF×yE)),(D++R).Perm c∧R.length=m∧ziI wr r t c R∧j9 wr o M'∧Laid n D M'∧M'.length≤n.length+D.length∧Fr (λj=>j=o) w wr)
 case atStart=>exact⟨[],c,n,List.Perm.refl _,rfl,T.o,Q.o,λk v=>by simp,by simp,F0.o.of0⟩
 case round=>
  obtain⟨D,R,M',a,hm,M,O,N,af,g⟩:=hrel
  cases R with
  |nil=>
   have h:=M.stop
   have E:Laid n c M':=λk v=>by
    rw[N k v]
    have:∀x,x∈D↔x∈c:=λx=>by rw[←a.mem_iff];simp
    simp only[this]
   have HL:=J E
   have HM:=J O
   have HF:=J g
   clear M a hm N E O g
   go_wp2_with (refine xH rfl rfl rfl (h _) ?_)
   go_end0
   exact⟨rfl,M',HM.o,HL.o,HF.o⟩
  |cons x0 R0=>
   obtain⟨A,x,B,w2,f,h,C,f2,p⟩:=M.step (by simp) 0
   have hx:x∈c:=a.subset (by rw[f];simp)
   have s:=J (Z.o x hx)
   have PL:=J (zY s.o.1)
   have OL:=J (yr s.o.2)
   have l:((D++[x])++(A++B)).Perm c:=by
    refine List.Perm.trans ?_ a
    rw[f,append_assoc]
    exact List.Perm.append_left _ (show(x::(A++B)).Perm (A++x::B) from List.perm_middle.symm)
   have L:∀u,(x.1,u)∉D:=by
    intro u hu
    have h1:=(l.map (·.1)).nodup_iff.2 HN.o
    rw[map_append,map_append,append_assoc] at h1
    exact(List.nodup_append.1 h1).2.2 x.1 (mem_map.2 ⟨_,hu,rfl⟩) x.1 (by simp) rfl
   have z:D.length+(A++B).length+1=c.length:=by have:=l.length_eq;simp at this⊢;omega
   obtain⟨t1,t2,t3,t4,P⟩:=zgv w2 (T1:=95) (T2:=103) (z1:=(zn xQ).toArray) (z2:=(zJ y6).toArray) (c1:=zn x.1) (c2:=zJ x.2) (by rw[PL.o];rfl) (by rw[OL.o];exact yu)
   have K:r≠o:=by have:=ab;omega
   have F:=(O.keep f2 (λe=>K e.symm)).keep P id
   obtain⟨w4,y,I,G,hU,hT,ad⟩:=F.upd Jf.keyed ZS (λ_ _=>vr) (xP s.o.1) (by unfold maxLen;simp at z;omega) x.2
   have fT:=hT.fr
   have Y:=J G
   have U:=J ((C.keep P id id).keep fT (λe=>ae e.symm) K)
   have V:=J (N.step L hU)
   have S:=J (((g.trans f2 (λi hi e=>by omega)).trans P.of0 (λi hi e=>e)).trans fT (λi hi e=>e))
   have X:=@J (y.length≤n.length+(D++[x]).length) (by simp;omega)
   have HP:=J l
   have HR:=@J ((A++B).length<gk) (by rw[←hm,f];simp)
   have T1:=J t1
   have T2:=J t2
   have T3:=J t3
   have T4:=J t4
   have aa:=J I
   clear M C O F N g hx l L z t1 t2 t3 t4 P I G hU hT ad fT f a hm f2
   unfold j8 zcp at h p
   go_wp2_with (first|refine xH rfl rfl rfl h ?_|refine vN rfl rfl rfl p ?_|(refine zi rfl (zK (ty:=95) (b:=w2.heap.size) rfl rfl rfl T1.o (by rw[PL.o];exact xL) yI) ?_)|(refine zi rfl (zK (ty:=103) (b:=w2.heap.size+1) rfl (by show Value.pointer (some ⟨_,0,none⟩)=_;simp) rfl T2.o (by rw[OL.o];exact yz) yc) ?_)|(refine zn4 rfl rfl rfl T3.o PL.o ?_)|(refine zn2 rfl rfl rfl T4.o OL.o ?_)|(refine zi rfl (y4 rfl rfl rfl rfl aa.o) ?_))
   go_roundg (A++B).length
   case measure=>exact HR.o
   case rel=>exact⟨D++[x],A++B,y,HP.o,rfl,U.o,Y.o,V.o,X.o,S.o⟩
def jJ (S l:List zr):Int:=if(l.map (·.at_)).Nodup then if l.any (λc=>xK S c.at_) then 10 else 0 else 12
def JI (S l:List zr):List zr:=if jJ S l=0 then jR S l else S
theorem zgh {S l:List zr} (a:(l.map (·.at_)).Nodup) (b:∀c∈l,xK S c.at_=false):jJ S l=0∧JI S l=jR S l:=by
 have:jJ S l=0:=by
  unfold jJ
  rw[if_pos a,if_neg (by rw[Bool.not_eq_true,List.any_eq_false];exact λc d=>by rw[b c d];simp)]
 exact⟨this,by unfold JI;rw[if_pos this]⟩
theorem zlg {S l:List zr} (a:(l.map (·.at_)).Nodup) {c:zr} (d:c∈l) (b:xK S c.at_=true):jJ S l=10∧JI S l=S:=by
 have:jJ S l=10:=by
  unfold jJ
  rw[if_pos a,if_pos (List.any_eq_true.2 ⟨c,d,b⟩)]
 exact⟨this,by unfold JI;rw[this];rfl⟩
theorem zlh {S l:List zr} (a:¬(l.map (·.at_)).Nodup):jJ S l=12∧JI S l=S:=by
 have:jJ S l=12:=by
  unfold jJ
  rw[if_neg a]
 exact⟨this,by unfold JI;rw[this];rfl⟩
section
variable {w0 w:World} {p:Nat} {V:Nat→Prop} {S:List zr}
theorem CS.put (h:CS w0 w p V S) {m:Nat} {M M':List (zF×yE)} {w':World} (o:w.heap[p]? =some (.cells #[.map (some m)] 235 (0,0))) (z:∀k v,(k,v)∈M↔(⟨k,v⟩:zr)∈S) {n:List (zF×yE)} {l:List zr} (t:j9 w' m M') (s:Laid M n M') (r:∀k v,(k,v)∈n↔(⟨k,v⟩:zr)∈l) (g:(l.map (·.at_)).Nodup) (q:∀c∈l,xK S c.at_=false) (ok:∀c∈l,c.ok) (f:Fr (λj=>j=m) w w'):
  CS w0 w' p V (jR S l):=by
 obtain⟨D,C,a,y,A,d,rfl⟩:=h.ex
 rw[o] at a
 injection a with a
 injection a with e1
 injection e1 with e1
 injection e1 with e1
 injection e1 with e1
 injection e1 with e1
 subst e1
 refine⟨⟨m,M',f.obj o d,t,λk v=>?_,d,rfl⟩,J0 h.srt g q,λc x=>(qL.1 x).elim (h.ok c) (ok c),h.lo,h.fr.trans f (λi hi e=>by subst e;have:=h.lo i (.inr rfl);omega)⟩
 rw[s k v,qL,r,z]
 constructor
 ·rintro(b|⟨b,_⟩)
  ·exact .inr b
  ·exact .inl b
 ·rintro(b|b)
  ·refine .inr ⟨b,λu B=>?_⟩
   exact ZB.1 (q _ ((r k u).1 B)) _ b rfl
  ·exact .inl b
theorem zg3 (h:CS w0 w p V S) {v:Value} {l:List zr} (hl:q9 w v l) (hN:l.length+S.length≤100000):
  Calls prog 135 #[.pointer (some ⟨p,0,none⟩),v] w λe w'=>e=.returned (.int .i64 (jJ S l))∧CS w0 w' p V (JI S l)∧Fr V w w':=by
 obtain⟨va,vc,rfl⟩:=hl.2.form
 have U:=J h
 have HL:=J hl
 clear h hl
 by_cases hnd:(l.map (·.at_)).Nodup
 ·have ND:=J hnd
  clear hnd
  go_enter Tryz.func135,Tryz.ntmps135
  go_wp2_with fail
  refine(zl0 w w (Fr.refl _ _) HL.o (by omega) ND.o).mono ?_
  rintro e w1 ⟨p1,rfl,V1,c1,f1,au⟩
  have C1:=J c1
  have F1:=J f1
  have aj:=J au
  have Y:=J (U.o.fr0 f1)
  clear c1 f1 au
  obtain⟨m,M,hb,hm,hs,aw,E⟩:=Y.o.ex
  obtain⟨G,I,Z,ab,ad,ax,j⟩:=C1.o.ex
  obtain⟨z,T,hit⟩:=ab.rangeI ZS
  have aJ:w1.cell? ⟨p1,0,none⟩=some (.map (some G)):=(zaR Z).1
  have HB:=J hb
  have az:=J Z
  have ah:=J hm
  have HS:=J hs
  have u:=@J (∀k v,(k,v)∈I↔(⟨k,v⟩:zr)∈l) (λk v=>by rw[ad,qL];simp)
  have aD:=J hit
  have F0:=J ((frN w1).alloc (.mapIter (some G) z #[] z))
  have aG:=@J (m≠G) (λe=>by
   have h1:=aj.o G (by rw[j];exact .inr rfl)
   have h2:=U.o.hi m (by rw[E];exact .inr rfl)
   omega)
  have LM:=J (zc0 hm hs Y.o.srt)
  have ak:=@J (I.length=l.length) (by rw[zc0 ab ad C1.o.srt,(Zt l []).length_eq];rfl)
  have aH:=J aw
  have ai:=@J (p1≠m) (λe=>by
   have h1:=aj.o p1 (by rw[j];exact .inl rfl)
   have h2:=U.o.hi m (by rw[E];exact .inr rfl)
   omega)
  have VM:=@J (V m∧V p) (by rw[E];exact⟨.inr rfl,.inl rfl⟩)
  have zp:=vO
  have zo:=xm
  clear hb Z hm ab hs ad aw ax E j hit
  go_wp2_with (refine jU rfl rfl rfl T ?_)
  generalize hq:w1.heap.size=r at*
  generalize w1.alloc (.mapIter (some G) z #[] z)=W at*
  clear T aJ
  try simp only[Act.put,pA,pB,pC]
  go_loopg [] l.length (λn wr=>∃(D R:List (zF×yE)),(D++R).Perm I∧R.length=n∧ziI wr r G I R∧(∀x∈D,xK S x.1=false)∧Fr No w1 wr)
  case atStart=>exact⟨[],I,List.Perm.refl _,ak.o,aD.o,by simp,F0.o⟩
  case round=>
   obtain⟨D,R,a,hm,hI,hD,F⟩:=hrel
   cases R with
   |nil=>
    have s:=hI.stop
    have aa:∀c∈l,xK S c.at_=false:=λc hc=>hD (c.at_,c.out) (by
     have:(c.at_,c.out)∈D++[]:=a.mem_iff.2 ((u.o _ _).2 hc)
     simpa using this)
    obtain⟨N,O⟩:=zgh ND.o aa
    have E0:=J N
    have E1:=J O
    have aC:=J aa
    have FR:=J F
    have aF:=J hI.map
    clear hI a hm hD F N O aa
    have b0:=FR.o.obj HB.o id
    have b1:=FR.o.obj az.o id
    have g:wr.cell? ⟨p,0,none⟩=some (.map (some m)):=(zaR b0).1
    have c1:wr.cell? ⟨p1,0,none⟩=some (.map (some G)):=(zaR b1).1
    have ar:=ah.o.keep FR.o id
    have ag:=J (Y.o.fr0 FR.o)
    have Q:∀x∈I,x.1.ok∧x.2.ok:=λx hx=>HL.o.1 _ ((u.o x.1 x.2).1 hx)
    have av:=zhy wr.drew (ar.keep (frN _).drew id) (aF.o.keep (frN _).drew id) aG.o (by rw[LM.o,ak.o];omega) Q
    have aB:=J av
    clear b1 ar Q av
    go_wp2_with (refine xH rfl rfl rfl (s _) ?_)
    refine wrLx [ff,ff,ff,ff,ff,ff,ff,ff,tt] (λw'=>w'.cell? ⟨p,0,none⟩=some (.map (some m))∧w'.cell? ⟨p1,0,none⟩=some (.map (some G))) ?_ (λK hK=>?_)
    ·exact⟨g,c1⟩
    repeat((first|(refine zj rfl ?_;constructor;constructor;(focus(first|(rintro w' ⟨s1,s2⟩;go_simp;(try with_reducible rfl);done))))|(refine zl rfl ?_));try simp only[Act.put,pA,pB,pC])
    (refine zE rfl (λK' hK'=>?_))
    go_simp
    refine aB.o.mono ?_
    rintro e w3 ⟨rfl,M',aq,ao,f3⟩
    have aA:=J (ag.o.put b0 HS.o aq ao u.o ND.o aC.o HL.o.1 ((frN wr).drew.of0.trans f3 (λ_ _ h=>h)))
    have F3:=@J (Fr V w w3) (((F1.o.trans0 FR.o).of0.trans ((frN wr).drew.of0.trans f3 (λ_ _ h=>h)) (λi hi e=>by subst e;exact VM.o.1)))
    have S3:=@J (w3.cell? ⟨p,0,none⟩=some (.map (some m))∧w3.cell? ⟨p1,0,none⟩=some (.map (some G))) (⟨f3.cell g aH.o,f3.cell c1 ai.o⟩)
    clear aq ao f3 ag
    refine nXt hK' ?_ λhS=>?_
    ·exact S3.o
    try simp only[Act.put,pA,pB,pC]
    refine zL (hK.out _ _ ?_)
    go_wp2
    go_ret
    exact⟨by rw[E0.o];rfl,by rw[E1.o];exact aA.o,F3.o⟩
   |cons x0 R0=>
    obtain⟨A,x,B,b,C,s,an,f2,o⟩:=hI.step (by simp) 0
    have hx:x∈I:=a.subset (by rw[C];simp)
    have ae:=(u.o x.1 x.2).1 hx
    have al:=J (HL.o.1 _ ae)
    have PL:=J (zY al.o.1)
    have XO:=J (vH U.o.ok x.1)
    have OL:=J (yr XO.o)
    have ay:((D++[x])++(A++B)).Perm I:=by
     refine List.Perm.trans ?_ a
     rw[C,append_assoc]
     exact List.Perm.append_left _ (show(x::(A++B)).Perm (A++x::B) from List.perm_middle.symm)
    have P:Fr No w1 b:=F.trans f2 (λi hi e=>by omega)
    have f:=P.alloc (.cells (zn x.1).toArray 95)
    have bA:=f.obj HB.o id
    have g:(b.alloc (.cells (zn x.1).toArray 95)).cell? ⟨p,0,none⟩=some (.map (some m)):=(zaR bA).1
    have L:=J (zy b (zn x.1) 95)
    have H:=J (ah.o.keep f id)
    have aE:=J (an.keep (((frN b).alloc (.cells (zn x.1).toArray 95)).alloc (.cells (zJ (yg S x.1)).toArray 103)).drew id id)
    have af:=J ((f.alloc (.cells (zJ (yg S x.1)).toArray 103)).drew)
    have d:=J (λw' (h':j9 w' m M)=>zdG (w:=w') (q:=x.1) HS.o U.o.srt al.o.1 h')
    have HP:=J ay
    have HR:=@J ((A++B).length<gk) (by rw[←hm,C];simp)
    have aI:=J ae
    have HD:=J hD
    clear hI an F P f bA hx ae ay C a hm f2 hD
    unfold j8 zcp at s o
    cases hh:xK S x.1 with
    |true=>
     obtain⟨N,O⟩:=zlg ND.o aI.o hh
     have E0:=J N
     have E1:=J O
     rw[hh] at d
     have FZ:=J (F1.o.trans0 af.o)
     clear hh N O
     generalize hX:yg S x.1=X at*
     generalize hQ:x.1=q at*
     clear hX
     go_wp2_with (first|refine xH rfl rfl rfl s ?_|refine vN rfl rfl rfl o ?_|(refine zi rfl (zm (w:=b) (ty:=95) rfl rfl rfl (by rw[PL.o];rfl) (by rw[PL.o];exact xL) yI) ?_))
     refine wrLx [ff,ff,ff,ff,ff,ff,ff,ff,ff,tt,tt,ff] (λw'=>w'.cell? ⟨p,0,none⟩=some (.map (some m))∧w'.rangeAt b.heap.size 0 (zn q)∧j9 w' m M) ?_ (λK hK=>?_)
     ·exact⟨g,za L.o (frN _).drew id,H.o.keep (frN _).drew id⟩
     repeat((first|(refine zj rfl ?_;constructor;constructor;(focus(first|exact zn6 rfl (λw h=>h.2.1) PL.o|exact λw' h=>zQ (t:=233) rfl rfl rfl (d.o w' h.2.2)|(rintro w' ⟨s1,s2,s3⟩;go_simp;(try with_reducible rfl);done))))|(refine zl rfl ?_));try simp only[Act.put,pA,pB,pC])
     (refine zE rfl (λK' hK'=>?_))
     refine yj (yA rfl (xm _)) ?_
     refine nXt hK' ?_ λhS=>?_
     ·exact⟨(((frN (b.alloc (.cells (zn q).toArray 95))).drew).alloc _).cell g id,za L.o (((frN (b.alloc (.cells (zn q).toArray 95))).drew).alloc _) id,H.o.keep (((frN (b.alloc (.cells (zn q).toArray 95))).drew).alloc _) id⟩
     try simp only[Act.put,pA,pB,pC]
     (refine zE rfl (λK' hK'=>?_))
     refine yN (zm (w:=((b.alloc (.cells (zn q).toArray 95))).drew) (ty:=103) (cs:=zJ X) rfl rfl rfl (by rw[OL.o];rfl) (by rw[OL.o];exact yz) yc) ?_
     refine nXt hK' ?_ λhS=>?_
     ·exact⟨(((frN (b.alloc (.cells (zn q).toArray 95))).drew).alloc _).cell g id,za L.o (((frN (b.alloc (.cells (zn q).toArray 95))).drew).alloc _) id,H.o.keep (((frN (b.alloc (.cells (zn q).toArray 95))).drew).alloc _) id⟩
     try simp only[Act.put]
     repeat((first|(refine zj rfl ?_;constructor;constructor;(focus(first|(rintro w' -;go_simp;(try with_reducible rfl);done))))|(refine zl rfl ?_));try simp only[Act.put,pA,pB,pC])
     refine zL (hK.out _ _ ?_)
     clear g L H d
     go_wp2
     go_ret
     exact⟨by rw[E0.o];rfl,by rw[E1.o];exact U.o.fr0 FZ.o,FZ.o.of0⟩
    |false=>
     rw[hh] at d
     have HH:=J hh
     clear hh
     generalize hX:yg S x.1=X at*
     generalize hQ:x.1=q at*
     clear hX
     go_wp2_with (first|refine xH rfl rfl rfl s ?_|refine vN rfl rfl rfl o ?_|(refine zi rfl (zm (w:=b) (ty:=95) rfl rfl rfl (by rw[PL.o];rfl) (by rw[PL.o];exact xL) yI) ?_))
     refine wrLx [ff,ff,ff,ff,ff,ff,ff,ff,ff,tt,tt,ff] (λw'=>w'.cell? ⟨p,0,none⟩=some (.map (some m))∧w'.rangeAt b.heap.size 0 (zn q)∧j9 w' m M) ?_ (λK hK=>?_)
     ·exact⟨g,za L.o (frN _).drew id,H.o.keep (frN _).drew id⟩
     repeat((first|(refine zj rfl ?_;constructor;constructor;(focus(first|exact zn6 rfl (λw h=>h.2.1) PL.o|exact λw' h=>zQ (t:=233) rfl rfl rfl (d.o w' h.2.2)|(rintro w' ⟨s1,s2,s3⟩;go_simp;(try with_reducible rfl);done))))|(refine zl rfl ?_));try simp only[Act.put,pA,pB,pC])
     (refine zE rfl (λK' hK'=>?_))
     refine yj (yA rfl (xm _)) ?_
     refine nXt hK' ?_ λhS=>?_
     ·exact⟨(((frN (b.alloc (.cells (zn q).toArray 95))).drew).alloc _).cell g id,za L.o (((frN (b.alloc (.cells (zn q).toArray 95))).drew).alloc _) id,H.o.keep (((frN (b.alloc (.cells (zn q).toArray 95))).drew).alloc _) id⟩
     try simp only[Act.put,pA,pB,pC]
     (refine zE rfl (λK' hK'=>?_))
     refine yN (zm (w:=((b.alloc (.cells (zn q).toArray 95))).drew) (ty:=103) (cs:=zJ X) rfl rfl rfl (by rw[OL.o];rfl) (by rw[OL.o];exact yz) yc) ?_
     refine nXt hK' ?_ λhS=>?_
     ·exact⟨(((frN (b.alloc (.cells (zn q).toArray 95))).drew).alloc _).cell g id,za L.o (((frN (b.alloc (.cells (zn q).toArray 95))).drew).alloc _) id,H.o.keep (((frN (b.alloc (.cells (zn q).toArray 95))).drew).alloc _) id⟩
     try simp only[Act.put]
     repeat((first|(refine zj rfl ?_;constructor;constructor;(focus(first|(rintro w' -;go_simp;(try with_reducible rfl);done))))|(refine zl rfl ?_));try simp only[Act.put,pA,pB,pC])
     refine zL (hK.out _ _ ?_)
     clear g L H d
     go_wp2
     go_roundg (A++B).length
     case measure=>exact HR.o
     case rel=>
      refine⟨D++[x],A++B,HP.o,rfl,aE.o,?_,af.o⟩
      intro y hy
      rcases mem_append.1 hy with h|h
      ·exact HD.o y h
      ·rw[mem_singleton.1 h,hQ];exact HH.o
 ·have ND:=J hnd
  obtain⟨N,O⟩:=zlh (S:=S) hnd
  have E0:=J N
  have E1:=J O
  clear hnd N O
  go_enter Tryz.func135,Tryz.ntmps135
  go_wp2_with fail
  refine(zh2 w HL.o (by omega) ND.o).mono ?_
  rintro e w1 ⟨rfl,f1⟩
  have F1:=J f1
  clear f1
  go_wp2
  go_ret
  exact⟨by rw[E0.o];rfl,by rw[E1.o];exact U.o.fr0 F1.o,F1.o.of0⟩
end
section
open Go.Sort
def Y5 (S:List zr) (ps:List zF):Int:=if ps.Nodup then if ps.all (xK S) then 0 else 9 else 12
def JD (S:List zr) (ps:List zF):List zr:=if Y5 S ps=0 then qg S ps else S
def zcc (S:List zr) (ps:List zF):List yE:=if Y5 S ps=0 then ps.map (yg S) else[]
def Y4 (S:List zr) (ps:List zF):Nat:=(ps.filter λp=> !xK S p).length
theorem zgb (S:List zr) {ps:List zF} {n:Nat} {x:zF} (h:ps[n]? =some x):Y4 S (ps.take (n+1))=Y4 S (ps.take n)+if xK S x=true then 0 else 1:=by
 unfold Y4
 rw[take_add_one,h]
 simp only[Option.toList_some,List.filter_append,length_append]
 cases hx:xK S x<;>simp[hx]
theorem zjI (S:List zr) (ps:List zF):Y4 S ps≤ps.length:=List.length_filter_le _ _
theorem zh1 {S:List zr} {ps:List zF}:ps.all (xK S)=true↔Y4 S ps=0:=by
 unfold Y4
 rw[List.length_eq_zero_iff,List.filter_eq_nil_iff,List.all_eq_true]
 simp
abbrev zkd (c:Int):Value:=.int .i64 c
abbrev zbi (w:World) (m:Nat) (M:List (zF×Int)):Prop:=yD prog 95 j8 zkd w m M
theorem VA (w:World):(Instr.makeMap 159 none).run prog w=.ok (.map (some w.heap.size)) (w.alloc (.map #[] 0)):=by kernel_rfl
theorem zgr {S:List zr} {ps:List zF} {n:Nat} {x:zF} (h:ps[n]? =some x):qg (qg S (ps.take n)) [x]=qg S (ps.take (n+1)):=by
 unfold qg
 rw[List.filter_filter,take_add_one,h]
 apply List.filter_congr
 intro c _
 simp[Bool.and_comm]
theorem xj {w:World} {B b k n:Nat} {e:TypeId} {v:Value} {xs:List Value} (h:w.ownsRow B e k v n xs) (f:b≤B):w.ownsRow b e k v n xs:=
 ⟨h.1,h.2.imp id λ⟨g,c,a,d,i,r⟩=>⟨g,c,a,d,le_trans f i,r⟩⟩
theorem ziD (S:List zr):qg S []=S:=by simp[qg]
section
variable {w0 w:World} {p:Nat} {V:Nat→Prop} {S:List zr}
theorem CS.setM (h:CS w0 w p V S) {m:Nat} {M':List (zF×yE)} {w':World} {d:List zr} (l:w.heap[p]? =some (.cells #[.map (some m)] 235 (0,0))) (n:j9 w' m M') (q:∀k v,(k,v)∈M'↔(⟨k,v⟩:zr)∈d) (g:qV d) (ok:∀c∈d,c.ok) (f:Fr (λj=>j=m) w w'):
  CS w0 w' p V d:=by
 obtain⟨t,s,a,o,r,b,rfl⟩:=h.ex
 rw[l] at a
 injection a with a
 injection a with e1
 injection e1 with e1
 injection e1 with e1
 injection e1 with e1
 injection e1 with e1
 subst e1
 exact⟨⟨m,M',f.obj l b,n,q,b,rfl⟩,g,ok,h.lo,h.fr.trans f (λi hi e=>by subst e;have:=h.lo i (.inr rfl);omega)⟩
omit w0 w p V S in
theorem zeV {w:World} {m:Nat} {M:List (zF×yE)} (h:j9 w m M) (o:Nat):w.cell? ⟨m,o,none⟩=none:=by
 obtain⟨es,a,b,-⟩:=h
 simp[World.cell?,b]
theorem zkk (h:CS w0 w p V S) {v:Value} {ps:List zF} (hl:xN w v ps) (hN:ps.length+S.length≤100000):
  Calls prog 136 #[.pointer (some ⟨p,0,none⟩),v] w λe w'=>∃x,e=.returned (.tuple #[x,.int .i64 (Y5 S ps)])∧w'.ownsRow w.heap.size 103 33 x (zcc S ps).length ((zcc S ps).flatMap zJ)∧CS w0 w' p V (JD S ps)∧Fr V w w':=by
 obtain⟨va,vc,rfl⟩:=hl.2.form
 have HC:=J h
 have HL:=J hl
 have zp:=vO
 have zo:=xm
 have bA:=VA w
 obtain⟨iK,hi,hz,E,aI⟩:=info_parts Jz
 obtain⟨w2,aM,R,ao⟩:=run_makeSlice_full (P:=prog) (w:=w.alloc (.map #[] 0)) (w.heap.size+1) 22 103 iK _ 33 qO hi hz E .i64 .i64 ps.length (by omega) (by rw[aI];omega) (by unfold maxLen;omega) (by simp)
 have f2:Fr No w w2:=((frN w).alloc _).trans0 (Fr.of_grown ao (λk e=>by cases e))
 have a7:=@J (zbi w2 w.heap.size []) ((yD.made w).keep (W:=No) (Fr.of_grown ao (λk e=>by cases e)) id)
 have ae:(w.alloc (.map #[] 0)).heap.size=w.heap.size+1:=by simp
 rw[ae] at aM R
 have bc:=J (xj R (Nat.le_succ w.heap.size))
 have F2:=J f2
 have bp:=@J (w.heap.size+1<w2.heap.size) ((R.lt _ rfl).2)
 clear h hl hi hz E aI R ao f2 ae
 go_enter Tryz.func136,Tryz.ntmps136
 go_wp2_with fail
 clear aM bA
 generalize bx:w.heap.size=f at*
 go_loopw [7,23] (λkv iv wr=>∃(n:Nat) (T:List (zF×Int)) (xs:List Value),iv=.int .i64 n∧n≤ps.length∧kv=.int .i64 (Y4 S (ps.take n))∧zbi wr f T∧(∀k,(∃c,(k,c)∈T)↔k∈ps.take n)∧T.length≤n∧wr.ownsRow f 103 33 (.slice (some ⟨f+1,0,none⟩) ps.length ps.length) ps.length xs∧xs.take (n*33)=((ps.take n).map (yg S)).flatMap zJ∧Fr No w wr∧f+1<wr.heap.size) (λ_ iv _=>ps.length-(intOf iv).toNat)
 case atStart=>exact⟨0,[],_,rfl,zero_le _,rfl,a7.o,by simp,le_refl _,bc.o,by simp,F2.o,bp.o⟩
 case round=>
  obtain⟨n,T,xs,rfl,hn,rfl,aT,aJ,aN,aP,aW,fr,E⟩:=hrel
  have FR:=J fr
  have y:=J aT
  have I:=J aJ
  have u:=J aP
  have L:=J aW
  have ag:=J aN
  have al:=J E
  have an:=HC.o.fr0 fr
  obtain⟨m,M,hb,hm,hs,aO,aH⟩:=an.ex
  have VM:=@J (V m∧V p) (by rw[aH];exact⟨.inr rfl,.inl rfl⟩)
  have HB:=J hb
  have ah:=J hm
  have HS:=J hs
  have bb:=J aO
  have H:=J an
  clear fr aT aJ aP aW aN E an hm hs aO aH
  by_cases h:n<ps.length
  ·have i1:(n:Int)<(ps.length:Int):=by omega
   obtain⟨q,G⟩:∃x,ps[n]? =some x:=⟨_,getElem?_eq_getElem h⟩
   obtain⟨b,off,br,hv,hr,-⟩:=(HL.o.keep FR.o).at_ G
   cases hv
   have d:=J (HL.o.1 q (mem_of_getElem? G))
   have F:=J (zY d.o)
   have XO:=J (vH HC.o.ok q)
   have U:=J (yr XO.o)
   have R1:=J hr
   have Q:=zgb S G
   have bt:=zjI S (ps.take n)
   rw[length_take] at bt
   have aG:ps.take (n+1)=ps.take n++[q]:=by rw[take_add_one,G];rfl
   have A:=J (λw' (h':j9 w' m M)=>zdG (w:=w') (q:=q) HS.o HC.o.srt d.o h')
   have N:=(frN wr).alloc (.cells (zn q).toArray 95)
   have c0:(wr.alloc (.cells (zn q).toArray 95)).cell? ⟨p,0,none⟩=some (.map (some m)):=(zaR (N.obj hb id)).1
   have RB:=J (zy wr (zn q) 95)
   have HM:=J (ah.o.keep N id)
   have f5:=(N.alloc (.cells (zJ (yg S q)).toArray 103)).drew
   have F5:=J f5
   have RX:=@J (((wr.alloc (.cells (zn q).toArray 95)).alloc (.cells (zJ (yg S q)).toArray 103)).drew.rangeAt (wr.alloc (.cells (zn q).toArray 95)).heap.size 0 (zJ (yg S q))) (zy _ _ _)
   have ai:=J (zb u.o f5 (λ_ _=>id))
   have TH:=J (Js ai.o h)
   have au:=J (qY ai.o (n*33) (cs:=zJ (yg S q)) (by rw[U.o];omega))
   have f6:=zu (f+1) (zJ (yg S q)) (n*33) ((wr.alloc (.cells (zn q).toArray 95)).alloc (.cells (zJ (yg S q)).toArray 103)).drew
   have bl:=@J ((setM xs (n*33) (zJ (yg S q))).take ((n+1)*33)=((ps.take (n+1)).map (yg S)).flatMap zJ) (by
    have h1:=VD xs (zJ (yg S q)) (n*33) (by rw[u.o.1,U.o];omega)
    rw[U.o] at h1
    rw[aG,map_append,List.flatMap_append,←L.o,show(n+1)*33=n*33+33 by omega,h1]
    simp)
   have D:zbi ((((wr.alloc (.cells (zn q).toArray 95)).alloc (.cells (zJ (yg S q)).toArray 103)).drew.setCells (f+1) (n*33) (zJ (yg S q))).drew) f T:=((y.o.keep f5 id).keep f6 (λe=>by omega)).keep (frN _).drew id
   have ay:=@J (((((wr.alloc (.cells (zn q).toArray 95)).alloc (.cells (zJ (yg S q)).toArray 103)).drew.setCells (f+1) (n*33) (zJ (yg S q))).drew).rangeAt wr.heap.size 0 (zn q)) (za (za (za RB.o (((frN _).alloc _).drew) id) f6 (λe=>by have:=al.o;omega)) (frN _).drew id)
   obtain⟨v0,w7,s,M1,bz,Z,B,aC,aa,ab,aV⟩:=D.bump Jf.keyed YX (λ_ _=>vr) (z:=0) YD (xP d.o) (by unfold maxLen;have:=ag.o;omega)
   obtain⟨w8,M',aU,aD,hU,O,bu⟩:=aV (IntKind.i64.wrap (v0+1)) w7 No (Fr.refl _ _) id
   have bm:=J (aa _ D)
   have bn:=J (ab _ aC)
   have aq:=J Z
   have bk:=J aU
   have bo:=J (za ay.o B.fr (λe=>by have:=al.o;omega))
   have ba:=J aD
   have bd:=J (zb (zb (zb au.o (frN _).drew (λ_ _=>id)) B.fr (λj e e'=>by simp[Value.ownBlock] at e;omega)) O.fr (λj e e'=>by simp[Value.ownBlock] at e;omega))
   have az:Fr No w w8:=((((FR.o.trans0 f5).trans f6 (λi hi e=>by omega)).drew).trans B.fr (λi hi e=>by omega)).trans O.fr (λi hi e=>by omega)
   have F8:=J az
   have bq:=@J (f+1<w8.heap.size) (by
    have h1:=f5.size;have h2:=f6.size;have h3:=B.fr.size;have h4:=O.fr.size;have h5:=al.o
    simp only[World.drew] at h3
    have h6:((((wr.alloc (.cells (zn q).toArray 95)).alloc (.cells (zJ (yg S q)).toArray 103)).drew.setCells (f+1) (n*33) (zJ (yg S q)))).heap.size≤w7.heap.size:=h3
    omega)
   have aZ:=@J (∀k,(∃c,(k,c)∈M')↔k∈ps.take (n+1)) (λk=>by
    rw[aG,mem_append,mem_singleton,←I.o k]
    constructor
    ·rintro⟨c,hc⟩
     rcases(hU k c).1 hc with⟨rfl,_⟩|⟨_,h⟩
     ·exact .inr rfl
     ·exact .inl ⟨c,h⟩
    ·rintro(⟨c,hc⟩|rfl)
     ·by_cases e:k=q
      ·subst e;exact⟨_,(hU _ _).2 (.inl ⟨rfl,rfl⟩)⟩
      ·exact⟨c,(hU _ _).2 (.inr ⟨e,hc⟩)⟩
     ·exact⟨_,(hU _ _).2 (.inl ⟨rfl,rfl⟩)⟩)
   have a1:=@J (M'.length≤n+1) (by have:=ag.o;omega)
   clear hr G N f5 f6 D Z B aC aa ab aV aU aD hU O bu hb az ai au y I L ah bz
   have hw:IntKind.i64.wrap ((Y4 S (ps.take n):Int)+1)=((Y4 S (ps.take n)+1:Nat):Int):=by rw[IntWalk.i64_in _ (by omega)];omega
   cases hh:xK S q
   all_goals
    rw[hh] at A Q
    simp only[if_true,Bool.false_eq_true,if_false] at Q
    have aY:=J Q
    clear hh Q
    generalize hX:yg S q=X at*
    clear hX
    go_wp2_with (first|(refine zn4 rfl rfl rfl R1.o F.o ?_)|(refine zi rfl (zm (w:=wr) (ty:=95) rfl rfl rfl (by rw[F.o];rfl) (by rw[F.o];exact xL) yI) ?_))
    refine wrLx [ff,ff,ff,ff,ff,ff,ff,ff,ff,tt,tt,ff] (λw'=>w'.cell? ⟨p,0,none⟩=some (.map (some m))∧w'.rangeAt wr.heap.size 0 (zn q)∧j9 w' m M) ?_ (λK hK=>?_)
    ·exact⟨c0,za RB.o (frN _).drew id,HM.o.keep (frN _).drew id⟩
    repeat((first|(refine zj rfl ?_;constructor;constructor;(focus(first|exact zn6 rfl (λw h=>h.2.1) F.o|exact λw' h=>zQ (t:=233) rfl rfl rfl (A.o w' h.2.2)|(rintro w' ⟨s1,s2,s3⟩;go_simp;(try with_reducible rfl);done))))|(refine zl rfl ?_));try simp only[Act.put,pA,pB,pC])
    (refine zE rfl (λK' hK'=>?_))
    refine yj (yA rfl (xm _)) ?_
    refine nXt hK' ?_ λhS=>?_
    ·exact⟨(((frN (wr.alloc (.cells (zn q).toArray 95))).drew).alloc _).cell c0 id,za RB.o (((frN (wr.alloc (.cells (zn q).toArray 95))).drew).alloc _) id,HM.o.keep (((frN (wr.alloc (.cells (zn q).toArray 95))).drew).alloc _) id⟩
    try simp only[Act.put,pA,pB,pC]
    (refine zE rfl (λK' hK'=>?_))
    refine yN (zm (w:=((wr.alloc (.cells (zn q).toArray 95))).drew) (ty:=103) (cs:=zJ X) rfl rfl rfl (by rw[U.o];rfl) (by rw[U.o];exact yz) yc) ?_
    refine nXt hK' ?_ λhS=>?_
    ·exact⟨(((frN (wr.alloc (.cells (zn q).toArray 95))).drew).alloc _).cell c0 id,za RB.o (((frN (wr.alloc (.cells (zn q).toArray 95))).drew).alloc _) id,HM.o.keep (((frN (wr.alloc (.cells (zn q).toArray 95))).drew).alloc _) id⟩
    try simp only[Act.put]
    repeat((first|(refine zj rfl ?_;constructor;constructor;(focus(first|(rintro w' -;go_simp;(try with_reducible rfl);done))))|(refine zl rfl ?_));try simp only[Act.put,pA,pB,pC])
    refine zL (hK.out _ _ ?_)
    clear c0 RB HM A
    go_wp2_with (first|(refine zn2 rfl rfl rfl RX.o U.o ?_)|(refine zi rfl (zK (ty:=103) rfl rfl rfl (by rw[U.o];exact TH.o) (by rw[U.o];exact yz) yc) ?_))
    refine ym [ff,ff,ff,ff,tt,ff,tt] (λw'=>w'.rangeAt wr.heap.size 0 (zn q)∧(Instr.lookup 159 (.map (some f)) (j8 q) false).run prog w'=.ok (.int .i64 v0) w') (by kernel_rfl) (by kernel_rfl) 6 (by kernel_rfl) (by kernel_rfl) ?_ (λK hK=>?_)
    ·exact⟨ay.o,bm.o⟩
    repeat((first|(refine z7 rfl ?_;constructor;constructor;(focus(first|exact zn6 rfl (λw h=>h.1) F.o|exact λw' h=>zQ (t:=159) rfl rfl rfl h.2|(rintro w' ⟨s1,s2⟩;go_simp;(try with_reducible rfl);done))))|(refine ya rfl ?_));try simp only[Act.put,pA,pB,pC])
    (refine z6 rfl (λK' hK'=>?_))
    refine yj (Qf rfl rfl rfl aq.o) ?_
    refine hK'.out _ _ (λ_=>?_) (λhS=>?_)
    ·exact⟨bo.o,bn.o⟩
    try simp only[Act.put,pA,pB,pC]
    repeat((first|(refine z7 rfl ?_;constructor;constructor;(focus(first|(rintro w' ⟨s1,s2⟩;go_simp;(try with_reducible rfl);done))))|(refine ya rfl ?_));try simp only[Act.put,pA,pB,pC])
    (refine z6 rfl (λK' hK'=>?_))
    refine yN (Y1 rfl rfl rfl rfl bk.o) ?_
    refine hK'.out _ _ (λh=>absurd rfl h) (λhS=>?_)
    refine xD (hK.out _ _ ?_)
    go_wp2
    go_roundw
    case rel=>exact⟨n+1,M',_,by simp,by omega,by rw[aY.o];rfl,ba.o,aZ.o,a1.o,bd.o,bl.o,F8.o,bq.o⟩
    case measure=>show ps.length-(n+1)<ps.length-n;omega
  ·have i1:¬(n:Int)<(ps.length:Int):=by omega
   have Y:ps.take n=ps:=by rw[show n=ps.length by omega,take_length]
   have ad:∀x,x∈T.map (·.1)↔x∈ps:=by
    intro x
    rw[←show ps.take n=ps from Y,←I.o x]
    simp
   have a:=zap y.o.nodup ad
   rw[length_map] at a
   have LR:=J (λty=>y.o.lenRun YX ty)
   have o:=zh1 (S:=S) (ps:=ps)
   rw[←Y] at o
   have ax:=@J (xs=(ps.map (yg S)).flatMap zJ) (by
    have h1:=L.o
    rw[Y,show n=ps.length by omega,take_of_length_le (by rw[u.o.1];omega)] at h1
    exact h1)
   have F0:=FR
   clear ad L I ah
   by_cases hnd:ps.Nodup
   ·have j1:(T.length:Int)=(ps.length:Int):=by have:=a.2 hnd;omega
    clear a
    by_cases hm0:Y4 S (ps.take n)=0
    ·have j2:¬(0:Int)<(Y4 S (ps.take n):Int):=by omega
     have r:=@J (Y5 S ps=0) (by unfold Y5;rw[if_pos hnd,if_pos (by rw[←Y];exact o.2 hm0)])
     have a6:=J (HL.o.keep FR.o)
     have av:=@J (wr.ownsRow f 103 33 (.slice (some ⟨f+1,0,none⟩) ps.length ps.length) (zcc S ps).length ((zcc S ps).flatMap zJ)) (by
      unfold zcc
      rw[if_pos r.o,length_map,←ax.o]
      exact u.o)
     have ES:=@J (JD S ps=qg S ps) (by unfold JD;rw[if_pos r.o])
     obtain⟨m2,M2,C,aK,aR,-,-⟩:=H.o.ex
     have bw:m2=m:=by
      rw[hb] at C
      injection C with C
      injection C with e1
      injection e1 with e1
      injection e1 with e1
      injection e1 with e1
      injection e1 with e1
      exact e1.symm
     subst bw
     have ar:=J aK
     have bh:=J aR
     have aw:=@J (p<f∧m2<f) (⟨by have:=HC.o.hi p VM.o.2;omega,by have:=HC.o.hi m2 VM.o.1;omega⟩)
     clear o hm0 Y C aK aR ax u y ag
     go_wp2_with (refine zg rfl (jb rfl rfl (LR.o _)) ?_)
     clear LR
     go_loopw [61] (λiv aX=>∃(g:Nat) (M3:List (zF×yE)),iv=.int .i64 g∧g≤ps.length∧j9 aX m2 M3∧(∀k v,(k,v)∈M3↔(⟨k,v⟩:zr)∈qg S (ps.take g))∧Fr (λj=>j=m2) wr aX) (λiv _=>ps.length-(intOf iv).toNat)
     case atStart=>exact⟨0,M2,rfl,zero_le _,ar.o,by rw[List.take_zero,ziD];exact bh.o,Fr.refl _ _⟩
     case round=>
      obtain⟨g,M3,rfl,bB,aL,aS,aA⟩:=hrel
      have af:=J aL
      have aj:=J aS
      have l:=J aA
      clear aL aS aA
      by_cases h2:g<ps.length
      ·have i2:(g:Int)<(ps.length:Int):=by omega
       obtain⟨q,G⟩:∃x,ps[g]? =some x:=⟨_,getElem?_eq_getElem h2⟩
       obtain⟨b,off,br,hv,hr,-⟩:=a6.o.at_ G
       cases hv
       have d:=J (HL.o.1 q (mem_of_getElem? G))
       have F:=J (zY d.o)
       have bs:b≠m2:=λe=>by
        subst e
        have h3:=hr 32 _ (zc4 d.o)
        rw[zeV ar.o] at h3
        cases h3
       have R1:=J (za hr l.o bs)
       have N:=(frN wr).alloc (.cells (zn q).toArray 95)
       have cA:(wr.alloc (.cells (zn q).toArray 95)).cell? ⟨p,0,none⟩=some (.map (some m2)):=(zaR (N.obj (l.o.obj HB.o bb.o) id)).1
       have CA:=J cA
       have RB:=J (zy wr (zn q) 95)
       obtain⟨w5,M4,aQ,aB,hD,aF,-⟩:=((af.o.keep N id).keep (frN _).drew id).del Jf.keyed ZS (λ_ _=>vr) (xP d.o) 0 95
       have bg:=J aQ
       have a8:=J aB
       have F5:=J ((l.o.trans0 N.drew).trans aF.fr (λi hi e=>e))
       have bj:=@J (∀k v,(k,v)∈M4↔(⟨k,v⟩:zr)∈qg S (ps.take (g+1))) (λk v=>by
        rw[hD k v,aj.o,←zgr G,Jr (ps:=[q])]
        simp only[mem_singleton]
        exact And.comm)
       clear hr G N cA aQ aB hD aF
       go_wp2_with (first|(refine zn4 rfl rfl rfl R1.o F.o ?_)|(refine zi rfl (zm (w:=wr) (ty:=95) rfl rfl rfl (by rw[F.o];rfl) (by rw[F.o];exact xL) yI) ?_))
       refine ym [ff,ff,ff,ff,ff,tt] (λw'=>w'.cell? ⟨p,0,none⟩=some (.map (some m2))∧w'.rangeAt wr.heap.size 0 (zn q)) (by kernel_rfl) (by kernel_rfl) 5 (by kernel_rfl) (by kernel_rfl) ?_ (λK hK=>?_)
       ·exact⟨CA.o,za RB.o (frN _).drew id⟩
       repeat((first|(refine z7 rfl ?_;constructor;constructor;(focus(first|exact zn6 rfl (λw h=>h.2) F.o|(rintro w' ⟨s1,s2⟩;go_simp;(try with_reducible rfl);done))))|(refine ya rfl ?_));try simp only[Act.put,pA,pB,pC])
       (refine z6 rfl (λK' hK'=>?_))
       refine yj (jE rfl rfl rfl bg.o) ?_
       refine hK'.out _ _ (λh=>absurd rfl h) (λhS=>?_)
       refine xD (hK.out _ _ ?_)
       go_wp2
       go_roundw
       case rel=>exact⟨g+1,M4,by simp,by omega,a8.o,bj.o,F5.o⟩
       case measure=>show ps.length-(g+1)<ps.length-g;omega
      ·have i2:¬(g:Int)<(ps.length:Int):=by omega
       have aE:ps.take g=ps:=by rw[show g=ps.length by omega,take_length]
       have ak:=aj.o
       rw[aE] at ak
       have CF:=J (H.o.setM HB.o af.o ak (YA HC.o.srt) (λc hc=>HC.o.ok c (Jr.1 hc).1) l.o)
       have FF:=@J (Fr V w wr) (F0.o.of0.trans l.o (λi hi e=>by subst e;exact VM.o.1))
       have bf:=J (zb av.o l.o (λj e e'=>by have:=(av.o.lt j e).1;have:=aw.o.2;omega))
       clear ak aE aj af i2
       go_wp2
       go_ret2
       exact⟨_,by rw[r.o];rfl,by rw[bx];exact bf.o,by rw[ES.o];exact CF.o,FF.o⟩
    ·have j2:(0:Int)<(Y4 S (ps.take n):Int):=by omega
     have r:=@J (Y5 S ps=9) (by unfold Y5;rw[if_pos hnd,if_neg (λe=>hm0 (o.1 (by rw[Y];exact e)))])
     clear o hm0 Y
     go_wp2_with (refine zg rfl (jb rfl rfl (LR.o _)) ?_)
     go_ret2
     exact⟨_,by rw[r.o];rfl,by unfold zcc;rw[if_neg (by rw[r.o];decide)];exact World.ownsRow_nil _ _ _ _,by unfold JD;rw[if_neg (by rw[r.o];decide)];exact H.o,F0.o.of0⟩
   ·have j1:¬(T.length:Int)=(ps.length:Int):=λe=>hnd (a.1 (by omega))
    have r:=@J (Y5 S ps=12) (by unfold Y5;rw[if_neg hnd])
    clear a o Y
    go_wp2_with (refine zg rfl (jb rfl rfl (LR.o _)) ?_)
    go_ret2
    exact⟨_,by rw[r.o];rfl,by unfold zcc;rw[if_neg (by rw[r.o];decide)];exact World.ownsRow_nil _ _ _ _,by unfold JD;rw[if_neg (by rw[r.o];decide)];exact H.o,F0.o.of0⟩
end
end
def inB (x:InD):List Int:=x.from_.tx++(leB 4 x.from_.n++((x.key.length:Int)::x.key))
def Yu (o:yE):List Int:=leB 8 o.value++o.lock
def txB (t:TxD):List Int:=leB 4 t.ver++((t.ins.length:Int)::(t.ins.flatMap inB++((t.outs.length:Int)::t.outs.flatMap Yu)))
theorem zkZ {x:InD} (h:x.from_.ok):(inB x).length=37+x.key.length:=by simp[inB,vW,h.1.1];omega
theorem zjQ {x:yE} (h:x.ok):(Yu x).length=40:=by simp[Yu,vW,h.2.1]
theorem zbG:∀ {l:List InD},(∀x∈l,x.from_.ok)→(∀x∈l,x.key.length≤64)→(l.flatMap inB).length≤101*l.length
 |[],_,_=>le_refl _
 |x::l,h,k=>by
  have:=zbG (l:=l) (λy a=>h y (.tail _ a)) (λy a=>k y (.tail _ a))
  have b:=zkZ (h x (.head _))
  have c:=k x (.head _)
  simp only[List.flatMap_cons,length_append,length_cons]
  omega
theorem XT:∀ {l:List yE},(∀x∈l,x.ok)→(l.flatMap Yu).length=40*l.length
 |[],_=>rfl
 |x::l,h=>by
  have:=XT (l:=l) (λy a=>h y (.tail _ a))
  have b:=zjQ (h x (.head _))
  simp only[List.flatMap_cons,length_append,length_cons]
  omega
theorem y5 {t:TxD}:qE t=true↔(∀x∈t.ins,x.key.length≤64)∧t.ins.length≤8∧t.outs.length≤8:=by
 simp[qE]
theorem XZ {α β:Type} (f:α→List β) {l:List α} {n:Nat} {x:α} (h:l[n]? =some x):(l.take (n+1)).flatMap f=(l.take n).flatMap f++f x:=by
 rw[take_add_one,h]
 simp
theorem YQ (w:World) {o:yE} (ok:o.ok):(w.alloc (.cells (zJ o).toArray 103)).cell? ⟨w.heap.size,0,none⟩=some (.int .u64 o.value)∧(w.alloc (.cells (zJ o).toArray 103)).rangeAt w.heap.size 1 (o.lock.map zM):=by
 have r:=zy w (zJ o) 103
 refine⟨by simpa using r 0 _ rfl,λj u a=>?_⟩
 have:=r (j+1) u (by simpa[zJ] using a)
 rwa [show 0+(j+1)=1+j by omega] at this
theorem za1 {w:World} {b o:Nat} {l:List Int} (h:w.rangeAt b o (l.map zM)) (c:l.length=32) (a:b<w.heap.size):y7 w (.slice (some ⟨b,o,none⟩) 32 32) l.length (l.map zM):=by
 rw[c]
 exact .inl (.inr ⟨b,o,32,rfl,le_refl _,by decide,h,a⟩)
theorem qJ.step {a b c:World} {B:Nat} {v:Value} {l:List Int} (fr:Fr No a b) (d:qJ b B v l) (g:a.heap.size≤B) (f:Fr (λj=>v.ownBlock=some j) b c):Fr No a c:=fr.trans f (λi hi e=>by have:=(d.lt i e).1;omega)
theorem Yf.ne {w:World} {v a:Value} {q:Nat} (g:Yf w v a) (b:v.ownBlock≠some q) (c:q<w.heap.size):a.ownBlock≠some q:=λe=>(g q e).elim b (λh=>by omega)
theorem qJ.ne {w:World} {B:Nat} {v:Value} {l:List Int} (a:qJ w B v l) {q:Nat} (b:w.heap.size≤q):v.ownBlock≠some q:=λe=>by have:=(a.lt q e).2;omega
def ziN (w:World) (t:TxD) (e:Ending) (w':World):Prop:=∃v,e=.returned (.tuple #[v,.int .i64 (if qE t=true then 0 else 5)])∧Fr No w w'∧(if qE t=true then qJ w' w.heap.size v (txB t) else v=.slice none 0 0)
theorem zli (w:World) {t:TxD} {cs:List Value} (ht:TxQ w t cs):
  Calls prog 45 #[.agg cs.toArray] w (ziN w t):=by
 have HT:=J ht
 obtain⟨q,r,s,u,rfl,R,hi,ho⟩:=ht
 have zI:=Zn
 have zO:=xm
 have N:=J ((frN w).alloc (.cells #[.int .u32 t.ver,.slice q t.ins.length r,.slice s t.outs.length u] 34))
 have m:=@J ((w.alloc (.cells #[.int .u32 t.ver,.slice q t.ins.length r,.slice s t.outs.length u] 34)).heap.size=w.heap.size+1) (by simp)
 obtain⟨c0,c1,c2,r0⟩:=qN w t.ver (.slice q t.ins.length r) (.slice s t.outs.length u)
 have C0:=J c0
 have C1:=J c1
 have C2:=J c2
 have R0:=J r0
 have HI:=J (hi.keep0 N.o)
 have V:=J (ho.keep N.o)
 have HV:=J R
 have HF:=J (zby (w.alloc (.cells #[.int .u32 t.ver,.slice q t.ins.length r,.slice s t.outs.length u] 34)) (HT.o.keep N.o))
 have au:[Value.int .u32 t.ver,.slice q t.ins.length r,.slice s t.outs.length u].toArray= #[Value.int .u32 t.ver,.slice q t.ins.length r,.slice s t.outs.length u]:=rfl
 clear hi ho R
 show Calls prog 45 #[.agg #[.int .u32 t.ver,.slice q t.ins.length r,.slice s t.outs.length u]] w _
 by_cases hfm:qE t=true
 rotate_left
 ·have k:qE t=false:=by simpa using hfm
  rw[k] at HF
  have HP:=@J (∀w',Fr No w w'→ziN w t (.returned (.tuple #[.slice none 0 0,.int .i64 5])) w') (λw' f=>⟨.slice none 0 0,by rw[k];rfl,f,by rw[k];rfl⟩)
  clear hfm k c0 c1 c2 r0
  go_enter Tryz.func45,Tryz.ntmps45
  go_wp2_with (first|(refine zn1 rfl rfl rfl R0.o rfl ?_;generalize w.alloc (.cells #[.int .u32 t.ver,.slice q t.ins.length r,.slice s t.outs.length u] 34)=w1 at*)|(go_at_call 66;refine HF.o.mono ?_;rintro e w2 ⟨rfl,Q⟩;have F2:=J Q;clear Q))
  go_ret2
  exact HP.o _ (N.o.trans0 F2.o)
 ·obtain⟨hk,av,aw⟩:=y5.1 hfm
  rw[hfm] at HF
  have HK:=J hk
  have HP:=@J (∀v w',Fr No w w'→qJ w' (w.heap.size+1) v (txB t)→ziN w t (.returned (.tuple #[v,.int .i64 0])) w') (λv w' f h=>⟨v,by rw[hfm];rfl,f,by rw[if_pos hfm];exact xj h (Nat.le_succ _)⟩)
  clear hk hfm c0 c1 c2 r0
  go_enter Tryz.func45,Tryz.ntmps45
  have v1:=HV.o.1
  have v2:=HV.o.2
  have e1:(t.ins.length:Int) % 256=(t.ins.length:Int):=by omega
  have e2:(t.outs.length:Int) % 256=(t.outs.length:Int):=by omega
  have⟨M0,M1,M2,M3⟩:=tZ4
  go_wp2_with ((first|((with_reducible refine zt ?_);first|(clear M0;refine zn1 rfl rfl rfl R0.o rfl ?_;generalize w.alloc (.cells #[.int .u32 t.ver,.slice q t.ins.length r,.slice s t.outs.length u] 34)=w1 at*)|(clear M3;at_builtin;refine zR rfl rfl rfl rfl T.o ?_;have cC:=F4.o.cell C1.o id))|(clear M1;go_at_call 66;refine HF.o.mono ?_;rintro e w2 ⟨rfl,Q⟩;have F2:=J (N.o.trans0 Q);have C:=J Q;clear Q;have cA:=C.o.cell C0.o id)|(clear M2;go_at_call 85;refine(zah (qJ.nil w2 (w.heap.size+1)) (by have:=m.o;have:=C.o.size;omega) (x:=t.ver) (by omega) (n:=4) (by decide) (by decide)).mono ?_;rintro e w3 ⟨v3,rfl,b3,f3,-⟩;have y:=J (C.o.trans f3 (λi hi e=>(by cases e)));rw[nil_append] at b3;have BL:=J (vW 4 t.ver);have B:=J b3;clear f3 b3;have cB:=y.o.cell C1.o id;obtain⟨v4,S,d,g,c,z⟩:=Jn w3 (x:=t.ins.length) B.o (by rw[BL.o];decide) (by have:=m.o;have:=y.o.size;omega) 106;have T:=J d;have B4:=J g;have F4:=J (y.o.trans c (λi hi e=>(show False by have:=(B.o.lt i e).1;have:=m.o;omega)));clear d g c z));go_frame)
  have af:=@J ((leB 4 t.ver++[(t.ins.length:Int)]).length=5) (by rw[length_append,vW];rfl)
  have LE:=@J (txB t=leB 4 t.ver++[(t.ins.length:Int)]++t.ins.flatMap inB++([(t.outs.length:Int)]++t.outs.flatMap Yu)) (by simp[txB])
  have ag:=@J (∀x∈t.ins,x.from_.ok) (λx j=>by
   obtain⟨i,hi⟩:=List.mem_iff_getElem?.1 j
   obtain⟨_,_,_,_,_,_,_,_,_,h,_⟩:=HI.o.at_ hi
   exact h)
  generalize leB 4 t.ver++[(t.ins.length:Int)]=X at*
  go_loopw [4,26] (λbv H wr=>∃n:Nat,H=.int .i64 n∧n≤t.ins.length∧qJ wr (w.heap.size+1) bv (X++(t.ins.take n).flatMap inB)∧Fr No w1 wr) (λ_ H _=>t.ins.length-(intOf H).toNat)
  case atStart=>exact⟨0,rfl,zero_le _,by simpa using B4.o,F4.o⟩
  case round=>
   obtain⟨n,rfl,hn,E,fr⟩:=hrel
   have FR:=J fr
   have L:=J E
   have SZ:=@J (w.heap.size+1≤wr.heap.size) (by have:=fr.size;have:=m.o;omega)
   have P:=@J ((X++(t.ins.take n).flatMap inB).length≤5+101*n) (by
    rw[length_append,af.o]
    have:=zbG (l:=t.ins.take n) (λx j=>ag.o x (List.mem_of_mem_take j)) (λx j=>HK.o x (List.mem_of_mem_take j))
    rw[length_take] at this
    omega)
   obtain⟨ba,bc,o⟩:=E.form
   clear fr E
   by_cases F:n<t.ins.length
   ·have i1:(n:Int)<(t.ins.length:Int):=by omega
    obtain⟨x,j⟩:∃x,t.ins[n]? =some x:=⟨_,getElem?_eq_getElem F⟩
    have TF:=J (XZ inB j)
    have KL:=J (HK.o x (mem_of_getElem? j))
    obtain⟨b,off,aj,cs,R,hr,I,K,rfl,a,A⟩:=HI.o.at_ j
    cases R
    have R1:=J (za hr FR.o id)
    have OK:=J a
    have ah:=J A
    have W:=J (vo a (.slice I x.key.length K))
    have O:=J ((frN wr).alloc (.cells (inC x.from_ (.slice I x.key.length K)).toArray 108))
    have D:=@J ((wr.alloc (.cells (inC x.from_ (.slice I x.key.length K)).toArray 108)).heap.size=wr.heap.size+1) (by simp)
    obtain⟨n1,n2⟩:=YN wr (kv:=.slice I x.key.length K) a
    obtain⟨n3,n4⟩:=zaQ n1 a
    have N2:=J n2
    have N4:=@J ((wr.alloc (.cells (inC x.from_ (.slice I x.key.length K)).toArray 108)).cell? ⟨wr.heap.size,32,none⟩=some (.int .u32 x.from_.n)) (by simpa using n4)
    obtain⟨v3,w3,d,g,c,z⟩:=vk _ (L.o.keep0 O.o) (za1 n3 a.1.1 (by have:=D.o;omega)) (by have:=P.o;rw[a.1.1];omega) (by have:=SZ.o;have:=D.o;omega) 106
    have T:=J d
    have B:=J g
    have y:=J (qJ.step (FR.o.trans0 O.o) (L.o.keep0 O.o) (by have:=m.o;omega) c)
    have M:=L.o.ne (le_refl _)
    have D3:=J (z.ne M (by have:=D.o;omega))
    have ao:=c.cell N4.o M
    have ad:=J (c.cell N2.o M)
    have QL:=@J (wr.heap.size<w3.heap.size) (by have:=c.size;have:=D.o;omega)
    have al:=a.2.1
    have an:=a.2.2
    have ax:(x.key.length:Int) % 256=(x.key.length:Int):=by have:=KL.o;omega
    have Y:=@J (x.from_.tx.length=32) (a.1.1)
    clear n1 n2 n3 n4 d g c z hr A a j M
    subst o
    generalize ab:X++(t.ins.take n).flatMap inB=Ln at*
    have⟨K0,K1,K2,K3,K4,K5⟩:=tZ6
    go_wp2_with ((first|((with_reducible refine zt ?_);first|(clear K0;refine zn0 rfl rfl rfl R1.o W.o ?_)|(clear K2;at_builtin;refine zR rfl rfl rfl rfl T.o ?_)|(clear K4;at_builtin;refine zR rfl rfl rfl rfl A5.o ?_)|(clear K5;at_builtin;refine zR rfl rfl rfl rfl A6.o ?_))|((with_reducible refine zv ?_);clear K1;refine zn9 (w:=wr) (cs:=inC x.from_ (.slice I x.key.length K)) rfl rfl rfl rfl W.o jQ ?_;generalize wr.alloc (.cells (inC x.from_ (.slice I x.key.length K)).toArray 108)=wA at*)|(clear K3;go_at_call 85;refine(zah B.o (by have:=SZ.o;have:=QL.o;omega) (x:=x.from_.n) (by omega) (n:=4) (by decide) (by rw[length_append,Y.o];have:=P.o;omega)).mono ?_;rintro e S ⟨v4,rfl,b4,p,g4⟩;have U:=J b4;have F5:=J (qJ.step y.o B.o (by have:=m.o;omega) p);have D5:=J (g4.ne D3.o QL.o);have C5:=J (p.cell ad.o D3.o);have aq:=C5.o;have Q5:=@J (wr.heap.size<S.heap.size) (by have:=p.size;have:=QL.o;omega);have L5:=@J ((Ln++x.from_.tx++leB 4 x.from_.n).length≤41+101*n) (by simp only[length_append,Y.o,vW];have:=P.o;omega);clear b4 p g4;obtain⟨v5,w5,d,g,c,z⟩:=Jn S (x:=x.key.length) U.o (by have:=L5.o;omega) (by have:=SZ.o;have:=Q5.o;omega) 106;have A5:=J d;have B6:=J g;have F6:=J (qJ.step F5.o U.o (by have:=m.o;omega) c);have c5:=c.cell C5.o D5.o;have Q6:=@J (wr.heap.size<w5.heap.size) (by have:=c.size;have:=Q5.o;omega);clear d g c z;obtain⟨v6,w6,d,g,c,-⟩:=vk w5 B6.o (ah.o.2.keep F6.o) (by have:=L5.o;have:=KL.o;rw[length_append];simp only[List.length_singleton];omega) (by have:=SZ.o;have:=Q6.o;omega) 106;have A6:=J d;have B7:=J g;have F7:=J (qJ.step F6.o B6.o (by have:=m.o;omega) c);clear d g c));go_frame)
    go_roundw
    case rel=>exact⟨n+1,by go_num,by omega,by rw[TF.o,←append_assoc,ab];simpa[inB] using B7.o,F7.o⟩
    case measure=>simp[intOf];omega
   ·have G:n=t.ins.length:=by omega
    subst G
    have i1:¬(t.ins.length:Int)<(t.ins.length:Int):=by omega
    rw[take_length] at L P
    have c2:=FR.o.cell C2.o id
    obtain⟨v3,w3,d,g,c,z⟩:=Jn wr (x:=t.outs.length) L.o (by have:=P.o;omega) SZ.o 106
    have T:=J d
    have B:=J g
    have y:=J (qJ.step FR.o L.o (by have:=m.o;omega) c)
    have cD:=y.o.cell C2.o id
    have ai:=@J ((X++t.ins.flatMap inB++[(t.outs.length:Int)]).length≤1000) (by
     rw[length_append]
     have:=P.o
     simp only[List.length_singleton]
     omega)
    rw[←append_assoc] at LE
    have Z:=J V.o.1
    clear d g c z
    subst o
    generalize ab:X++t.ins.flatMap inB=Ln at*
    go_wp2_with (first|(at_builtin;refine zR rfl rfl rfl rfl T.o ?_))
    generalize ar:Ln++[(t.outs.length:Int)]=Lm at*
    go_loopw [4,63] (λbv H wr=>∃n:Nat,H=.int .i64 n∧n≤t.outs.length∧qJ wr (w.heap.size+1) bv (Lm++(t.outs.take n).flatMap Yu)∧Fr No w1 wr) (λ_ H _=>t.outs.length-(intOf H).toNat)
    case atStart=>exact⟨0,rfl,zero_le _,by simpa using B.o,y.o⟩
    case round=>
     obtain⟨n,rfl,hn,E,fr⟩:=hrel
     have FS:=J fr
     have BS:=J E
     have SY:=@J (w.heap.size+1≤wr.heap.size) (by have:=fr.size;have:=m.o;omega)
     have aa:=@J ((Lm++(t.outs.take n).flatMap Yu).length≤1000+40*n) (by
      rw[length_append,XT (λx j=>Z.o x (List.mem_of_mem_take j)),length_take]
      have:=ai.o
      omega)
     obtain⟨ba,bc,o⟩:=E.form
     clear fr E
     by_cases F:n<t.outs.length
     ·have i1:(n:Int)<(t.outs.length:Int):=by omega
      obtain⟨x,j⟩:∃x,t.outs[n]? =some x:=⟨_,getElem?_eq_getElem F⟩
      have TF:=J (XZ Yu j)
      obtain⟨b,off,aj,R,hr,-⟩:=V.o.at_ j
      cases R
      have a:=Z.o x (mem_of_getElem? j)
      have R1:=J (za hr FS.o id)
      have OK:=J a
      have W:=J (yr a)
      have O:=J ((frN wr).alloc (.cells (zJ x).toArray 103))
      have D:=@J ((wr.alloc (.cells (zJ x).toArray 103)).heap.size=wr.heap.size+1) (by simp)
      obtain⟨n1,n2⟩:=YQ wr a
      have N2:=J n2
      have al:=a.1.1
      have an:=a.1.2
      have Y:=J a.2.1
      have M:=J (BS.o.ne (le_refl _))
      have FW:=J (FS.o.trans0 O.o)
      have BW:=J (BS.o.keep0 O.o)
      clear n2 hr a j
      subst o
      generalize ak:Lm++(t.outs.take n).flatMap Yu=Lo at*
      have⟨K0,K1,K2,K3⟩:=tZ4
      go_wp2_with ((first|((with_reducible refine zt ?_);first|(clear K0;refine zn2 rfl rfl rfl R1.o W.o ?_)|(clear K3;at_builtin;refine zR rfl rfl rfl rfl A6.o ?_))|((with_reducible refine zv ?_);clear K1;refine zoa (w:=wr) (cs:=zJ x) rfl rfl rfl rfl W.o yc ?_;generalize wr.alloc (.cells (zJ x).toArray 103)=wA at*)|(clear K2;go_at_call 85;refine(zah BW.o (by have:=SY.o;have:=D.o;omega) (x:=x.value) (by omega) (n:=8) (by decide) (by have:=aa.o;omega)).mono ?_;rintro e S ⟨v4,rfl,b4,p,g4⟩;have U:=J b4;have F5:=J (qJ.step FW.o BW.o (by have:=m.o;omega) p);have N5:=J (za N2.o p M.o);have Q5:=@J (wr.heap.size<S.heap.size) (by have:=p.size;have:=D.o;omega);clear b4 p g4;obtain⟨v6,w6,d,g,c,-⟩:=vk S U.o (za1 N5.o Y.o Q5.o) (by simp only[length_append,Y.o,vW];have:=aa.o;omega) (by have:=SY.o;have:=Q5.o;omega) 106;have A6:=J d;have B7:=J g;have F7:=J (qJ.step F5.o U.o (by have:=m.o;omega) c);clear d g c));go_frame)
      go_roundw
      case rel=>exact⟨n+1,by go_num,by omega,by rw[TF.o,←append_assoc,ak];simpa[Yu] using B7.o,F7.o⟩
      case measure=>simp[intOf];omega
     ·have G:n=t.outs.length:=by omega
      subst G
      have i1:¬(t.outs.length:Int)<(t.outs.length:Int):=by omega
      rw[take_length] at BS
      have ae:=J (HP.o _ wr (N.o.trans0 FS.o) (by rw[LE.o];exact BS.o))
      subst o
      generalize (Lm++(t.outs.take t.outs.length).flatMap Yu).length=zz at*
      go_wp2
      go_ret2
      exact ae.o
def idE (t:TxD):Int:=if qE t=true then 0 else 5
def idH (t:TxD):zd:=if qE t=true then vL (txB t) else yO
theorem vG (t:TxD):zX (idH t):=by
 unfold idH
 split
 ·exact Yd _
 ·exact xO
theorem zlF {t:TxD} (h:qE t=true) (hi:∀x∈t.ins,x.from_.ok) (d:∀x∈t.outs,x.ok):(txB t).length≤100000:=by
 obtain⟨c,e,f⟩:=y5.1 h
 have a:=zbG hi c
 have b:=XT d
 simp only[txB,length_append,length_cons,vW]
 omega
theorem TxQ.oks {w:World} {t:TxD} {cs:List Value} (h:TxQ w t cs):(∀x∈t.ins,x.from_.ok)∧∀x∈t.outs,x.ok:=by
 obtain⟨d,e,f,g,-,-,hi,b⟩:=h
 refine⟨λx c=>?_,b.1⟩
 obtain⟨i,a⟩:=List.mem_iff_getElem?.1 c
 obtain⟨_,_,_,_,_,_,_,_,_,h,_⟩:=hi.at_ a
 exact h
theorem TxQ.form {w:World} {t:TxD} {cs:List Value} (h:TxQ w t cs):∃a b c d,cs=[.int .u32 t.ver,.slice a t.ins.length b,.slice c t.outs.length d]:=by
 obtain⟨a,b,c,d,e,-⟩:=h
 exact⟨a,b,c,d,e⟩
theorem Jh:(zf yO).toArray.size=32:=rfl
theorem Xg (w:World):(Instr.build 41 #[]).run prog w=.ok (.agg (zf yO).toArray) w:=by kernel_rfl
theorem Qz {w:World} (Q:vj w) {t:TxD} {cs:List Value} (y:TxQ w t cs):
  Calls prog 15 #[.agg cs.toArray] w λe w'=>e=.returned (.tuple #[.agg (zf (idH t)).toArray,.int .i64 (idE t)])∧Fr No w w':=by
 have zH:=yR
 obtain⟨dH,S,R⟩:=Zx
 obtain⟨k,l,m,o,F⟩:=y.form
 subst F
 have K:=J y.oks
 have N:Fr No w (w.alloc (.cells #[.int .u32 t.ver,.slice k t.ins.length l,.slice m t.outs.length o] 34)):=(frN w).alloc _
 have R0:=J (za (qN w t.ver (.slice k t.ins.length l) (.slice m t.outs.length o)).2.2.2 ((frN _).alloc (.cells (zf yO).toArray 41)) id)
 have x:=J (N.alloc (.cells (zf yO).toArray 41))
 have H:=J (yL (w.alloc (.cells #[.int .u32 t.ver,.slice k t.ins.length l,.slice m t.outs.length o] 34)) (.cells (zf yO).toArray 41) (n:=w.heap.size+1) (by simp))
 have M:=J (zli _ (y.keep x.o))
 have U:=J (Q.keep0 x.o)
 have W:=J (λh=>zlF (t:=t) h K.o.1 K.o.2)
 clear y N Q
 show Calls prog 15 #[.agg #[.int .u32 t.ver,.slice k t.ins.length l,.slice m t.outs.length o]] w _
 go_enter Tryz.func15,Tryz.ntmps15
 by_cases a:qE t=true
 ·have q:=@J (idE t=0∧idH t=vL (txB t)) (⟨by simp[idE,a],by simp[idH,a]⟩)
  have E:=J (W.o a)
  have d:=J a
  have f:=@J ((zf (vL (txB t))).length=32) (zx (Yd _))
  clear a
  have⟨A,B,C,D⟩:=tZ4
  go_wp2_with ((first|((with_reducible refine zt ?_);clear A;refine zn1 rfl rfl rfl R0.o rfl ?_;generalize (w.alloc (.cells #[.int .u32 t.ver,.slice k t.ins.length l,.slice m t.outs.length o] 34)).alloc (.cells (zf yO).toArray 41)=w2 at*)|(clear B;go_at_call 45;refine M.o.mono ?_;rintro e u ⟨v,rfl,s,g⟩;rw[if_pos d.o] at g;rw[if_pos d.o];have j:=J s;have T:=J g;obtain⟨Z,vc,G⟩:=g.form;subst G;have V:=J (U.o.keep0 j.o);have z:=@J (Fr No u (u.alloc (.cells #[.slice Z (txB t).length vc] 106))) ((frN u).alloc _);have r:=J (zdc (V.o.keep0 z.o) (v:=.slice (some ⟨u.heap.size,0,none⟩) 1 1) (L:=[txB t]) (zbV T.o.slice.arg) (by simp) (by have:=E.o;simp;omega));rw[show[txB t].flatten=txB t by simp] at r;clear s g;generalize vL (txB t)=X at*)|(clear C;go_at_call 46;refine r.o.mono ?_;rintro e w5 ⟨rfl,O⟩;have I:=J O;clear O;have p:=J (I.o.obj (z.o.obj (j.o.obj H.o id) id) id))|((with_reducible refine zv ?_);clear D;refine zi rfl (zK (ty:=41) (b:=w.heap.size+1) (off:=0) (cs:=zf X) rfl rfl rfl (by rw[f.o];exact zV p.o (Nat.le_of_eq Jh.symm)) (by rw[f.o];exact yp) zS) ?_));go_frame)
  refine bodyPost_ret (yk (P:=prog) (fn:=Tryz.f15) rfl _ rfl (yv p.o (by rw[f.o];exact Jh)) S R (by rw[f.o];exact yp) rfl) rfl ⟨by rw[q.o.1,q.o.2];rfl,?_⟩
  exact(((x.o.trans0 j.o).trans0 z.o).trans0 I.o).trans (zu _ _ _ _) (λi hi e=>by omega)
 ·have c:qE t=false:=by simpa using a
  have q:=@J (idE t=5∧idH t=yO) (⟨by simp[idE,c],by simp[idH,c]⟩)
  have d:=J c
  have f:=@J ((zf yO).length=32) (rfl)
  clear a c
  have⟨A,B,C,D⟩:=tZ4
  go_wp2_with ((first|((with_reducible refine zt ?_);first|(clear A;refine zn1 rfl rfl rfl R0.o rfl ?_;generalize (w.alloc (.cells #[.int .u32 t.ver,.slice k t.ins.length l,.slice m t.outs.length o] 34)).alloc (.cells (zf yO).toArray 41)=w2 at*)|(clear C;with_reducible refine yt 13 ?_;refine zg rfl (yf (t:=41) rfl rfl (Xg _)) ?_))|(clear B;go_at_call 45;refine M.o.mono ?_;rintro e u ⟨v,rfl,s,g⟩;rw[d.o] at g;have Y:v=.slice none 0 0:=g;subst Y;rw[d.o];have j:=J s;clear s g;have p:=J (j.o.obj H.o id))|((with_reducible refine zv ?_);clear D;refine zi rfl (zK (ty:=41) (b:=w.heap.size+1) (off:=0) (cs:=zf yO) rfl rfl rfl (by rw[f.o];exact zV p.o (Nat.le_of_eq Jh.symm)) (by rw[f.o];exact yp) zS) ?_));go_frame)
  refine bodyPost_ret (yk (P:=prog) (fn:=Tryz.f15) rfl _ rfl (yv p.o (by rw[f.o];exact Jh)) S R (by rw[f.o];exact yp) rfl) rfl ⟨by rw[q.o.1,q.o.2];rfl,?_⟩
  exact(x.o.trans0 j.o).trans (zu _ _ _ _) (λi hi e=>by omega)
def ZJ (id:zd) (l:List yE):List zr:=l.mapIdx λi x=>⟨⟨id,(i:Int)⟩,x⟩
theorem Ja (id:zd) (l:List yE):(ZJ id l).length=l.length:=by simp[ZJ]
theorem Vs (id:zd) {l:List yE} {i:Nat} {x:yE} (h:l[i]? =some x):(ZJ id l)[i]? =some ⟨⟨id,(i:Int)⟩,x⟩:=by simp[ZJ,h]
theorem Vt {id:zd} {l:List yE} (hi:zX id) (e:∀x∈l,x.ok) (g:l.length≤4294967296):∀c∈ZJ id l,c.ok:=by
 intro c d
 obtain⟨i,a⟩:=List.mem_iff_getElem?.1 d
 have b:i<l.length:=by have:=(List.getElem?_eq_some_iff.1 a).1;rwa [Ja] at this
 have f:l[i]? =some l[i]:=getElem?_eq_getElem b
 rw[Vs id f] at a
 cases a
 exact⟨⟨hi,by show(0:Int)≤(i:Int);omega,by show(i:Int)≤_;omega⟩,e _ (List.getElem_mem b)⟩
theorem ze8:xI prog 95=some (33,[(0,32),(32,1)]):=by kernel_rfl
theorem zgR {h:zd} (c:zX h) (n:Int):Jw (([(0,32),(32,1)]:List (Nat×Nat)).toArray[·]?) 0 [(0,.agg (zf h).toArray),(1,.int .u32 n)]:=by
 have a:(Value.agg (zf h).toArray).cells.size=32:=by show(zf h).toArray.size=32;simpa using zx c
 have b:(Value.int .u32 n).cells.size=1:=rfl
 simp only[Jw,a,b]
 exact⟨rfl,rfl,trivial⟩
theorem ze7 (h:zd) (n:Int):xG [(0,.agg (zf h).toArray),(1,.int .u32 n)]=zn ⟨h,n⟩:=by
 have a:(Value.agg (zf h).toArray).cells.toList=zf h:=by show(zf h).toArray.toList=_;simp
 have b:(Value.int .u32 n).cells.toList=[.int .u32 n]:=rfl
 simp only[xG,List.flatMap_cons,List.flatMap_nil,a,b,zn,List.append_nil]
 rfl
theorem zbW:xI prog 214=some (66,[(0,33),(33,33)]):=by kernel_rfl
theorem zdz {p:zF} {o:yE} (c:p.ok) (b:o.ok):Jw (([(0,33),(33,33)]:List (Nat×Nat)).toArray[·]?) 0 [(0,.agg (zn p).toArray),(1,.agg (zJ o).toArray)]:=by
 have h:(Value.agg (zn p).toArray).cells.size=33:=by show(zn p).toArray.size=33;simpa using zY c
 have a:(Value.agg (zJ o).toArray).cells.size=33:=by show(zJ o).toArray.size=33;simpa using yr b
 simp only[Jw,h,a]
 exact⟨rfl,rfl,trivial⟩
theorem zbS (p:zF) (o:yE):xG [(0,.agg (zn p).toArray),(1,.agg (zJ o).toArray)]=yT ⟨p,o⟩:=by
 have h:(Value.agg (zn p).toArray).cells.toList=zn p:=by show(zn p).toArray.toList=_;simp
 have a:(Value.agg (zJ o).toArray).cells.toList=zJ o:=by show(zJ o).toArray.toList=_;simp
 simp[xG,yT,h,a]
theorem zag {α:Type} (f:α→List Value) {k:Nat} {A:List α} {xs:List Value} {n:Nat} {y:α} (e:A[n]? =some y) (b:(f y).length=k) (d:xs.take (n*k)=(A.take n).flatMap f) (c:n*k+k≤xs.length):
  (setM xs (n*k) (f y)).take ((n+1)*k)=(A.take (n+1)).flatMap f:=by
 have a:=VD xs (f y) (n*k) (by rw[b];exact c)
 rw[b] at a
 rw[show(n+1)*k=n*k+k by rw[Nat.add_mul,Nat.one_mul],a,d,take_add_one,e]
 simp
theorem Vu (w:World) {id:zd} (hi:zX id) {v:Value} {l:List yE} (W:xy w v l) (hN:l.length≤1000):
  Calls prog 70 #[.agg (zf id).toArray,v] w λe w'=>∃v',e=.returned v'∧w'.ownsRow w.heap.size 214 66 v' l.length ((ZJ id l).flatMap yT)∧Fr No w w':=by
 obtain⟨iK,D,hz,a,B⟩:=info_parts zam
 have zo:=xm
 have F1:=(frN w).alloc (.cells (zf id).toArray 41)
 have H:(w.alloc (.cells (zf id).toArray 41)).heap.size=w.heap.size+1:=by simp
 obtain⟨w2,F,d,C⟩:=run_makeSlice_full (P:=prog) (w:=w.alloc (.cells (zf id).toArray 41)) (w.heap.size) 145 214 iK _ 66 VP D hz a .i64 .i64 l.length (by omega) (by rw[B];omega) (by unfold maxLen;omega) (by simp)
 have m:Fr No (w.alloc (.cells (zf id).toArray 41)) w2:=Fr.of_grown C (λk e=>by cases e)
 have F2:=J (F1.trans0 m)
 have O:=J (m.obj (ye w (.cells (zf id).toArray 41)) _root_.id)
 rw[H] at F d
 have r:=J d
 have HL:=J W
 have y:=J hi
 have Q:=J (zx hi)
 obtain⟨va,vc,rfl⟩:=W.2.form
 have z:=@J (w.heap.size+1<w2.heap.size) ((d.lt _ rfl).2)
 clear hi W D hz a B d C m H
 go_enter Tryz.func70,Tryz.ntmps70
 go_wp2_with fail
 clear F
 obtain⟨g,o⟩:∃g,g=w.heap.size+1:=⟨_,rfl⟩
 have Z:=J o
 rw[←o] at r z⊢
 clear o
 go_loopw [13] (λY wr=>∃(n:Nat) (xs:List Value),Y=.int .i64 n∧n≤l.length∧wr.ownsRow (w.heap.size) 214 66 (.slice (some ⟨g,0,none⟩) l.length l.length) l.length xs∧xs.take (n*66)=((ZJ id l).take n).flatMap yT∧Fr No w wr∧g<wr.heap.size∧wr.heap[w.heap.size]? =some (.cells (zf id).toArray 41 (0,0))) (λY _=>l.length-(intOf Y).toNat)
 case atStart=>exact⟨0,_,rfl,zero_le _,r.o,by simp,F2.o,z.o,O.o⟩
 case round=>
  obtain⟨n,xs,rfl,hn,G,I,fr,a,A⟩:=hrel
  have N:=J fr
  have c:=J G
  have u:=J I
  have S:=J a
  have q:=J A
  clear fr G I a A
  by_cases E:n<l.length
  ·have i1:(n:Int)<(l.length:Int):=by omega
   obtain⟨x,L⟩:∃x,l[n]? =some x:=⟨_,getElem?_eq_getElem E⟩
   obtain⟨b,off,aa,hv,hr,-⟩:=(HL.o.keep N.o).at_ L
   cases hv
   have j:=J (HL.o.1 x (mem_of_getElem? L))
   have U:=J (yr j.o)
   have R1:=J hr
   have f:=@J ((⟨id,(n:Int)⟩:zF).ok) (⟨y.o,by show(0:Int)≤(n:Int);omega,by show(n:Int)≤_;omega⟩)
   have HX:=J (Vs id L)
   have p:=@J ((yT ⟨⟨id,(n:Int)⟩,x⟩).length=66) (jP ⟨f.o,j.o⟩)
   have PL:=J (zY f.o)
   have V:(n:Int) % 4294967296=(n:Int):=by omega
   have K:=(frN wr).alloc (.cells (zJ x).toArray 103)
   have M:=J K
   have RO:=J (zy wr (zJ x) 103)
   have RH:=@J ((wr.alloc (.cells (zJ x).toArray 103)).rangeAt (w.heap.size) 0 (zf id)) (za (zq q.o) K (λh=>h))
   have s:=J (zb c.o K (λ_ _=>_root_.id))
   have TH:=J (Js s.o E)
   have R:=J (qY s.o (n*66) (cs:=yT ⟨⟨id,(n:Int)⟩,x⟩) (by rw[p.o];omega))
   have T:=J (zag yT HX.o p.o u.o (by rw[c.o.1];omega))
   clear hr L K
   have⟨K0,K1,K2,K3,K4,K5,K6⟩:=tZ7
   go_wp2_with ((first|((with_reducible refine zt ?_);first|(clear K0;refine zn2 rfl rfl rfl R1.o U.o ?_)|(clear K2;refine zn3 rfl rfl rfl RH.o Q.o ?_)|(clear K3;refine zg rfl (yP (t:=95) (vs:=[(0,.agg (zf id).toArray),(1,.int .u32 n)]) rfl (by simp[Act.eval,V]) ze8 (zgR y.o n) (ze7 id n) (by rw[PL.o])) ?_)|(clear K4;refine zn2 rfl rfl rfl RO.o U.o ?_)|(clear K5;refine zg rfl (yP (t:=214) (vs:=[(0,.agg (zn ⟨id,(n:Int)⟩).toArray),(1,.agg (zJ x).toArray)]) rfl rfl zbW (zdz f.o j.o) (zbS _ _) (by rw[p.o])) ?_))|((with_reducible refine zv ?_);first|(clear K1;refine zoa (w:=wr) (cs:=zJ x) rfl rfl rfl rfl U.o yc ?_;generalize wr.alloc (.cells (zJ x).toArray 103)=wA at*)|(clear K6;refine zi rfl (zK (ty:=214) (b:=g) (off:=n*66) (cs:=yT ⟨⟨id,(n:Int)⟩,x⟩) rfl rfl rfl (by rw[p.o];exact TH.o) (by rw[p.o];exact JX) Zo) ?_)));go_frame)
   go_roundw
   case rel=>exact⟨n+1,_,by go_num,by omega,R.o,T.o,(N.o.trans0 M.o).trans (zu _ _ _ _) (λi hi e=>by have:=Z.o;omega),by have:=(zu g (yT ⟨⟨id,(n:Int)⟩,x⟩) (n*66) wA).size;have:=M.o.size;have:=S.o;omega,(zu g (yT ⟨⟨id,(n:Int)⟩,x⟩) (n*66) wA).obj (M.o.obj q.o _root_.id) (λe=>by have:=Z.o;omega)⟩
   case measure=>simp[intOf];omega
  ·have X:n=l.length:=by omega
   have i1:¬(n:Int)<(l.length:Int):=by omega
   have HE:=@J (xs=(ZJ id l).flatMap yT) (by
    have:=u.o
    rw[X,take_of_length_le (by rw[c.o.1];exact le_refl _),take_of_length_le (by rw[Ja];exact le_refl _)] at this
    exact this)
   go_wp2
   go_ret
   exact⟨_,rfl,by rw[←HE.o];exact c.o,N.o⟩
def zW (t:TxD):List zF:=t.ins.map (·.from_)
theorem vY (w:World) {t:TxD} {cs:List Value} (ht:TxQ w t cs) (hN:t.ins.length≤1000):
  Calls prog 33 #[.agg cs.toArray] w λe w'=>∃Z,e=.returned Z∧w'.ownsRow w.heap.size 95 33 Z t.ins.length ((zW t).flatMap zn)∧Fr No w w':=by
 obtain⟨l,m,o,p,rfl,-,hi,-⟩:=ht
 obtain⟨iK,A,Y,a,y⟩:=info_parts QC
 have zI:=Zn
 have F1:=(frN w).alloc (.cells #[.int .u32 t.ver,.slice l t.ins.length m,.slice o t.outs.length p] 34)
 have F:(w.alloc (.cells #[.int .u32 t.ver,.slice l t.ins.length m,.slice o t.outs.length p] 34)).heap.size=w.heap.size+1:=by simp
 obtain⟨w2,D,d,z⟩:=run_makeSlice_full (P:=prog) (w:=w.alloc (.cells #[.int .u32 t.ver,.slice l t.ins.length m,.slice o t.outs.length p] 34)) (w.heap.size) 91 95 iK _ 33 YC A Y a .i64 .i64 t.ins.length (by omega) (by rw[y];omega) (by unfold maxLen;omega) (by simp)
 have h:Fr No (w.alloc (.cells #[.int .u32 t.ver,.slice l t.ins.length m,.slice o t.outs.length p] 34)) w2:=Fr.of_grown z (λk e=>by cases e)
 have F2:=J (F1.trans0 h)
 obtain⟨c0,c1,-,-⟩:=qN w t.ver (.slice l t.ins.length m) (.slice o t.outs.length p)
 have Q:=h.cell c1 _root_.id
 rw[F] at D d
 have r:=J d
 have HI:=J hi
 have v:=@J (w.heap.size+1<w2.heap.size) ((d.lt _ rfl).2)
 clear hi A Y a y d z h F
 show Calls prog 33 #[.agg #[.int .u32 t.ver,.slice l t.ins.length m,.slice o t.outs.length p]] w _
 go_enter Tryz.func33,Tryz.ntmps33
 go_wp2_with fail
 clear D c0 c1 Q
 obtain⟨g,j⟩:∃g,g=w.heap.size+1:=⟨_,rfl⟩
 have G0:=J j
 rw[←j] at r v⊢
 clear j
 go_loopw [13] (λU wr=>∃(n:Nat) (xs:List Value),U=.int .i64 n∧n≤t.ins.length∧wr.ownsRow (w.heap.size) 95 33 (.slice (some ⟨g,0,none⟩) t.ins.length t.ins.length) t.ins.length xs∧xs.take (n*33)=((zW t).take n).flatMap zn∧Fr No w wr∧g<wr.heap.size) (λU _=>t.ins.length-(intOf U).toNat)
 case atStart=>exact⟨0,_,rfl,zero_le _,r.o,by simp,F2.o,v.o⟩
 case round=>
  obtain⟨n,xs,rfl,hn,E,G,fr,a⟩:=hrel
  have K:=J fr
  have c:=J E
  have u:=J G
  have M:=J a
  clear fr E G a
  by_cases C:n<t.ins.length
  ·have i1:(n:Int)<(t.ins.length:Int):=by omega
   obtain⟨x,T⟩:∃x,t.ins[n]? =some x:=⟨_,getElem?_eq_getElem C⟩
   obtain⟨b,off,aa,cs,hv,X,H,I,rfl,f,B⟩:=(HI.o.keep0 K.o).at_ T
   cases hv
   have R1:=J X
   have O:=J f
   have W:=J (vo f (.slice H x.key.length I))
   have HX:=@J ((zW t)[n]? =some x.from_) (by simp[zW,T])
   have q:=J (zY O.o)
   have R:=(frN wr).alloc (.cells (inC x.from_ (.slice H x.key.length I)).toArray 108)
   have V:=J R
   have RP:=J (YN wr (kv:=.slice H x.key.length I) f).1
   have s:=J (zb c.o R (λ_ _=>_root_.id))
   have TH:=J (Js s.o C)
   have L:=J (qY s.o (n*33) (cs:=zn x.from_) (by rw[q.o];omega))
   have N:=J (zag zn HX.o q.o u.o (by rw[c.o.1];omega))
   clear X T R B f
   have⟨K0,K1,K2,K3⟩:=tZ4
   go_wp2_with ((first|((with_reducible refine zt ?_);first|(clear K0;refine zn0 rfl rfl rfl R1.o W.o ?_)|(clear K2;refine zn4 rfl rfl rfl RP.o q.o ?_))|((with_reducible refine zv ?_);first|(clear K1;refine zn9 (w:=wr) (cs:=inC x.from_ (.slice H x.key.length I)) rfl rfl rfl rfl W.o jQ ?_;generalize wr.alloc (.cells (inC x.from_ (.slice H x.key.length I)).toArray 108)=wA at*)|(clear K3;refine zi rfl (zK (ty:=95) (b:=g) (off:=n*33) (cs:=zn x.from_) rfl rfl rfl (by rw[q.o];exact TH.o) (by rw[q.o];exact xL) yI) ?_)));go_frame)
   go_roundw
   case rel=>exact⟨n+1,_,by go_num,by omega,L.o,N.o,(K.o.trans0 V.o).trans (zu _ _ _ _) (λi hi e=>by have:=G0.o;omega),by have:=(zu g (zn x.from_) (n*33) wA).size;have:=V.o.size;have:=M.o;omega⟩
   case measure=>simp[intOf];omega
  ·have S:n=t.ins.length:=by omega
   have i1:¬(n:Int)<(t.ins.length:Int):=by omega
   have HE:=@J (xs=(zW t).flatMap zn) (by
    have:=u.o
    rw[S,take_of_length_le (by rw[c.o.1];exact le_refl _),take_of_length_le (by simp[zW])] at this
    exact this)
   go_wp2
   go_ret
   exact⟨_,rfl,by rw[←HE.o];exact c.o,K.o⟩
def zdk (w:World) (t:TxD) (e:Ending) (w':World):Prop:=∃v,e=.returned (.tuple #[v,.int .i64 (idE t)])∧Fr No w w'∧(if qE t=true then w'.ownsRow w.heap.size 214 66 v t.outs.length ((ZJ (idH t) t.outs).flatMap yT) else v=.slice none 0 0)
theorem zhw {w:World} (hg:vj w) {t:TxD} {cs:List Value} (ht:TxQ w t cs):
  Calls prog 165 #[.agg cs.toArray] w (zdk w t):=by
 have HT:=J ht
 have oks:=ht.oks
 obtain⟨B,C,D,E,rfl,hv,-,ho⟩:=ht
 have zo:=xm
 have zH:=yR
 have G:=J ((frN w).alloc (.cells #[.int .u32 t.ver,.slice B t.ins.length C,.slice D t.outs.length E] 34))
 have N:=@J ((w.alloc (.cells #[.int .u32 t.ver,.slice B t.ins.length C,.slice D t.outs.length E] 34)).heap.size=w.heap.size+1) (by simp)
 obtain⟨c0,c1,c2,r0⟩:=qN w t.ver (.slice B t.ins.length C) (.slice D t.outs.length E)
 have R0:=J r0
 have C2:=J c2
 have K:=J (Qz (hg.keep0 G.o) (HT.o.keep G.o))
 have m:=J (zx (vG t))
 have Q:=J (vG t)
 have L:=J ho
 clear ho hv c0 c1 c2 r0
 show Calls prog 165 #[.agg #[.int .u32 t.ver,.slice B t.ins.length C,.slice D t.outs.length E]] w _
 by_cases hfm:qE t=true
 rotate_left
 ·have c:qE t=false:=by simpa using hfm
  have u:idE t=5:=by simp[idE,c]
  have HP:=@J (∀w',Fr No w w'→zdk w t (.returned (.tuple #[.slice none 0 0,.int .i64 5])) w') (λw' f=>⟨.slice none 0 0,by rw[u],f,by rw[c];rfl⟩)
  rw[u] at K
  clear hfm c u
  generalize idH t=id at*
  go_enter Tryz.func165,Tryz.ntmps165
  have⟨R,S,T⟩:=tZ3
  go_wp2_with ((first|((with_reducible refine zt ?_);clear R;refine zn1 rfl rfl rfl R0.o rfl ?_;generalize w.alloc (.cells #[.int .u32 t.ver,.slice B t.ins.length C,.slice D t.outs.length E] 34)=w1 at*)|(clear S;go_at_call 15;refine K.o.mono ?_;rintro e a ⟨rfl,r⟩;have A:=J (G.o.trans0 r);clear r;have H:=@J (Fr No a (a.alloc (.cells (zf id).toArray 41))) ((frN a).alloc _))|((with_reducible refine zv ?_);clear T;refine zob (w:=a) (cs:=zf id) rfl rfl rfl rfl m.o zS ?_));go_frame)
  go_ret2
  exact HP.o _ (A.o.trans0 H.o)
 ·have u:idE t=0:=by simp[idE,hfm]
  have av:t.outs.length≤8:=(y5.1 hfm).2.2
  obtain⟨l,hl⟩:∃l,l=t.outs:=⟨_,rfl⟩
  have HP:=@J (∀v w',Fr No w w'→w'.ownsRow w.heap.size 214 66 v l.length ((ZJ (idH t) l).flatMap yT)→zdk w t (.returned (.tuple #[v,.int .i64 0])) w') (λv w' f h=>⟨v,by rw[u],f,by rw[if_pos hfm,←hl];exact h⟩)
  rw[u] at K
  rw[←hl] at av R0 C2 K L G N⊢
  clear hl
  clear hfm u
  generalize idH t=id at*
  go_enter Tryz.func165,Tryz.ntmps165
  have HL:=J L.o
  obtain⟨iK,X,hz,d,V⟩:=info_parts zam
  have MK:=J (λ(w3:World)=>run_makeSlice_full (P:=prog) (w:=w3) w3.heap.size 145 214 iK _ 66 VP X hz d .i64 .i64 l.length (by omega) (by rw[V];omega) (by unfold maxLen;omega) (le_refl _))
  clear X hz d V
  have⟨R,S,T⟩:=tZ3
  go_wp2_with ((first|((with_reducible refine zt ?_);clear R;refine zn1 rfl rfl rfl R0.o rfl ?_;generalize w.alloc (.cells #[.int .u32 t.ver,.slice B t.ins.length C,.slice D l.length E] 34)=w1 at*)|(clear S;go_at_call 15;refine K.o.mono ?_;rintro e a ⟨rfl,r⟩;have A:=J (G.o.trans0 r);have aj:=J r.size;have ad:=J (r.cell C2.o _root_.id);clear r)|((with_reducible refine zv ?_);clear T;refine zob (w:=a) (cs:=zf id) rfl rfl rfl rfl m.o zS ?_;have H:=@J (Fr No a (a.alloc (.cells (zf id).toArray 41))) ((frN a).alloc _);have af:=J (ye a (.cells (zf id).toArray 41));have ak:=@J ((a.alloc (.cells (zf id).toArray 41)).heap.size=a.heap.size+1) (by simp);generalize a.alloc (.cells (zf id).toArray 41)=w3 at*;generalize a.heap.size=q3 at*;obtain⟨w4,Z,z,W⟩:=MK.o w3;have s:Fr No w3 w4:=Fr.of_grown W (λk e=>by cases e);have F4:=J s;rw[ak.o] at Z z;have o:=J z;have c2:=H.o.cell ad.o _root_.id;have aq:=s.cell c2 _root_.id;clear W z s));go_frame)
  clear Z c2 aq
  obtain⟨g,y⟩:∃g,g=q3+1:=⟨_,rfl⟩
  have G0:=@J (g=q3+1∧w.heap.size+1≤q3) (⟨y,by have:=N.o;have:=aj.o;omega⟩)
  rw[←y] at o⊢
  have ao:=@J (g<w4.heap.size) ((o.o.lt _ rfl).2)
  have ah:=J (xj o.o (show w.heap.size≤g by have:=G0.o;omega))
  have ae:=J (F4.o.obj af.o _root_.id)
  have FF:=J ((A.o.trans0 H.o).trans0 F4.o)
  clear y A H F4
  have A:=J FF.o
  go_loopw [24] (λiv wr=>∃(n:Nat) (xs:List Value),iv=.int .i64 n∧n≤l.length∧wr.ownsRow (w.heap.size) 214 66 (.slice (some ⟨g,0,none⟩) l.length l.length) l.length xs∧xs.take (n*66)=((ZJ id l).take n).flatMap yT∧Fr No w wr∧g<wr.heap.size∧wr.heap[q3]? =some (.cells (zf id).toArray 41 (0,0))) (λiv _=>l.length-(intOf iv).toNat)
  case atStart=>exact⟨0,_,rfl,zero_le _,ah.o,by simp,A.o,ao.o,ae.o⟩
  case round=>
   obtain⟨n,xs,rfl,hn,aa,ab,fr,d,U⟩:=hrel
   have FR:=J fr
   have j:=J aa
   have O:=J ab
   have al:=J d
   have I:=J U
   clear fr aa ab d U
   by_cases Y:n<l.length
   ·have i1:(n:Int)<(l.length:Int):=by omega
    obtain⟨x,hx⟩:∃x,l[n]? =some x:=⟨_,getElem?_eq_getElem Y⟩
    obtain⟨b,off,aw,hv,hr,-⟩:=(HL.o.keep FR.o).at_ hx
    cases hv
    have q:=J (HL.o.1 x (mem_of_getElem? hx))
    have IL:=J (yr q.o)
    have R1:=J hr
    have p:=@J ((⟨id,(n:Int)⟩:zF).ok) (⟨Q.o,by show(0:Int)≤(n:Int);omega,by show(n:Int)≤_;omega⟩)
    have HX:=J (Vs id hx)
    have F:=@J ((yT ⟨⟨id,(n:Int)⟩,x⟩).length=66) (jP ⟨p.o,q.o⟩)
    have PL:=J (zY p.o)
    have ar:(n:Int) % 4294967296=(n:Int):=by omega
    have fA:=(frN wr).alloc (.cells (zJ x).toArray 103)
    have FA:=J fA
    have RO:=J (zy wr (zJ x) 103)
    have RH:=@J ((wr.alloc (.cells (zJ x).toArray 103)).rangeAt (q3) 0 (zf id)) (za (zq I.o) fA (λh=>h))
    have M:=J (zb j.o fA (λ_ _=>_root_.id))
    have TH:=J (Js M.o Y)
    have ai:=J (qY M.o (n*66) (cs:=yT ⟨⟨id,(n:Int)⟩,x⟩) (by rw[F.o];omega))
    have an:=J (zag yT HX.o F.o O.o (by rw[j.o.1];omega))
    clear hr hx fA
    have⟨R,S,T,K3,K4,K5,K6⟩:=tZ7
    go_wp2_with ((first|((with_reducible refine zt ?_);first|(clear R;refine zn2 rfl rfl rfl R1.o IL.o ?_)|(clear T;refine zn3 rfl rfl rfl RH.o m.o ?_)|(clear K3;refine zg rfl (yP (t:=95) (vs:=[(0,.agg (zf id).toArray),(1,.int .u32 n)]) rfl (by simp[Act.eval,ar]) ze8 (zgR Q.o n) (ze7 id n) (by rw[PL.o])) ?_)|(clear K4;refine zn2 rfl rfl rfl RO.o IL.o ?_)|(clear K5;refine zg rfl (yP (t:=214) (vs:=[(0,.agg (zn ⟨id,(n:Int)⟩).toArray),(1,.agg (zJ x).toArray)]) rfl rfl zbW (zdz p.o q.o) (zbS _ _) (by rw[F.o])) ?_))|((with_reducible refine zv ?_);first|(clear S;refine zoa (w:=wr) (cs:=zJ x) rfl rfl rfl rfl IL.o yc ?_;generalize wr.alloc (.cells (zJ x).toArray 103)=wA at*)|(clear K6;refine zi rfl (zK (ty:=214) (b:=g) (off:=n*66) (cs:=yT ⟨⟨id,(n:Int)⟩,x⟩) rfl rfl rfl (by rw[F.o];exact TH.o) (by rw[F.o];exact JX) Zo) ?_)));go_frame)
    go_roundw
    case rel=>exact⟨n+1,_,by go_num,by omega,ai.o,an.o,(FR.o.trans0 FA.o).trans (zu _ _ _ _) (λi hi e=>by have:=G0.o;omega),by have:=(zu g (yT ⟨⟨id,(n:Int)⟩,x⟩) (n*66) wA).size;have:=FA.o.size;have:=al.o;omega,(zu g (yT ⟨⟨id,(n:Int)⟩,x⟩) (n*66) wA).obj (FA.o.obj I.o _root_.id) (λe=>by have:=G0.o;omega)⟩
    case measure=>simp[intOf];omega
   ·have au:n=l.length:=by omega
    have i1:¬(n:Int)<(l.length:Int):=by omega
    have HE:=@J (xs=(ZJ id l).flatMap yT) (by
     have:=O.o
     rw[au,take_of_length_le (by rw[j.o.1];exact le_refl _),take_of_length_le (by rw[Ja];exact le_refl _)] at this
     exact this)
    have ag:=J (HP.o _ wr FR.o (by rw[←HE.o];exact j.o))
    go_wp2
    go_ret2
    exact ag.o
def Yk (x:Int) (n:Nat):List Int:=(leB 8 x).take n++List.replicate (8-n) 0
theorem zjU {w:World} {B g n:Nat} {T:TypeId} {xs:List Value} (h:w.ownsRow B T 1 (.slice (some ⟨g,0,none⟩) n n) n xs):w.heap[g]? =some (.cells xs.toArray T (0,0)):=by
 rcases h.2 with⟨e,_⟩|⟨i,b,c,e,j,d,k,l,f,a⟩
 ·cases e
 ·injection e with e1 e2 e3
  injection e1 with e1
  injection e1 with e1
  subst e1
  subst e3
  rw[take_of_length_le (by rw[Array.length_toList,f];exact le_refl _)] at a
  rw[d,←a]
theorem znL (x:Int):(madeCells (Value.int .u8 0).cells (8*1)).toList=(Yk x 0).map zM:=by
 have a:Yk x 0=List.replicate 8 0:=by simp[Yk]
 have b:(madeCells (Value.int .u8 0).cells (8*1)).toList=(List.replicate 8 (0:Int)).map zM:=by kernel_rfl
 rw[a,b]
theorem zju {w:World} {B g:Nat} {l:List Int} (h:w.heap[g]? =some (.cells (l.map zM).toArray 5 (0,0))) (a:B≤g) (b:l.length≤1000000):qJ w B (.slice (some ⟨g,0,none⟩) l.length l.length) l:=
 ⟨by simp,.inr ⟨g,l.length,(l.map zM).toArray,rfl,a,h,le_refl _,by unfold maxLen;omega,by simp,by rw[take_of_length_le (by simp)]⟩⟩
theorem zm6 (w:World):Calls prog 164 #[.int .i64 8] w λe w'=>e=.returned (.bool true)∧w'=w:=by
 go_enter Tryz.func164,Tryz.ntmps164
 go_wp2
 go_ret
 exact⟨rfl,rfl⟩
theorem zfc (w:World) {x:Int} (y:0≤x∧x≤18446744073709551615):
  Calls prog 133 #[.int .u64 x,.int .i64 8] w λe w'=>e=.returned (.tuple #[.slice (some ⟨w.heap.size,0,none⟩) 8 8,.int .i64 0])∧qJ w' w.heap.size (.slice (some ⟨w.heap.size,0,none⟩) 8 8) (leB 8 x)∧Fr No w w':=by
 obtain⟨K,m,C,r,j⟩:=info_parts XM
 obtain⟨A,o,q,l⟩:=run_makeSlice_full (P:=prog) (w:=w) w.heap.size 106 5 K _ 1 Xv m C r .i64 .i64 8 (by omega) (by rw[j];omega) (by unfold maxLen;omega) (le_refl _)
 have D:=@J (Fr No w A) (Fr.of_grown l (λk e=>by cases e))
 have E:=@J (A.heap[w.heap.size]? =some (.cells ((Yk x 0).map zM).toArray 5 (0,0))) (znL x▸zjU q)
 have p:(Instr.makeSlice 106 (.int .i64 8) (.int .i64 8)).run prog w=.ok (.slice (some ⟨w.heap.size,0,none⟩) 8 8) A:=o
 have O:=y.1
 have Q:=y.2
 clear m C r j q l y
 go_enter Tryz.func133,Tryz.ntmps133
 go_wp2_with (go_at_call 164;refine(zm6 _).mono ?_;rintro e N ⟨rfl,G⟩;rw[G])
 clear o p
 generalize I:w.heap.size=g at*
 go_loopw [25] (λz wr=>∃(n:Nat),z=.int .i64 n∧n≤8∧wr.heap[g]? =some (.cells ((Yk x n).map zM).toArray 5 (0,0))∧Fr No w wr) (λz _=>8-(intOf z).toNat)
 case atStart=>exact⟨0,rfl,by omega,E.o,D.o⟩
 case round=>
  obtain⟨n,rfl,M,t,fr⟩:=hrel
  have B:=J fr
  have s:=J t
  have L:=λi=>yl (i:=i) t
  clear fr t
  by_cases hlt:n<8
  ·have f:=J (λv=>show Fr No w (wr.setCell ⟨g,n,none⟩ v) from B.o.setCell _ (.inl (by show w.heap.size≤g;omega)) _)
   have h:=J (λv=>heap_setCell_same wr g n _ _ v s.o)
   have a:=zq s.o
   have H:n=0∨n=1∨n=2∨n=3∨n=4∨n=5∨n=6∨n=7:=by omega
   rcases H with rfl|rfl|rfl|rfl|rfl|rfl|rfl|rfl
   ·have c:=a 0 (.int .u8 0) rfl
    simp only[zero_add] at c
    clear a
    have b:=@J (∀v:Int,v=x % 256→some (Obj.cells (((Yk x 0).map zM).toArray.setIfInBounds 0 (.int .u8 v)) 5 (0,0))=some (Obj.cells ((Yk x 1).map zM).toArray 5 (0,0))) (λv e=>by
     have d:v=x % 256:=by omega
     subst d
     rfl)
    go_wp2
    go_roundw
    case rel=>exact⟨1,rfl,by omega,(h.o _).trans (b.o _ (by omega)),f.o _⟩
    case measure=>simp[intOf]
   ·have c:=a 1 (.int .u8 0) rfl
    simp only[zero_add] at c
    clear a
    have b:=@J (∀v:Int,v=x / 256 % 256→some (Obj.cells (((Yk x 1).map zM).toArray.setIfInBounds 1 (.int .u8 v)) 5 (0,0))=some (Obj.cells ((Yk x 2).map zM).toArray 5 (0,0))) (λv e=>by
     have d:v=(x / 256) % 256:=by omega
     subst d
     rfl)
    go_wp2
    go_roundw
    case rel=>exact⟨2,rfl,by omega,(h.o _).trans (b.o _ (by omega)),f.o _⟩
    case measure=>simp[intOf]
   ·have c:=a 2 (.int .u8 0) rfl
    simp only[zero_add] at c
    clear a
    have b:=@J (∀v:Int,v=x / 65536 % 256→some (Obj.cells (((Yk x 2).map zM).toArray.setIfInBounds 2 (.int .u8 v)) 5 (0,0))=some (Obj.cells ((Yk x 3).map zM).toArray 5 (0,0))) (λv e=>by
     have d:v=((x / 256) / 256) % 256:=by omega
     subst d
     rfl)
    go_wp2
    go_roundw
    case rel=>exact⟨3,rfl,by omega,(h.o _).trans (b.o _ (by omega)),f.o _⟩
    case measure=>simp[intOf]
   ·have c:=a 3 (.int .u8 0) rfl
    simp only[zero_add] at c
    clear a
    have b:=@J (∀v:Int,v=x / 16777216 % 256→some (Obj.cells (((Yk x 3).map zM).toArray.setIfInBounds 3 (.int .u8 v)) 5 (0,0))=some (Obj.cells ((Yk x 4).map zM).toArray 5 (0,0))) (λv e=>by
     have d:v=(((x / 256) / 256) / 256) % 256:=by omega
     subst d
     rfl)
    go_wp2
    go_roundw
    case rel=>exact⟨4,rfl,by omega,(h.o _).trans (b.o _ (by omega)),f.o _⟩
    case measure=>simp[intOf]
   ·have c:=a 4 (.int .u8 0) rfl
    simp only[zero_add] at c
    clear a
    have b:=@J (∀v:Int,v=x / 4294967296 % 256→some (Obj.cells (((Yk x 4).map zM).toArray.setIfInBounds 4 (.int .u8 v)) 5 (0,0))=some (Obj.cells ((Yk x 5).map zM).toArray 5 (0,0))) (λv e=>by
     have d:v=((((x / 256) / 256) / 256) / 256) % 256:=by omega
     subst d
     rfl)
    go_wp2
    go_roundw
    case rel=>exact⟨5,rfl,by omega,(h.o _).trans (b.o _ (by omega)),f.o _⟩
    case measure=>simp[intOf]
   ·have c:=a 5 (.int .u8 0) rfl
    simp only[zero_add] at c
    clear a
    have b:=@J (∀v:Int,v=x / 1099511627776 % 256→some (Obj.cells (((Yk x 5).map zM).toArray.setIfInBounds 5 (.int .u8 v)) 5 (0,0))=some (Obj.cells ((Yk x 6).map zM).toArray 5 (0,0))) (λv e=>by
     have d:v=(((((x / 256) / 256) / 256) / 256) / 256) % 256:=by omega
     subst d
     rfl)
    go_wp2
    go_roundw
    case rel=>exact⟨6,rfl,by omega,(h.o _).trans (b.o _ (by omega)),f.o _⟩
    case measure=>simp[intOf]
   ·have c:=a 6 (.int .u8 0) rfl
    simp only[zero_add] at c
    clear a
    have b:=@J (∀v:Int,v=x / 281474976710656 % 256→some (Obj.cells (((Yk x 6).map zM).toArray.setIfInBounds 6 (.int .u8 v)) 5 (0,0))=some (Obj.cells ((Yk x 7).map zM).toArray 5 (0,0))) (λv e=>by
     have d:v=((((((x / 256) / 256) / 256) / 256) / 256) / 256) % 256:=by omega
     subst d
     rfl)
    go_wp2
    go_roundw
    case rel=>exact⟨7,rfl,by omega,(h.o _).trans (b.o _ (by omega)),f.o _⟩
    case measure=>simp[intOf]
   ·have c:=a 7 (.int .u8 0) rfl
    simp only[zero_add] at c
    clear a
    have b:=@J (∀v:Int,v=x / 72057594037927936 % 256→some (Obj.cells (((Yk x 7).map zM).toArray.setIfInBounds 7 (.int .u8 v)) 5 (0,0))=some (Obj.cells ((Yk x 8).map zM).toArray 5 (0,0))) (λv e=>by
     have d:v=(((((((x / 256) / 256) / 256) / 256) / 256) / 256) / 256) % 256:=by omega
     subst d
     rfl)
    go_wp2
    go_roundw
    case rel=>exact⟨8,rfl,by omega,(h.o _).trans (b.o _ (by omega)),f.o _⟩
    case measure=>simp[intOf]
  ·have u:n=8:=by omega
   subst u
   have F:=@J (qJ wr g (.slice (some ⟨g,0,none⟩) 8 8) (leB 8 x)) (zju s.o (le_refl _) (by rw[vW];decide))
   go_wp2
   go_ret2
   subst I
   exact⟨rfl,F.o,B.o⟩
end Go.Proofs.YtdkkjchclkjleaaGreatDoor
