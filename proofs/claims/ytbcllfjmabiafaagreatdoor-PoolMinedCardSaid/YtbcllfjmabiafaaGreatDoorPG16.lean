/- pool: plain. -/
import Derived.Test.YtbcllfjmabiafaaGreatDoorPG13
import Derived.Test.YtbcllfjmabiafaaGreatDoorPG10
import Derived.Test.YtbcllfjmabiafaaGreatDoorPG2
import Derived.Test.YtbcllfjmabiafaaGreatDoorPG5
set_option linter.unusedVariables false
set_option linter.unusedSimpArgs false
set_option linter.unnecessarySimpa false
set_option linter.all false
set_option maxRecDepth 20000
set_option maxHeartbeats 16000000
namespace Go.Proofs.YtbcllfjmabiafaaGreatDoor
open Go Go.RowKit Go.Maps Go.MapKept
open Go.Proofs.Tryz(prog)
open List(mem_map mem_cons)
variable {cs:List Value}
structure zL where
 id:zf
 tx:TxD
 fee:Int
 size:Int
 added:Int
 ps:List zf
def gOf (L:List zL):List yL:=L.map λe=>⟨e.id,e.ps⟩
def zR (L:List zL):List zf:=L.map (·.id)
theorem yO (L:List zL):ids (gOf L)=zR L:=by simp[gOf,ids,zR,Function.comp_def]
theorem VT (L:List zL) (e:zL):gOf (L++[e])=gOf L++[⟨e.id,e.ps⟩]:=by simp[gOf]
def YV (L:List zL) (x:zf):Option zL:=L.find? λe=>decide (e.id=x)
theorem zh6 {L:List zL} {x:zf} {e:zL} (h:YV L x=some e):e∈L∧e.id=x:=by
 unfold YV at h
 exact⟨List.mem_of_find?_eq_some h,by simpa using List.find?_some h⟩
theorem zh5 {L:List zL} {x:zf}:YV L x=none↔x∉zR L:=by
 unfold YV zR
 rw[List.find?_eq_none]
 simp only[decide_eq_true_eq,mem_map,not_exists,not_and]
theorem ZJ:∀ {L:List zL},(zR L).Nodup→∀ {e:zL},e∈L→YV L e.id=some e
 |[],_,_,h=>by cases h
 |x::r,hn,e,h=>by
  obtain⟨a,b⟩:=List.nodup_cons.1 hn
  unfold YV
  rcases mem_cons.1 h with rfl|h
  ·simp
  ·have:x.id≠e.id:=λc=>a (by show x.id∈_;rw[c];exact mem_map.2 ⟨e,h,rfl⟩)
   rw[List.find?_cons_of_neg (by simpa using this)]
   exact ZJ b h
def yS (L:List zL) (q:zx):Option yC:=(YV L q.tx).bind λe=>e.tx.outs[q.n.toNat]?
def qN (L:List zL) (q:zx):Bool:=L.any λe=>decide (q∈z6 e.tx)
theorem vk {L:List zL} {q:zx}:qN L q=true↔∃e∈L,q∈z6 e.tx:=by simp[qN]
def xF (S:List zn) (L:List zL) (q:zx):Option yC:=if yV S q=true then some (zZ S q) else yS L q
def Jy (S:List zn) (L:List zL) (t:TxD):Int:=
 if(z6 t).any (qN L)=true then 14 else if(z6 t).all (λq=>(xF S L q).isSome)=true then 0 else 15
def xj (S:List zn) (L:List zL) (t:TxD):List yC:=(z6 t).map λq=>(xF S L q).getD xN
def xz (L:List zL) (t:TxD):List zf:=((z6 t).filter λq=>(yS L q).isSome).map (·.tx)
def vF (t:TxD):Int:=6+37*(t.ins.length:Int)+40*(t.outs.length:Int)+(t.ins.map λx=>(x.key.length:Int)).sum
def Jq (n:Int):Int:=(max n 0*100+999) / 1000
noncomputable def xX (S:List zn) (I:List zf) (L:List zL) (t:TxD):Int:=
 if idH t∈zR L then 10 else if idH t∈I then 19 else
 if Jy S L t≠0 then Jy S L t else if Jc t (xj S L t)≠0 then Jc t (xj S L t) else
 if Jp t (xj S L t)<Jq (vF t) then 17 else if 6≤(upS (gOf L) (xz L t)).length then 16 else 0
theorem XK {S:List zn} {I:List zf} {L:List zL} {t:TxD} (h:xX S I L t=0):
  idH t∉zR L∧idH t∉I∧Jy S L t=0∧Jc t (xj S L t)=0∧Jq (vF t)≤Jp t (xj S L t)∧(upS (gOf L) (xz L t)).length<6:=by
 unfold xX at h
 split at h; · cases h
 rename_i h1
 split at h; · cases h
 rename_i h2
 split at h
 ·rename_i h3;exact absurd h h3
 rename_i h3
 split at h
 ·rename_i h4;exact absurd h h4
 rename_i h4
 split at h; · cases h
 rename_i h5
 split at h; · cases h
 rename_i h6
 exact⟨h1,h2,by omega,by omega,by omega,by omega⟩
theorem V6 {S:List zn} {I:List zf} {L:List zL} {t:TxD} (a:idH t∉zR L) (b:idH t∉I) (c:Jy S L t=0) (d:Jc t (xj S L t)=0) (e:Jq (vF t)≤Jp t (xj S L t)) (f:(upS (gOf L) (xz L t)).length<6):xX S I L t=0:=by
 unfold xX
 rw[if_neg a,if_neg b,if_neg (by simp[c]),if_neg (by simp[d]),if_neg (by omega),if_neg (by omega)]
theorem zbd {S:List zn} {L:List zL} {t:TxD}:Jy S L t=0↔(∀q∈z6 t,qN L q=false)∧∀q∈z6 t,(xF S L q).isSome=true:=by
 unfold Jy
 by_cases h1:(z6 t).any (qN L)=true
 ·rw[if_pos h1]
  simp only[List.any_eq_true] at h1
  obtain⟨q,b,a⟩:=h1
  constructor
  ·intro h;cases h
  ·rintro⟨h,-⟩;rw[h q b] at a;cases a
 ·rw[if_neg h1]
  simp only[List.any_eq_true,not_exists,not_and,Bool.not_eq_true] at h1
  by_cases h2:(z6 t).all (λq=>(xF S L q).isSome)=true
  ·rw[if_pos h2]
   simp only[List.all_eq_true] at h2
   exact⟨λ_=>⟨h1,h2⟩,λ_=>rfl⟩
  ·rw[if_neg h2]
   simp only[List.all_eq_true] at h2
   constructor
   ·intro h;cases h
   ·intro h;exact absurd h.2 h2
def mkE (S:List zn) (L:List zL) (t:TxD) (now:Int):zL:=⟨idH t,t,Jp t (xj S L t),vF t,now,dedup (xz L t)⟩
def xb (L:List zL) (gone:List zf):List zL:=L.filter λe=>decide (e.id∉gone)
theorem jA {L:List zL} {gone:List zf} {e:zL}:e∈xb L gone↔e∈L∧e.id∉gone:=by simp[xb]
theorem Zr (L:List zL) (gone:List zf):zR (xb L gone)=(zR L).filter λy=>decide (y∉gone):=by
 unfold zR xb
 rw[List.filter_map]
 rfl
theorem zda (L:List zL) (gone:List zf):(xb L gone).length≤L.length:=List.length_filter_le _ _
theorem Zs (L:List zL):xb L []=L:=by unfold xb;rw[List.filter_eq_self];simp
theorem zgf (L:List zL) (e:zL) (gone:List zf):xb (L++[e]) gone=if e.id∈gone then xb L gone else xb L gone++[e]:=by
 unfold xb
 rw[List.filter_append]
 by_cases h:e.id∈gone
 ·simp[h]
 ·simp[h]
theorem zdb:∀(L:List zL) (gone:List zf) (x:zf),YV (xb L gone) x=if x∈gone then none else YV L x
 |[],gone,x=>by simp[YV,xb]
 |e::r,gone,x=>by
  have ih:=zdb r gone x
  unfold YV xb at*
  by_cases h:e.id∈gone
  ·rw[List.filter_cons_of_neg (by simpa using h),ih]
   by_cases hx:x∈gone
   ·rw[if_pos hx,if_pos hx]
   ·rw[if_neg hx,if_neg hx,List.find?_cons_of_neg (by simp;rintro rfl;exact hx h)]
  ·rw[List.filter_cons_of_pos (by simpa using h)]
   by_cases hx:e.id=x
   ·rw[List.find?_cons_of_pos (by simpa using hx),List.find?_cons_of_pos (by simpa using hx),if_neg (by rw[←hx];exact h)]
   ·rw[List.find?_cons_of_neg (by simpa using hx),List.find?_cons_of_neg (by simpa using hx),ih]
theorem zfC {L:List zL} {gone:List zf} {q:zx} (h:qN (xb L gone) q=true):qN L q=true:=by
 obtain⟨e,a,b⟩:=vk.1 h
 exact vk.2 ⟨e,(jA.1 a).1,b⟩
theorem JV {L:List zL} {q:zx} {o:yC} (h:yS L q=some o):∃e∈L,e.id=q.tx∧e.tx.outs[q.n.toNat]? =some o:=by
 unfold yS at h
 cases he:YV L q.tx with
 |none=>rw[he] at h;cases h
 |some e=>
  rw[he] at h
  obtain⟨a,b⟩:=zh6 he
  exact⟨e,a,b,h⟩
theorem XM {L:List zL} {t:TxD} {x:zf}:x∈xz L t↔∃q∈z6 t,(yS L q).isSome=true∧q.tx=x:=by
 unfold xz
 simp only[mem_map,List.mem_filter]
 exact⟨λ⟨q,⟨a,b⟩,c⟩=>⟨q,a,b,c⟩,λ⟨q,a,b,c⟩=>⟨q,⟨a,b⟩,c⟩⟩
theorem Jg {L:List zL} {t:TxD} {x:zf} (h:x∈xz L t):x∈zR L:=by
 obtain⟨q,-,c,rfl⟩:=XM.1 h
 obtain⟨o,b⟩:=Option.isSome_iff_exists.1 c
 obtain⟨e,a,hi,-⟩:=JV b
 rw[←hi]
 exact mem_map.2 ⟨e,a,rfl⟩
theorem zfl (L:List zL) (t:TxD):(xz L t).length≤t.ins.length:=by
 unfold xz
 rw[List.length_map]
 exact Nat.le_trans (List.length_filter_le _ _) (by simp[z6])
theorem zbX {L:List zL} {gone:List zf} {t:TxD} (a:∀p∈xz L t,p∉gone):∀q∈z6 t,yS (xb L gone) q=yS L q:=by
 intro q b
 unfold yS
 rw[zdb]
 by_cases h:q.tx∈gone
 ·rw[if_pos h]
  cases hf:yS L q with
  |none=>unfold yS at hf;rw[hf];rfl
  |some o=>exact absurd h (a _ (XM.2 ⟨q,b,by rw[hf];rfl,rfl⟩))
 ·rw[if_neg h]
section
variable {S:List zn} {I:List zf} {L:List zL} {gone:List zf} {t:TxD}
theorem zcc (a:∀p∈xz L t,p∉gone):∀q∈z6 t,xF S (xb L gone) q=xF S L q:=λq b=>by
 unfold xF
 rw[zbX a q b]
theorem Vp (a:∀p∈xz L t,p∉gone):xj S (xb L gone) t=xj S L t:=
 List.map_congr_left λq b=>by rw[zcc a q b]
theorem zdy (a:∀p∈xz L t,p∉gone):xz (xb L gone) t=xz L t:=by
 unfold xz
 rw[List.filter_congr λq b=>by rw[zbX a q b]]
def Shut (L:List zL) (gone:List zf):Prop:=∀e∈L,e.id∉gone→∀p∈e.ps,p∉gone
theorem zbT (h:Shut L gone):jB (gOf L) gone=gOf (xb L gone):=by
 unfold jB gOf xb
 rw[List.filter_map,List.map_map]
 refine List.map_congr_left λe c=>?_
 obtain⟨a,b⟩:=jA.1 (show e∈xb L gone from c)
 show(⟨e.id,e.ps.filter λp=>decide (p∉gone)⟩:yL)=⟨e.id,e.ps⟩
 rw[List.filter_eq_self.2 λp d=>by simpa using h e a b p d]
theorem zdI (ok:GOk (gOf L)) (h:Shut L gone) (l:List zf):(upS (gOf (xb L gone)) l).length≤(upS (gOf L) l).length:=by
 rw[←zbT h]
 have b:=zdY ok gone
 refine xB (b.nd.sublist (qk l)) λx e=>?_
 obtain⟨a,c,d⟩:=Y7.1 e
 exact Y7.2 ⟨a,c,zgX ok d⟩
theorem zcb (ok:GOk (gOf L)) (l:Shut L gone) (a:∀p∈xz L t,p∉gone) (h:xX S I L t=0):xX S I (xb L gone) t=0:=by
 obtain⟨c,d,f,g,i,m⟩:=XK h
 obtain⟨j,k⟩:=zbd.1 f
 refine V6 (λe=>c ?_) d (zbd.2 ⟨λq b=>?_,λq b=>by rw[zcc a q b];exact k q b⟩) (by rw[Vp a];exact g) (by rw[Vp a];exact i) (by rw[zdy a];have:=zdI ok l (xz L t);omega)
 ·rw[Zr] at e
  exact(List.mem_filter.1 e).1
 ·cases hc:qN (xb L gone) q with
  |false=>rfl
  |true=>exact absurd (j q b) (by simp[zfC hc])
theorem zfd (a:∀p∈xz L t,p∉gone) (now:Int):mkE S (xb L gone) t now=mkE S L t now:=by
 unfold mkE
 rw[Vp a,zdy a]
end
inductive xy (S:List zn) (I:List zf):List zL→Prop
 |nil:xy S I []
 |snoc {A:List zL} {e:zL}:xy S I A→yR e.tx=0→xX S I A e.tx=0→e=mkE S A e.tx e.added→xy S I (A++[e])
section
variable {S:List zn} {I:List zf} {L:List zL}
theorem Y8 {S:List zn} {A:List zL} {e:zL} (h:e=mkE S A e.tx e.added):e.id=idH e.tx∧e.ps=dedup (xz A e.tx)∧e.fee=Jp e.tx (xj S A e.tx)∧e.size=vF e.tx:=
 ⟨congrArg zL.id h,congrArg zL.ps h,congrArg zL.fee h,congrArg zL.size h⟩
theorem xy.gok (h:xy S I L):GOk (gOf L):=by
 induction h with
 |nil=>exact⟨by simp[gOf,ids],by simp[gOf],λA n B e=>by simp[gOf] at e⟩
 |@snoc A e hA hc hl he ih=>
  obtain⟨a,b,-⟩:=Y8 he
  have:gOf (A++[e])=ZV (gOf A) e.id (xz A e.tx):=by rw[VT,b];rfl
  rw[this]
  exact zbn ih (by rw[yO,a];exact(XK hl).1) (λp c=>by rw[yO];exact Jg c)
theorem xy.nd (h:xy S I L):(zR L).Nodup:=by rw[←yO];exact h.gok.nd
theorem xy.ent (h:xy S I L):∀e∈L,yR e.tx=0∧e.id=idH e.tx∧e.id∉I∧e.size=vF e.tx∧Jq (vF e.tx)≤e.fee:=by
 induction h with
 |nil=>simp
 |@snoc A e hA hc hl he ih=>
  intro x a
  rcases List.mem_append.1 a with a|a
  ·exact ih x a
  ·obtain rfl:=List.mem_singleton.1 a
   obtain⟨b,i,c,d⟩:=Y8 he
   obtain⟨j,f,k,l,g,m⟩:=XK hl
   exact⟨hc,b,by rw[b];exact f,d,by rw[c];exact g⟩
theorem xy.apart (h:xy S I L):L.Pairwise λa b=>∀q∈z6 a.tx,q∉z6 b.tx:=by
 induction h with
 |nil=>exact List.Pairwise.nil
 |@snoc A e hA hc hl he ih=>
  refine List.pairwise_append.2 ⟨ih,by simp,λa d b f q g c=>?_⟩
  obtain rfl:=List.mem_singleton.1 f
  have:=(zbd.1 (XK hl).2.2.1).1 q c
  rw[vk.2 ⟨a,d,g⟩] at this
  cases this
theorem xy.drop {gone:List zf} (h:xy S I L) (c:Shut L gone):xy S I (xb L gone):=by
 induction h with
 |nil=>exact .nil
 |@snoc A e hA hc hl he ih=>
  have a:Shut A gone:=λx f=>c x (by simp[f])
  rw[zgf]
  by_cases hg:e.id∈gone
  ·rw[if_pos hg]
   exact ih a
  ·rw[if_neg hg]
   obtain⟨g,d,-⟩:=Y8 he
   have b:∀p∈xz A e.tx,p∉gone:=λp b=>c e (by simp) hg p (by rw[d];exact qS.2 b)
   exact .snoc (ih a) hc (zcb hA.gok a b hl) (by rw[zfd b];exact he)
theorem Yt (ok:GOk (gOf L)) (l:List zf):Shut L (y9 (gOf L) l):=λe d h p i g=>by
 obtain⟨a,f,j⟩:=qA.1 g
 have b:e.id∈ids (gOf L):=by rw[yO];exact mem_map.2 ⟨e,d,rfl⟩
 have c:p∈par (gOf L) e.id:=by
  have:=vC ok (n:=⟨e.id,e.ps⟩) (mem_map.2 ⟨e,d,rfl⟩)
  rw[this]
  exact i
 exact h (qA.2 ⟨a,f,.step b c j⟩)
theorem zge {x:zf} {ps:List zf} (f:x∉upS (gOf L) ps):∀p∈ps,p∉y9 (gOf L) [x]:=λp d c=>by
 obtain⟨a,b,e⟩:=qA.1 c
 obtain rfl:=List.mem_singleton.1 b
 exact f (Y7.2 ⟨p,d,e⟩)
end
def Yq (a b:Int×Int):Int:=if a.1*max b.2 1<b.1*max a.2 1 then -1 else if a.1*max b.2 1=b.1*max a.2 1 then 0 else 1
def Zg (l:List (Int×Int)):Nat→Option Nat
 |0=>none
 |n+1=>match Zg l n with
  |none=>some n
  |some k=>if Yq (l[n]?.getD (0,0)) (l[k]?.getD (0,0))<0 then some n else some k
theorem za0 (l:List (Int×Int)):∀(n k:Nat),Zg l n=some k→k<n
 |0,k,h=>by simp[Zg] at h
 |n+1,k,h=>by
  unfold Zg at h
  cases hw:Zg l n with
  |none=>rw[hw] at h;simp at h;omega
  |some j=>
   have:=za0 l n j hw
   rw[hw] at h
   simp only at h
   split at h<;>(simp at h;omega)
def wgt (e:zL):Int×Int:=(e.fee,e.size)
noncomputable def Xj (L:List zL) (ps:List zf):List zL:=L.filter λe=>decide (e.id∉upS (gOf L) ps)
noncomputable def Xi (L:List zL) (ps:List zf):Option zL:=(Zg ((Xj L ps).map wgt) (Xj L ps).length).bind λk=>(Xj L ps)[k]?
noncomputable def Jz (L:List zL) (w:Int×Int) (ps:List zf):Int:=
 if L.length<32 then 0 else match Xi L ps with
  |none=>18
  |some e=>if Yq (wgt e) w<0 then 0 else 18
noncomputable def vn (L:List zL) (w:Int×Int) (ps:List zf):List zf:=
 if L.length<32 then[] else match Xi L ps with
  |none=>[]
  |some e=>if Yq (wgt e) w<0 then y9 (gOf L) [e.id] else[]
theorem zcI {L:List zL} {ps:List zf} {e:zL} (h:Xi L ps=some e):e∈L∧e.id∉upS (gOf L) ps:=by
 unfold Xi at h
 obtain⟨k,-,a⟩:=Option.bind_eq_some_iff.1 h
 have:=List.mem_of_getElem? a
 simpa[Xj] using this
theorem zdA {L:List zL} (ok:GOk (gOf L)) (w:Int×Int) (ps:List zf):Shut L (vn L w ps)∧∀p∈ps,p∉vn L w ps:=by
 unfold vn
 split
 ·exact⟨λe _ _ p _=>by simp,λp _=>by simp⟩
 ·cases hw:Xi L ps with
  |none=>exact⟨λe _ _ p _=>by simp,λp _=>by simp⟩
  |some e=>
   simp only
   split
   ·exact⟨Yt ok _,zge (zcI hw).2⟩
   ·exact⟨λe _ _ p _=>by simp,λp _=>by simp⟩
theorem zkg {L:List zL} (ok:GOk (gOf L)) {w:Int×Int} {ps:List zf} (h:Jz L w ps=0) (d:L.length≤32):(xb L (vn L w ps)).length<32:=by
 unfold Jz at h
 unfold vn
 split at h
 ·rename_i h1
  rw[if_pos h1,Zs]
  exact h1
 ·rename_i h1
  rw[if_neg h1]
  cases hw:Xi L ps with
  |none=>rw[hw] at h;cases h
  |some e=>
   rw[hw] at h
   simp only at h⊢
   split at h
   ·rename_i h2
    rw[if_pos h2]
    obtain⟨a,f⟩:=zcI hw
    have c:e.id∈ids (gOf L):=by rw[yO];exact mem_map.2 ⟨e,a,rfl⟩
    have b:e.id∈y9 (gOf L) [e.id]:=qA.2 ⟨e.id,by simp,.refl c⟩
    have:(xb L (y9 (gOf L) [e.id])).length<L.length:=by
     unfold xb
     refine List.length_filter_lt_length_iff_exists.2 ⟨e,a,by simpa using b⟩
    omega
   ·cases h
noncomputable def jj (S:List zn) (I:List zf) (L:List zL) (t:TxD):Int:=
 if yR t≠0 then yR t else if xX S I L t≠0 then xX S I L t else Jz L (Jp t (xj S L t),vF t) (xz L t)
noncomputable def jo (S:List zn) (I:List zf) (L:List zL) (t:TxD):List zf:=if jj S I L t=0 then vn L (Jp t (xj S L t),vF t) (xz L t) else[]
noncomputable def qM (S:List zn) (I:List zf) (L:List zL) (t:TxD) (now:Int):List zL:=if jj S I L t=0 then xb L (jo S I L t)++[mkE S L t now] else L
theorem zi6 {S:List zn} {I:List zf} {L:List zL} {t:TxD} (h:jj S I L t=0):yR t=0∧xX S I L t=0∧Jz L (Jp t (xj S L t),vF t) (xz L t)=0:=by
 unfold jj at h
 split at h
 ·rename_i h1;exact absurd h h1
 rename_i h1
 split at h
 ·rename_i h2;exact absurd h h2
 rename_i h2
 exact⟨by omega,by omega,h⟩
section
variable {S:List zn} {I:List zf} {L:List zL}
theorem xy.acc (h:xy S I L) (t:TxD) (now:Int):xy S I (qM S I L t now):=by
 unfold qM
 split
 ·rename_i h0
  obtain⟨c,d,f⟩:=zi6 h0
  have e:jo S I L t=vn L (Jp t (xj S L t),vF t) (xz L t):=by unfold jo;rw[if_pos h0]
  obtain⟨a,b⟩:=zdA h.gok (Jp t (xj S L t),vF t) (xz L t)
  rw[e]
  refine .snoc (h.drop a) c (zcb h.gok a b d) ?_
  show mkE S L t now=mkE S (xb L _) t now
  rw[zfd b]
 ·exact h
theorem zbm (h:xy S I L) (a:L.length≤32) (t:TxD) (now:Int):(qM S I L t now).length≤32:=by
 unfold qM
 split
 ·rename_i h0
  obtain⟨d,e,b⟩:=zi6 h0
  have c:jo S I L t=vn L (Jp t (xj S L t),vF t) (xz L t):=by unfold jo;rw[if_pos h0]
  have:=zkg h.gok b a
  rw[c,List.length_append,List.length_singleton]
  omega
 ·exact a
theorem Vy {e:zL} (c:L.length<32) (f:yR e.tx=0) (d:xX S I L e.tx=0) (g:e=mkE S L e.tx e.added):jj S I L e.tx=0∧jo S I L e.tx=[]∧qM S I L e.tx e.added=L++[e]:=by
 have h:Jz L (Jp e.tx (xj S L e.tx),vF e.tx) (xz L e.tx)=0:=by unfold Jz;rw[if_pos c]
 have a:jj S I L e.tx=0:=by unfold jj;rw[if_neg (by simp[f]),if_neg (by simp[d])];exact h
 have b:jo S I L e.tx=[]:=by unfold jo vn;rw[if_pos a,if_pos c]
 refine⟨a,b,?_⟩
 unfold qM
 rw[if_pos a,b,Zs,←g]
end
def Ze (t d:Int):Int:=if t+d≤18446744073709551615 then t+d else 18446744073709551615
def zd8 (L:List zL) (now:Int):List zf:=(L.filter λe=>decide (Ze e.added 7200≤now)).map (·.id)
noncomputable def Zc (L:List zL) (now:Int):List zf:=y9 (gOf L) (zd8 L now)
noncomputable def J4 (L:List zL) (now:Int):List zL:=xb L (Zc L now)
noncomputable def JW (S:List zn) (I:List zf) (L:List zL) (l:List TxD) (now:Int):List zL:=l.foldl (λA t=>qM S I A t now) L
noncomputable def JE (S:List zn) (I:List zf) (L:List zL) (l:List zL):List zL:=l.foldl (λA e=>qM S I A e.tx e.added) L
noncomputable def Zo (S:List zn) (I:List zf) (L:List zL) (first:List TxD) (now:Int):List zL:=JE S I (JW S I [] first now) L
noncomputable def XY (S:List zn) (I:List zf) (L:List zL) (first:List TxD) (now:Int):List zf:=(zR L).filter λx=>decide (x∉zR (Zo S I L first now))
section
variable {S:List zn} {I:List zf} {L:List zL}
theorem xy.exp (h:xy S I L) (now:Int):xy S I (J4 L now):=h.drop (Yt h.gok _)
theorem xy.first:∀(l:List TxD) {L:List zL} (now:Int),xy S I L→L.length≤32→xy S I (JW S I L l now)∧(JW S I L l now).length≤32
 |[],L,now,h,hl=>⟨h,hl⟩
 |t::l,L,now,h,hl=>xy.first l now (h.acc t now) (zbm h hl t now)
theorem xy.again:∀(l:List zL) {L:List zL},xy S I L→L.length≤32→xy S I (JE S I L l)∧(JE S I L l).length≤32
 |[],L,h,hl=>⟨h,hl⟩
 |t::l,L,h,hl=>xy.again l (h.acc t.tx t.added) (zbm h hl t.tx t.added)
theorem xy.ren (L:List zL) (first:List TxD) (now:Int):xy S I (Zo S I L first now)∧(Zo S I L first now).length≤32:=by
 obtain⟨a,b⟩:=xy.first (S:=S) (I:=I) first now .nil (by simp)
 exact xy.again L a b
theorem zfw (h:xy S I L) (a:L.length≤32) (now:Int):Zo S I L [] now=L:=by
 show JE S I [] L=L
 induction h with
 |nil=>rfl
 |@snoc A e hA hc h0 he ih=>
  rw[List.length_append,List.length_singleton] at a
  have:=ih (by omega)
  unfold JE at*
  rw[List.foldl_append,this]
  exact(Vy (by omega) hc h0 he).2.2
end
theorem YG:prog.underlying 113=some (.map 45 120):=by kernel_rfl
theorem zas:prog.underlying 114=some (.map 56 45):=by kernel_rfl
section
variable {P:Program} {w w':World} {o:Oper} {ev:Operand→Value} {t:TypeId} {x:Operand} {xv v:Value} {f:Nat}
theorem qX (a:o.op=.field t x f) (c:ev x=xv) (b:(Instr.field t xv f).run P w=.ok v w'):(execOp ev o).run P w=.ok (.value v) w':=by
 simp only[execOp,a,c,Sem.run_bind,b,Result.andThen_ok,Sem.run_pure]
end
theorem zeR (v:Int) (b e:Option Addr) (d c i h:Nat) (f s a:Int) (w:World):(Instr.field 120 (.agg #[.int .u32 v,.slice b d c,.slice e i h,.int .u64 f,.int .i64 s,.int .u64 a]) 0).run prog w=.ok (.agg #[.int .u32 v,.slice b d c,.slice e i h]) w:=by kernel_rfl
theorem zjF (v:Int) (b e:Option Addr) (d c i h:Nat) (f s a:Int) (w:World):(Instr.field 120 (.agg #[.int .u32 v,.slice b d c,.slice e i h,.int .u64 f,.int .i64 s,.int .u64 a]) 1).run prog w=.ok (.agg #[.int .u64 f,.int .i64 s]) w:=by kernel_rfl
theorem znq (v:Int) (b e:Option Addr) (d c i h:Nat) (f s a:Int) (w:World):(Instr.field 120 (.agg #[.int .u32 v,.slice b d c,.slice e i h,.int .u64 f,.int .i64 s,.int .u64 a]) 2).run prog w=.ok (.int .u64 a) w:=by kernel_rfl
theorem znr (v:Int) (d a:Option Addr) (h e c b:Nat) (w:World):(Instr.field 27 (.agg #[.int .u32 v,.slice d h e,.slice a c b]) 2).run prog w=.ok (.slice a c b) w:=by kernel_rfl
def zbR (cs:List Value):Value:=.agg cs.toArray
def zkS (tcs:List Value) (e:zL):List Value:=tcs++[.int .u64 e.fee,.int .i64 e.size,.int .u64 e.added]
def qJ:List Value:=[.int .u32 0,.slice none 0 0,.slice none 0 0,.int .u64 0,.int .i64 0,.int .u64 0]
theorem QS (w:World):(zeroValue 120).run prog w=.ok (zbR qJ) w:=by kernel_rfl
theorem zg7:∃d,prog.underlying 120=some d∧d.isRow=true:=jR (by kernel_rfl)
theorem qm:(prog.info? 120).map (·.size)=some 6:=by kernel_rfl
def zhG (w:World) (e:zL) (cs:List Value):Prop:=∃tcs,cs=zkS tcs e∧TxQ w e.tx tcs
theorem zhG.form {w:World} {e:zL} (h:zhG w e cs):∃a b c d,cs=[.int .u32 e.tx.ver,.slice a e.tx.ins.length b,.slice c e.tx.outs.length d,.int .u64 e.fee,.int .i64 e.size,.int .u64 e.added]:=by
 obtain⟨t,rfl,i⟩:=h
 obtain⟨a,b,c,d,rfl⟩:=i.form
 exact⟨a,b,c,d,rfl⟩
abbrev xR (w:World) (m:Nat) (M:List (zf×List Value)):Prop:=yI prog 45 xL zbR w m M
abbrev za3 (w:World) (m:Nat) (M:List (zx×zf)):Prop:=yI prog 56 Jd xL w m M
def poV (p ma ms:Nat) (VG:Nat→Prop):Nat→Prop:=λj=>j=p∨j=ma∨j=ms∨VG j
structure yn (w0 w:World) (p ma ms g:Nat) (VG X:Nat→Prop) (C:zf→List Value) (L:List zL) (N:Nat):Prop where
 obj:w.heap[p]? =some (.cells #[.map (some ma),.map (some ms),.pointer (some ⟨g,0,none⟩)] 117 (0,0))
 gr:GC w0 w g VG (gOf L) N
 am:∃M,xR w ma M∧∀x cs,(x,cs)∈M↔∃e∈L,e.id=x∧cs=C x
 sm:∃M,za3 w ms M∧∀q x,(q,x)∈M↔∃e∈L,q∈z6 e.tx∧e.id=x
 data:∀e∈L,Kept X w (λw=>zhG w e (C e.id))
 apart:p≠ma∧p≠ms∧ma≠ms∧¬VG p∧¬VG ma∧¬VG ms
 lo3:w0.heap.size≤p∧w0.heap.size≤ma∧w0.heap.size≤ms
 sub:∀j,poV p ma ms VG j→X j
section
variable {w0 w w':World} {p ma ms g N:Nat} {VG X:Nat→Prop} {C:zf→List Value} {L:List zL}
theorem yn.fr (h:yn w0 w p ma ms g VG X C L N):Fr No w0 w:=h.gr.fr
theorem yn.lo (h:yn w0 w p ma ms g VG X C L N):∀j,poV p ma ms VG j→w0.heap.size≤j:=by
 obtain⟨a,b,c⟩:=h.lo3
 rintro j (rfl|rfl|rfl|hj)
 ·exact a
 ·exact b
 ·exact c
 ·exact h.gr.lo j hj
theorem yn.hi (h:yn w0 w p ma ms g VG X C L N):∀j,poV p ma ms VG j→j<w.heap.size:=by
 obtain⟨M,b,-⟩:=h.am
 obtain⟨M',a,-⟩:=h.sm
 rintro j (rfl|rfl|rfl|hj)
 ·exact yr h.obj
 ·exact b.lt
 ·exact a.lt
 ·exact h.gr.hi j hj
theorem yn.frV (h:yn w0 w p ma ms g VG X C L N) {U X':Nat→Prop} (f:Fr U w w') (a:∀j,poV p ma ms VG j→¬U j) (i:∀j,U j→w0.heap.size≤j) (c:∀j,U j→X j) (l:∀j,j<w.heap.size→X' j→X j) (r:∀j,poV p ma ms VG j→X' j):yn w0 w' p ma ms g VG X' C L N:=by
 obtain⟨M,k,q⟩:=h.am
 obtain⟨M',b,d⟩:=h.sm
 exact {h with
  obj:=f.obj h.obj (a _ (.inl rfl))
  gr:=h.gr.frV f (λj n=>a j (.inr (.inr (.inr n)))) i
  am:=⟨M,k.keep f (a _ (.inr (.inl rfl))),q⟩
  sm:=⟨M',b.keep f (a _ (.inr (.inr (.inl rfl)))),d⟩
  data:=λe m=>(h.data e m).step (f.mono c) l
  sub:=r}
theorem yn.fr0 (h:yn w0 w p ma ms g VG X C L N) (f:Fr No w w'):yn w0 w' p ma ms g VG X C L N:=
 h.frV f (λ_ _=>id) (λ_ h=>h.elim) (λ_ h=>h.elim) (λ_ _ h=>h) h.sub
theorem yn.mono (h:yn w0 w p ma ms g VG X C L N) {a:Nat} (b:N≤a):yn w0 w p ma ms g VG X C L a:={h with gr:=h.gr.mono b}
theorem yn.cells (h:yn w0 w p ma ms g VG X C L N):w.cell? ⟨p,0,none⟩=some (.map (some ma))∧w.cell? ⟨p,1,none⟩=some (.map (some ms))∧w.cell? ⟨p,2,none⟩=some (.pointer (some ⟨g,0,none⟩)):=by
 have:=zv h.obj
 exact⟨by simpa using this 0 _ rfl,by simpa using this 1 _ rfl,by simpa using this 2 _ rfl⟩
theorem yn.ids (h:yn w0 w p ma ms g VG X C L N):∀x∈zR L,zV x:=λx a=>h.gr.okId x (by rw[yO];exact a)
theorem yn.nd (h:yn w0 w p ma ms g VG X C L N):(zR L).Nodup:=by rw[←yO];exact h.gr.gok.nd
theorem yn.len (h:yn w0 w p ma ms g VG X C L N):L.length≤N:=by have:=h.gr.len;simpa[gOf] using this
def Yp (C:zf→List Value) (L:List zL) (x:zf):List Value:=if x∈zR L then C x else qJ
theorem zcd {x:zf} (k:zV x) {M:List (zf×List Value)} (i:xR w ma M) (j:∀x cs,(x,cs)∈M↔∃e∈L,e.id=x∧cs=C x) (c:Bool):
  (Instr.lookup 113 (.map (some ma)) (.agg (zd x).toArray) c).run prog w=.ok (if c then .tuple #[.agg (Yp C L x).toArray,.bool (decide (x∈zR L))] else .agg (Yp C L x).toArray) w:=by
 have h:=i.look xT.keyed YG (λ_ _=>xf) QS (ym k) c (r:=if x∈zR L then some (C x) else none) (λv=>by
  rw[j]
  by_cases h:x∈zR L
  ·rw[if_pos h]
   obtain⟨e,b,hi⟩:=mem_map.1 h
   exact⟨λa=>⟨e,b,hi,(Option.some.inj a).symm⟩,λ⟨_,_,_,d⟩=>by rw[d]⟩
  ·rw[if_neg h]
   exact⟨λa=>(by cases a),λ⟨e,b,hi,_⟩=>absurd (mem_map.2 ⟨e,b,hi⟩) h⟩)
 unfold xL at h
 rw[h]
 unfold Yp
 by_cases hh:x∈zR L<;>simp[hh,zbR]
theorem Jw {x:zf} (d:zV x) {M:List (zf×List Value)} (a:xR w ma M) (c:∀x cs,(x,cs)∈M↔∃e∈L,e.id=x∧cs=C x) (b:Yp C L x=cs):
  (Instr.lookup 113 (.map (some ma)) (.agg (zd x).toArray) false).run prog w=.ok (.agg cs.toArray) w:=by
 have:=zcd d a c false
 rw[b] at this
 simpa using this
def ziR (L:List zL) (q:zx):zf:=((L.find? λe=>decide (q∈z6 e.tx)).map (·.id)).getD yT
theorem zly {L:List zL} (a:∀x∈zR L,zV x) (q:zx):zV (ziR L q):=by
 unfold ziR
 cases hf:L.find? λe=>decide (q∈z6 e.tx) with
 |none=>exact qY
 |some e=>exact a _ (mem_map.2 ⟨e,List.mem_of_find?_eq_some hf,rfl⟩)
theorem zk4 {q:zx} (m:q.ok) {M:List (zx×zf)} (k:za3 w ms M) (l:∀q x,(q,x)∈M↔∃e∈L,q∈z6 e.tx∧e.id=x):
  (Instr.lookup 114 (.map (some ms)) (.agg (zm q).toArray) true).run prog w=.ok (.tuple #[.agg (zd (ziR L q)).toArray,.bool (qN L q)]) w:=by
 cases hf:L.find? λe=>decide (q∈z6 e.tx) with
 |some e=>
  have c:=List.mem_of_find?_eq_some hf
  have a:q∈z6 e.tx:=by simpa using List.find?_some hf
  have d:(q,e.id)∈M:=(l q e.id).2 ⟨e,c,a,rfl⟩
  have h:=k.look jF.keyed zas (λ_ _=>vD) yJ (xu m) true (r:=some e.id) (λv=>⟨λi=>by rw[←Option.some.inj i];exact d,λj=>by rw[k.uniq d j]⟩)
  have n:qN L q=true:=vk.2 ⟨e,c,a⟩
  unfold Jd at h
  rw[h,n]
  unfold ziR
  rw[hf]
  rfl
 |none=>
  have b:qN L q=false:=by
   cases hc:qN L q with
   |false=>rfl
   |true=>
    obtain⟨e,c,a⟩:=vk.1 hc
    have:=List.find?_eq_none.1 hf e c
    simp[a] at this
  have h:=k.look jF.keyed zas (λ_ _=>vD) yJ (xu m) true (r:=none) (λv=>⟨λi=>(by cases i),λj=>by
   obtain⟨e,c,a,_⟩:=(l q v).1 j
   rw[vk.2 ⟨e,c,a⟩] at b
   cases b⟩)
  unfold Jd at h
  rw[h,b]
  unfold ziR
  rw[hf]
  rfl
end
section
variable {w0 w:World} {p ma ms g N:Nat} {VG X:Nat→Prop} {C:zf→List Value} {L:List zL}
theorem J1:∀v∈qJ,v.oneCell'=true:=by
 intro v a
 simp only[qJ,mem_cons,List.not_mem_nil,or_false] at a
 rcases a with rfl|rfl|rfl|rfl|rfl|rfl<;>rfl
theorem zhG.one {w:World} {e:zL} (h:zhG w e cs):cs.length=6∧∀v∈cs,v.oneCell'=true:=by
 obtain⟨b,c,d,f,rfl⟩:=h.form
 refine⟨rfl,λv a=>?_⟩
 simp only[mem_cons,List.not_mem_nil,or_false] at a
 rcases a with rfl|rfl|rfl|rfl|rfl|rfl<;>rfl
theorem zeJ (h:yn w0 w p ma ms g VG X C L N) (x:zf):(Yp C L x).length=6∧∀v∈Yp C L x,v.oneCell'=true:=by
 unfold Yp
 split
 ·rename_i hx
  obtain⟨e,a,rfl⟩:=mem_map.1 hx
  exact(h.data e a).now.one
 ·exact⟨rfl,J1⟩
theorem zhy (h:yn w0 w p ma ms g VG X C L N) {q:zx} (m:q.ok):Calls prog 31 #[.pointer (some ⟨p,0,none⟩),.agg (zm q).toArray] w λe w'=>e=.returned (.bool (qN L q))∧Fr No w w':=by
 obtain⟨M,k,l⟩:=h.sm
 have c:Fr No w (w.alloc (.cells (zm q).toArray 56)):=(frN w).alloc _
 have i:=(h.fr0 c).cells.2.1
 have d:=Hd (k.keep c id)
 have f:=Hd (zq w (zm q) 56)
 have u:=Hd (zW m)
 have B:=yJ
 have s:=Hd (λw' (h':za3 w' ms M)=>zk4 (w:=w') m h' l)
 have o:=Hd c
 have j:=Hd (zu (zly h.ids q))
 generalize qN L q=b at*
 generalize ziR L q=y at*
 clear h k c l
 go_enter Tryz.func31,Tryz.ntmps31
 go_wp2_with fail
 generalize v:w.heap.size=n at*
 generalize w.alloc (.cells (zm q).toArray 56)=a at*
 refine wrLx [ff,ff,ff,ff,ff,ff,ff,ff,ff,tt,tt,ff] (λw'=>w'.cell? ⟨p,1,none⟩=some (.map (some ms))∧w'.rangeAt n 0 (zm q)∧za3 w' ms M) ?_ (λK hK=>?_)
 ·exact⟨(frN _).drew.cell i id,za f.o (frN _).drew id,d.o.keep (frN _).drew id⟩
 repeat((first|(refine zk rfl ?_;constructor;constructor;(focus(first|exact znZ rfl (λw h=>h.2.1) u.o|exact λw' h=>zY (t:=114) rfl rfl rfl (s.o w' h.2.2)|(rintro w' ⟨x,z,A⟩;exact goS))))|(refine zl rfl ?_));try simp only[Act.put,pA,pB,pC])
 (refine zM rfl (λK' hK'=>?_))
 refine yD (xH rfl (yJ _)) ?_
 refine nXt hK' ?_ λhS=>?_
 ·exact⟨(((frN a).drew).alloc _).cell i id,za f.o (((frN a).drew).alloc _) id,d.o.keep (((frN a).drew).alloc _) id⟩
 try simp only[Act.put,pA,pB,pC]
 (refine zM rfl (λK' hK'=>?_))
 refine xp (zj (w:=a.drew) (ty:=45) (cs:=zd y) rfl rfl rfl (by rw[j.o];rfl) (by rw[j.o];exact yj) zE) ?_
 refine nXt hK' ?_ λhS=>?_
 ·exact⟨(((frN a).drew).alloc _).cell i id,za f.o (((frN a).drew).alloc _) id,d.o.keep (((frN a).drew).alloc _) id⟩
 try simp only[Act.put]
 repeat((first|(refine zk rfl ?_;constructor;constructor;(focus(first|(rintro w' -;exact goS))))|(refine zl rfl ?_));try simp only[Act.put,pA,pB,pC])
 refine zN (hK.out _ _ ?_)
 have r:=Hd ((o.o.drew.alloc (.cells (zd y).toArray 45)))
 go_wp2_with fail
 go_ret
 exact⟨rfl,r.o⟩
theorem zdj (h:yn w0 w p ma ms g VG X C L N) {x:zf} (q:zV x):Calls prog 63 #[.pointer (some ⟨p,0,none⟩),.agg (zd x).toArray] w λe w'=>e=.returned (.bool (decide (x∈zR L)))∧Fr No w w':=by
 obtain⟨M,m,o⟩:=h.am
 have c:Fr No w (w.alloc (.cells (zd x).toArray 45)):=(frN w).alloc _
 have j:=(h.fr0 c).cells.1
 have f:=Hd (m.keep c id)
 have i:=Hd (zq w (zd x) 45)
 have z:=Hd (zu q)
 have l:=Hd (λw' (h':xR w' ma M)=>zcd (w:=w') q h' o true)
 have r:=Hd c
 obtain⟨y,d⟩:∃y,Yp C L x=y∧y.length=6∧∀v∈y,v.oneCell'=true:=⟨_,rfl,zeJ h x⟩
 have k:=Hd d.2.1
 have u:=Hd d.2.2
 rw[d.1] at l
 generalize decide (x∈zR L)=b at*
 clear h m c o d
 go_enter Tryz.func63,Tryz.ntmps63
 go_wp2_with fail
 generalize A:w.heap.size=n at*
 generalize w.alloc (.cells (zd x).toArray 45)=a at*
 refine wrLx [ff,ff,ff,ff,ff,ff,ff,ff,ff,tt,tt,ff] (λw'=>w'.cell? ⟨p,0,none⟩=some (.map (some ma))∧w'.rangeAt n 0 (zd x)∧xR w' ma M) ?_ (λK hK=>?_)
 ·exact⟨(frN _).drew.cell j id,za i.o (frN _).drew id,f.o.keep (frN _).drew id⟩
 repeat((first|(refine zk rfl ?_;constructor;constructor;(focus(first|exact zn0 rfl (λw h=>h.2.1) z.o|exact λw' h=>zY (t:=113) rfl rfl rfl (l.o w' h.2.2)|(rintro w' ⟨B,D,E⟩;exact goS))))|(refine zl rfl ?_));try simp only[Act.put,pA,pB,pC])
 (refine zM rfl (λK' hK'=>?_))
 refine yD (xH rfl (QS _)) ?_
 refine nXt hK' ?_ λhS=>?_
 ·exact⟨(((frN a).drew).alloc _).cell j id,za i.o (((frN a).drew).alloc _) id,f.o.keep (((frN a).drew).alloc _) id⟩
 try simp only[Act.put,pA,pB,pC]
 (refine zM rfl (λK' hK'=>?_))
 refine xp (zj (w:=a.drew) (ty:=120) (cs:=y) rfl rfl rfl (by rw[k.o];rfl) (by rw[k.o];exact qm) u.o) ?_
 refine nXt hK' ?_ λhS=>?_
 ·exact⟨(((frN a).drew).alloc _).cell j id,za i.o (((frN a).drew).alloc _) id,f.o.keep (((frN a).drew).alloc _) id⟩
 try simp only[Act.put]
 repeat((first|(refine zk rfl ?_;constructor;constructor;(focus(first|(rintro w' -;exact goS))))|(refine zl rfl ?_));try simp only[Act.put,pA,pB,pC])
 refine zN (hK.out _ _ ?_)
 have s:=Hd ((r.o.drew.alloc (.cells y.toArray 120)))
 go_wp2_with fail
 go_ret
 exact⟨rfl,s.o⟩
def Vd (L:List zL) (x:zf):List yC:=((YV L x).map (·.tx.outs)).getD []
theorem zgj (L:List zL) (q:zx):yS L q=(Vd L q.tx)[q.n.toNat]? :=by
 unfold yS Vd
 cases YV L q.tx with
 |none=>rfl
 |some e=>rfl
theorem zgR {n:Nat} (h:n≤maxLen):IntKind.u64.wrap (n:Int)=n:=by
 unfold maxLen at h
 simp[IntKind.wrap,IntKind.signed,IntKind.bits]
 omega
theorem zcl (w:World):xg w (.slice none 0 0) []:=⟨by simp,.inl (.inl ⟨rfl,rfl,rfl⟩)⟩
theorem zhP (h:yn w0 w p ma ms g VG X C L N) (x:zf):∃v i n j b c f s a,Yp C L x=[.int .u32 v,.slice i n j,.slice b (Vd L x).length c,.int .u64 f,.int .i64 s,.int .u64 a]∧xg w (.slice b (Vd L x).length c) (Vd L x):=by
 unfold Yp
 by_cases hx:x∈zR L
 ·rw[if_pos hx]
  obtain⟨e,k,rfl⟩:=mem_map.1 hx
  have d:Vd L e.id=e.tx.outs:=by unfold Vd;rw[ZJ h.nd k];rfl
  obtain⟨t,l,i,j,b,c,rfl,-,-,m⟩:=(h.data e k).now
  rw[d,l]
  exact⟨e.tx.ver,i,_,j,b,c,e.fee,e.size,e.added,rfl,m⟩
 ·rw[if_neg hx]
  have d:Vd L x=[]:=by unfold Vd;rw[zh5.2 hx];rfl
  rw[d]
  exact⟨0,none,0,0,none,0,0,0,0,rfl,zcl w⟩
theorem zkK (w:World):(Instr.build 58 #[]).run prog w=.ok (.agg (zF xN).toArray) w:=by kernel_rfl
theorem zjD (h:yn w0 w p ma ms g VG X C L N) {q:zx} (y:q.ok):Calls prog 32 #[.pointer (some ⟨p,0,none⟩),.agg (zm q).toArray] w λe w'=>e=.returned (.tuple #[.agg (zF ((yS L q).getD xN)).toArray,.bool (yS L q).isSome])∧Fr No w w':=by
 obtain⟨dH,uH,rH⟩:=jq
 obtain⟨dO,uO,rO⟩:=YT
 obtain⟨M,Y,hm⟩:=h.am
 have zo:=y3
 have m:Fr No w ((w.alloc (.cells (zm q).toArray 56)).alloc (.cells (zF xN).toArray 58)):=((frN w).alloc _).alloc _
 have W:=(h.fr0 m).cells.1
 have T:=Hd (Y.keep m id)
 have G:=Hd (za (zq w (zm q) 56) ((frN _).alloc (.cells (zF xN).toArray 58)) id)
 have j:=Hd (yU (w.alloc (.cells (zm q).toArray 56)) (.cells (zF xN).toArray 58) (n:=w.heap.size+1) (by simp))
 have QL:=Hd (zu y.1)
 have l:=Hd y
 have S:=Hd m
 obtain⟨v,ia,il,ic,oa,oc,f,s,a,Z,Q⟩:=zhP h q.tx
 have V:=Hd (λw' (h':xR w' ma M)=>Jw (w:=w') y.1 h' hm Z)
 have U:=Hd (Q.keep (m.drew))
 have r:=Q.2.len
 have u:=y.2.1
 have I:=y.2.2
 rw[zgj]
 generalize Vd L q.tx=O at*
 clear h Y m hm Z Q
 go_enter Tryz.func32,Tryz.ntmps32
 go_wp2_with fail
 generalize aa:w.heap.size=n at*
 generalize (w.alloc (.cells (zm q).toArray 56)).alloc (.cells (zF xN).toArray 58)=R at*
 refine wrLx [ff,ff,ff,ff,ff,ff,ff,ff,ff,ff] (λw'=>w'.cell? ⟨p,0,none⟩=some (.map (some ma))∧w'.rangeAt n 0 (zm q)∧xR w' ma M) ?_ (λK hK=>?_)
 ·exact⟨(frN _).drew.cell W id,za G.o (frN _).drew id,T.o.keep (frN _).drew id⟩
 repeat((first|(refine zk rfl ?_;constructor;constructor;(focus(first|exact y5 (ty:=45) rfl (λw h=>(zcu h.2.1 l.o).1) uH rH (by have:=QL.o;unfold zd at this;rw[this];exact yj)|exact λw' h=>zY (t:=113) rfl rfl rfl (V.o w' h.2.2)|exact λw' _=>qX (t:=120) (f:=0) rfl rfl (zeR v ia oa il ic O.length oc f s a w')|exact λw' _=>qX (t:=27) (f:=2) rfl rfl (znr v ia oa il ic O.length oc w')|(rintro w' ⟨s1,s2,s3⟩;exact goS))))|(refine zl rfl ?_));try simp only[Act.put,pA,pB,pC])
 refine zN (hK.out _ _ ?_)
 have H:R.drew.cell? ⟨n,32,none⟩=some (.int .u32 q.n):=by
  have:=(zcu (za G.o (frN R).drew id) l.o).2
  simpa using this
 have z:=Hd ((frN R).drew.obj j.o id)
 clear W G T V j
 by_cases A:q.n.toNat<O.length
 ·have i1:¬(O.length:Int)≤q.n:=by omega
  obtain⟨o,d⟩:∃o,O[q.n.toNat]? =some o:=⟨_,List.getElem?_eq_getElem A⟩
  obtain⟨b,off,cap,e,B,-⟩:=U.o.at_ d
  injection e with e1 e2 e3
  subst e1
  subst e3
  have OK:=Hd (U.o.1 o (List.mem_of_getElem? d))
  have c:=Hd (yq OK.o)
  obtain⟨k,hk⟩:∃k:Nat,q.n=(k:Int):=Int.eq_ofNat_of_zero_le u
  have D:=Hd d
  rw[hk] at i1 A B H I
  simp only[Int.toNat_natCast] at A B
  have i2:(k:Int)<IntKind.u64.wrap (O.length:Int):=by rw[zgR r];omega
  have R1:=Hd B
  clear B d u hk
  have⟨E,F⟩:=tZ2
  go_wp2_with ((first|((with_reducible refine zt ?_);clear E;with_reducible refine yg 31 ?_;refine znU rfl rfl rfl R1.o c.o ?_)|((with_reducible refine zr ?_);clear F;refine zi rfl (zU (ty:=58) (b:=n+1) (off:=0) (cs:=zF o) rfl rfl rfl (by rw[c.o];exact yb z.o (Nat.le_of_eq yQ.symm)) (by rw[c.o];exact yW) yd) ?_));go_frame)
  refine bodyPost_ret (yt (P:=prog) (fn:=Tryz.f32) rfl _ rfl (yB z.o (by rw[c.o];exact yQ)) uO rO (by rw[c.o];exact yW) rfl) rfl ⟨by rw[D.o];rfl,?_⟩
  exact(S.o.drew).trans (zy _ _ _ _) (λi hi e=>by omega)
 ·have i1:(O.length:Int)≤q.n:=by omega
  have x:O[q.n.toNat]? =none:=List.getElem?_eq_none (by omega)
  have D:=Hd x
  have c:=Hd (yq Qt)
  clear x A
  have⟨E,F⟩:=tZ2
  go_wp2_with ((first|((with_reducible refine zt ?_);clear E;with_reducible refine yg 26 ?_;refine zg rfl (yv (t:=58) rfl rfl (zkK _)) ?_)|((with_reducible refine zr ?_);clear F;refine zi rfl (zU (ty:=58) (b:=n+1) (off:=0) (cs:=zF xN) rfl rfl rfl (by rw[c.o];exact yb z.o (Nat.le_of_eq yQ.symm)) (by rw[c.o];exact yW) yd) ?_));go_frame)
  refine bodyPost_ret (yt (P:=prog) (fn:=Tryz.f32) rfl _ rfl (yB z.o (by rw[c.o];exact yQ)) uO rO (by rw[c.o];exact yW) rfl) rfl ⟨by rw[D.o];rfl,?_⟩
  exact(S.o.drew).trans (zy _ _ _ _) (λi hi e=>by omega)
end
section
open Go.ChangeShapes Go.WideShapes Go.Deep
structure vm where
 kind:Int
 tx:TxD
 blk:qf
 now:Int
def Yf (k:Int) (tcs bcs:List Value) (n:Int):List Value:=.int .i64 k::(tcs++(bcs++[.int .u64 n]))
def vW (w:World) (a:vm) (cs:List Value):Prop:=∃tcs bcs,cs=Yf a.kind tcs bcs a.now∧(0≤a.now∧a.now<18446744073709551616)∧TxQ w a.tx tcs∧vG w a.blk bcs
theorem vW.keep {w w':World} {x:vm} (h:vW w x cs) (f:Fr No w w'):vW w' x cs:=by
 obtain⟨t,b,e,a,c,d⟩:=h
 exact⟨t,b,e,a,c.keep f,d.keep f⟩
theorem vG.len3 {w:World} {b:qf} (h:vG w b cs):cs.length=3:=by
 obtain⟨_,_,_,_,rfl,_⟩:=h
 rfl
theorem vW.len {w:World} {a:vm} (h:vW w a cs):cs.length=8:=by
 obtain⟨t,b,rfl,e,c,d⟩:=h
 simp[Yf,c.len3,d.len3]
abbrev vK (w:World) (v:Value) (L:List vm):Prop:=qG 8 vW w v L
theorem vK.keep0 {w w':World} {v:Value} {L:List vm} (h:vK w v L) (f:Fr No w w'):vK w' v L:=qG.keep (λ_ _ h=>h.keep f) h f
section
variable {H:Type} {enc:TypeId×Value→H} {w:World} {base:Nat} {spare:Nat→Bool} {held:Bool}
theorem zgN {fuel:Nat} {x:DataW H×List MemPlace} (h:DataW.trod enc prog w base spare held fuel 91 cs=some x):∃d,vW w d cs:=by
 have c1:prog.cellsOf 3=1:=by kernel_rfl
 have c2:prog.cellsOf 27=3:=by kernel_rfl
 have p:prog.cellsOf 42=1:=by kernel_rfl
 have q:prog.cellsOf 65=3:=by kernel_rfl
 have u:prog.cellsOf 91=8:=by kernel_rfl
 obtain⟨b,n,_,_,e,l,c⟩:=DataW.trod_struct Tryz.underlying91 h
 have f:DataW.trod enc prog w base spare held n 3 ((cs.drop 0).take (prog.cellsOf 3))=b[0]? :=c 0 _ rfl
 have g:DataW.trod enc prog w base spare held n 27 ((cs.drop 1).take (prog.cellsOf 27))=b[1]? :=c 1 _ rfl
 have i:DataW.trod enc prog w base spare held n 65 ((cs.drop 4).take (prog.cellsOf 65))=b[2]? :=c 2 _ rfl
 have j:DataW.trod enc prog w base spare held n 42 ((cs.drop 7).take (prog.cellsOf 42))=b[3]? :=c 3 _ rfl
 rw[c1] at f
 rw[c2] at g
 rw[q] at i
 rw[p] at j
 rw[u] at e
 have C:b.length=4:=l
 rw[List.getElem?_eq_getElem (by omega)] at f g i j
 obtain⟨k,m,_⟩:=DataW.trod_int Tryz.underlying3 f
 obtain⟨t,A⟩:=zep g
 obtain⟨B,z⟩:=zkw i
 obtain⟨s,v,_,D⟩:=DataW.trod_int Tryz.underlying42 j
 refine⟨⟨k,t,B,s⟩,(cs.drop 1).take 3,(cs.drop 4).take 3,?_,?_,A,z⟩
 ·match cs,e with
  |a::r,e=>
   simp only[List.drop_zero,List.take_succ_cons,List.take_zero,List.cons.injEq,and_true] at m
   subst m
   have E:r.length=7:=by simpa using e
   show Value.int .i64 k::r=Value.int .i64 k::(r.take 3++((r.drop 3).take 3++[Value.int .u64 s]))
   have o:(r.drop 6).take 1=[Value.int .u64 s]:=v
   rw[List.take_of_length_le (by rw[List.length_drop];omega)] at o
   rw[←o]
   congr 1
   have y:r.drop 6=(r.drop 3).drop 3:=by rw[List.drop_drop]
   rw[y,List.take_append_drop,List.take_append_drop]
 ·simp[Lit.wf,IntKind.min,IntKind.max,IntKind.signed,IntKind.bits] at D
  show 0≤s∧s<18446744073709551616
  omega
theorem jN {fuel:Nat} {v:Value} {x:DataW H×List MemPlace} (h:DataW.trod enc prog w base spare held fuel 23 [v]=some x):∃L,vK w v L:=by
 obtain⟨L,d,f,e,b,c⟩:=zaS (q:=vW w) Tryz.underlying23 (k:=8) (by kernel_rfl) (by decide) (λa cs h=>h.len) (λ_ _ _ h=>zgN h) h
 exact⟨L,d,f,e,b,c⟩
end
end
end Go.Proofs.YtbcllfjmabiafaaGreatDoor
