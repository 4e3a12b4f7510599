/- kin: sorted's order, and the sort. -/
import Derived.Shelf.SlSortCmp.NoneTotal
import Derived.Laws.MakeOwn
import Derived.Shelf.Bits.Mul64
import Derived.Shelf.Spec.BitsCarry
import Derived.Laws.Externs
import Derived.Test.YtdkkjchclkjleaaGreatDoorSD4
import Derived.Test.YtdkkjchclkjleaaGreatDoorSD1
import Derived.Test.YtdkkjchclkjleaaGreatDoorSD2
import Derived.Test.YtdkkjchclkjleaaGreatDoorSD3
set_option linter.unusedVariables false
set_option linter.unusedSimpArgs false
set_option linter.unnecessarySimpa false
set_option linter.all false
set_option maxRecDepth 20000
set_option maxHeartbeats 16000000
namespace Go.Proofs.YtdkkjchclkjleaaGreatDoor
open Go Go.RowKit Go.Maps Go.MapKept
open Go.Proofs.Tryz(prog)
open List(mem_map getElem?_eq_getElem mem_append mem_of_getElem? mem_cons length_map take_add_one mem_singleton take_length mem_filter map_append length_take all_eq_true nodup_cons map_cons nodup_append flatMap_append filter_append filter_eq_self size_toArray not_mem_nil length_filter_le map_map any_eq_true map_congr_left filter_map)
open Nat(le_refl zero_le le_trans lt_of_lt_of_le)
variable {B b bx k n:Nat} {c w w' wr:World} {cs xs:List Value} {v:Value}
section
open Go.Sort
def za1 (L:List yL) (x:zd):Int:=((L.find? λr=>decide (r.id=x)).map λr=>(r.seq:Int)).getD 0
theorem Qa {L:List yL} (b:(L.map (·.id)).Nodup) {r:yL} (a:r∈L):za1 L r.id=r.seq:=by
 unfold za1
 induction L with
 |nil=>cases a
 |cons y t ih=>
  obtain⟨c,d⟩:=nodup_cons.1 (by simpa using b:(y.id::t.map (·.id)).Nodup)
  rcases mem_cons.1 a with rfl|a
  ·simp
  ·have:y.id≠r.id:=λe=>c (by rw[e];exact mem_map.2 ⟨r,a,rfl⟩)
   rw[List.find?_cons_of_neg (by simpa using this)]
   exact ih d a
theorem zgu {L:List yL} (c:(L.map (·.id)).Nodup) (d:L.Pairwise λa b=>a.seq<b.seq):(L.map (·.id)).Pairwise λa b=>za1 L a<za1 L b:=by
 rw[List.pairwise_map]
 refine(d.imp_of_mem fun {a b} ha hb h=>?_)
 rw[Qa c ha,Qa c hb]
 omega
def zaZ {L:List yL} (x:{h:zd // h∈L.map (·.id)}):List Value:=zf x.1
def zfT {L:List yL} (x y:{h:zd // h∈L.map (·.id)}):Int:=za1 L x.1-za1 L y.1
theorem zbd {L:List yL} (x y:{h:zd // h∈L.map (·.id)}):ltOf zfT x y=decide (za1 L x.1<za1 L y.1):=by
 unfold ltOf zfT
 by_cases h:za1 L x.1<za1 L y.1
 ·simp[h];omega
 ·simp[h];omega
theorem zn8 {L:List yL}:SWO (ltOf (zfT (L:=L))) where
 irrefl x:=by rw[zbd];simp
 trans x y z h1 h2:=by rw[zbd] at*;simp only[decide_eq_true_eq] at*;omega
 ntrans x y z h1 h2:=by rw[zbd] at*;simp only[decide_eq_false_iff_not] at*;omega
section
variable {w0 w:World} {p m sq:Nat} {L:List yL}
theorem zle (h:GR w0 w p m sq L) (g:sq≤1000) {W:World} (o:W.cell? ⟨bx,0,none⟩=some (.pointer (some ⟨p,0,none⟩))) (s:W.cell? ⟨p,0,none⟩=some (.map (some m))) (v:∀M,qH w m M→qH W m M) (k:∀r∈L,W.cell? ⟨r.b,0,none⟩=some (.int .i64 (r.seq:Int))) (x y:{h:zd // h∈L.map (·.id)}):
  Calls prog 139 #[.agg (zaZ x).toArray,.agg (zaZ y).toArray,.pointer (some ⟨bx,0,none⟩)] W λe w'=>e=.returned (.int .i64 (zfT x y))∧Yc W w':=by
 obtain⟨x,z⟩:=x
 obtain⟨y,A⟩:=y
 unfold zaZ zfT
 dsimp only
 obtain⟨b,c,rfl⟩:=mem_map.1 z
 obtain⟨a,d,rfl⟩:=mem_map.1 A
 rw[Qa h.idn c,Qa h.idn d]
 have l:=J (h.ok b c).1
 have n:=J (h.ok a d).1
 have G:=J (zx l.o)
 have H:=J (zx n.o)
 have i:=J ((h.run_look l.o false rfl).1 b c rfl)
 have j:=J ((h.run_look n.o false rfl).1 a d rfl)
 unfold Qo at i j
 unfold y7 at i j
 have B:=k b c
 have C:=k a d
 have Q:b.seq≤1000:=le_trans (h.top b c) g
 have R:a.seq≤1000:=le_trans (h.top a d) g
 have u:Fr No W ((W.alloc (.cells (zf b.id).toArray 41)).alloc (.cells (zf a.id).toArray 41)):=((frN W).alloc _).alloc _
 have E:=J ((((Yc.refl W).alloc (.cells (zf b.id).toArray 41)).alloc (.cells (zf a.id).toArray 41)).drew)
 have I:=J (za (zy W (zf b.id) 41) ((frN _).alloc (.cells (zf a.id).toArray 41)) id)
 have N:=@J (((W.alloc (.cells (zf b.id).toArray 41)).alloc (.cells (zf a.id).toArray 41)).rangeAt (W.heap.size+1) 0 (zf a.id)) (by
  have:=zy (W.alloc (.cells (zf b.id).toArray 41)) (zf a.id) 41
  simpa using this)
 have F:=J (λ(w':World) (f:Fr No W w')=>(⟨f.cell o id,f.cell s id,λM O=>(v M O).keep f id,f.cell B id,f.cell C id⟩:w'.cell? ⟨bx,0,none⟩=some (.pointer (some ⟨p,0,none⟩))∧w'.cell? ⟨p,0,none⟩=some (.map (some m))∧(∀M,qH w m M→qH w' m M)∧w'.cell? ⟨b.b,0,none⟩=some (.int .i64 (b.seq:Int))∧w'.cell? ⟨a.b,0,none⟩=some (.int .i64 (a.seq:Int))))
 have D:=J u
 clear h z A c d k v o s B C u g
 have P:IntKind.i64.wrap ((b.seq:Int)-(a.seq:Int))=(b.seq:Int)-(a.seq:Int):=by
  simp[IntKind.wrap,IntKind.bits,IntKind.signed]
  omega
 go_enter Tryz.func139,Tryz.ntmps139
 go_wp2_with fail
 generalize S:W.heap.size=q at*
 generalize (W.alloc (.cells (zf b.id).toArray 41)).alloc (.cells (zf a.id).toArray 41)=w1 at*
 refine wrLx [ff,ff,ff,ff,ff,ff,ff,ff,ff,ff,ff,ff,ff,ff,ff,ff,ff,ff,ff,ff] (λw'=>(w'.cell? ⟨bx,0,none⟩=some (.pointer (some ⟨p,0,none⟩))∧w'.cell? ⟨p,0,none⟩=some (.map (some m))∧(∀M,qH w m M→qH w' m M)∧w'.cell? ⟨b.b,0,none⟩=some (.int .i64 (b.seq:Int))∧w'.cell? ⟨a.b,0,none⟩=some (.int .i64 (a.seq:Int)))∧w'.rangeAt q 0 (zf b.id)∧w'.rangeAt (q+1) 0 (zf a.id)) ?_ (λK hK=>?_)
 ·exact⟨F.o _ D.o.drew,za I.o (frN _).drew id,za N.o (frN _).drew id⟩
 repeat((first|(refine zl rfl ?_;constructor;constructor;(focus(first|exact zog rfl (λw h=>h.2.1) G.o|exact zog rfl (λw h=>h.2.2) H.o|exact λw' h=>zM (t:=197) rfl rfl rfl (i.o w' h.1.2.2.1)|exact λw' h=>zM (t:=197) rfl rfl rfl (j.o w' h.1.2.2.1)|(rintro w' ⟨⟨T,U,V,X,Y⟩,Z,s7⟩;exact goS))))|(refine zm rfl ?_));try simp only[Act.put,pA,pB,pC])
 refine zL (hK.out _ _ ?_)
 go_wp2_with fail
 go_ret
 exact⟨by(try rw[P]);rfl,E.o⟩
theorem zhV:∀w,(isAgg (Tryz.laysK_ren.t 24)).run prog w=.ok true w:=λw=>by kernel_rfl
theorem ziv:∀w,(Go.sizeOf (Tryz.laysK_ren.t 24)).run prog w=.ok 32 w:=λw=>by kernel_rfl
theorem zm7 (h:GR w0 w p m sq L) (Y:sq≤1000) (cb:w.cell? ⟨bx,0,none⟩=some (.pointer (some ⟨p,0,none⟩))) {H S:List zd} (s:w.ownsRow B 41 32 v H.length (H.flatMap zf)) (hv:∀j,v.ownBlock=some j→j≠bx∧j∉yT p m L) (V:S.Perm H) (O:S.Sublist (L.map (·.id))) (hN:H.length≤100000):
  Calls prog 138 #[v,.func (.func 139) #[] #[.pointer (some ⟨bx,0,none⟩)]] w λe w'=>e=.returned (.tuple #[])∧w'.ownsRow B 41 32 v H.length (S.flatMap zf)∧Fr (λj=>v.ownBlock=some j) w w':=by
 by_cases h0:H=[]
 ·subst h0
  have hS:S=[]:=V.eq_nil
  subst hS
  obtain⟨va,vc,rfl⟩:=s.slice.arg.form
  refine(AnyF.slices_SortFunc_none Tryz.laysK va vc (.func (.func 139) #[] #[.pointer (some ⟨bx,0,none⟩)]) w).mono ?_
  rintro e w' ⟨rfl,rfl⟩
  exact⟨rfl,s,Fr.refl _ _⟩
 ·have U:H.length≠0:=λe=>h0 (List.eq_nil_of_length_eq_zero e)
  obtain⟨g,c,rfl⟩:∃g c,v=.slice (some ⟨g,0,none⟩) H.length c:=by
   rcases s.2 with⟨_,e⟩|⟨g,c,aa,e,_⟩
   ·exact absurd e U
   ·exact⟨g,c,e⟩
  obtain⟨l,P⟩:=zc0 (q:=λh=>h∈L.map (·.id)) H (λx hx=>O.subset (V.mem_iff.2 hx))
  subst P
  obtain⟨x0,hx0⟩:∃x,x∈l:=by
   cases l with
   |nil=>exact absurd rfl h0
   |cons a t=>exact⟨a,by simp⟩
  haveI:Inhabited {h:zd // h∈L.map (·.id)}:=⟨x0⟩
  have hf:(l.map Subtype.val).flatMap zf=l.flatMap zaZ:=by rw[List.flatMap_map];rfl
  rw[hf,length_map] at s
  rw[length_map] at hN hv⊢
  have eg:∀args w,(callFunc 139 args).run prog w=.ok (.enter 139 args) w:=enters_of Tryz.func139 (by kernel_rfl) rfl
  have K:∀x:{h:zd // h∈L.map (·.id)},(zaZ x).length=32:=λx=>by
   obtain⟨r,N,e⟩:=mem_map.1 x.2
   unfold zaZ
   rw[←e]
   exact zx (h.ok r N).1
  have hg:=hv g rfl
  have Q:CmpLays prog 139 #[.pointer (some ⟨bx,0,none⟩)] zaZ 32 zfT g 0 l.toArray.size w:=λm' os dk R x y=>by
   obtain⟨-,f⟩:=zcg zaZ 32 K s (d':=dk) (by rw[R,size_toArray]) m' os
   have u:∀j∈yT p m L,¬j=g:=λj k e=>hg.2 (e▸k)
   refine(zle h Y (f.cell cb (λe=>hg.1 e.symm)) (f.cell (Vf h.obj).1 (u p (by simp[yT]))) (λM hM=>hM.keep f (u m (by simp[yT]))) (λr N=>f.cell (Y7 (h.node r N).blk).1 (u r.b (by simp only[yT,mem_cons,List.mem_flatMap];exact .inr (.inr ⟨r,N,by simp[yL.blks]⟩)))) x y).mono λ_ _ ⟨he,hq⟩=>⟨he,hq⟩
  have o:=AnyQ.slices_SortFunc Tryz.laysK 32 zhV ziv zaZ K (λx=>zU) zfT zn8 139 #[.pointer (some ⟨bx,0,none⟩)] g 0 c l.toArray w eg Q (zcS zaZ 32 K s) (s.lt g rfl).2 (by rw[size_toArray];omega)
  rw[size_toArray] at o
  refine o.mono ?_
  rintro e w' ⟨rfl,d',n,os,F,X,rfl⟩
  have W:=(zgu h.idn h.seqs).sublist O
  have hd:d'.toList.map Subtype.val=S:=sorted_perm Subtype.val (r:=λa b=>decide (za1 L a<za1 L b)) zbd (d:=l.toArray) (by rw[size_toArray];exact F) (by rw[size_toArray];exact X) V
   (W.imp (fun {a b} h=>by simp;omega))
   (λa ha b hb h1 h2=>by
    simp only[decide_eq_false_iff_not] at h1 h2
    obtain⟨r1,G,rfl⟩:=mem_map.1 (O.subset ha)
    obtain⟨r2,I,rfl⟩:=mem_map.1 (O.subset hb)
    rw[Qa h.idn G,Qa h.idn I] at h1 h2
    obtain⟨i,hi⟩:=List.mem_iff_getElem?.1 G
    obtain⟨j,k⟩:=List.mem_iff_getElem?.1 I
    have E:=List.pairwise_iff_getElem.1 h.seqs
    obtain⟨z,A⟩:=List.getElem?_eq_some_iff.1 hi
    obtain⟨C,D⟩:=List.getElem?_eq_some_iff.1 k
    have:i=j:=by
     rcases Nat.lt_trichotomy i j with e|e|e
     ·have:=E i j z C e;rw[A,D] at this;omega
     ·exact e
     ·have:=E j i C z e;rw[A,D] at this;omega
    subst this
    rw[hi] at k
    injection k with k
    rw[k])
  have Z:d'.size=l.length:=by have:=F.1;rw[size_toArray] at this;exact this
  obtain⟨ho,fo⟩:=zcg zaZ 32 K s Z n os
  have T:d'.toList.flatMap zaZ=S.flatMap zf:=by rw[←hd,List.flatMap_map];rfl
  rw[T] at ho
  exact⟨rfl,ho,fo.mono (λj k=>by rw[k];rfl)⟩
end
end
section
open Go.Sort
abbrev ziP (w:World) (r b:Nat) (M R:List (zd×Int)):=j8 prog 41 y7 zaY w r b M R
theorem keys_perm {M:List (zd×Int)} {S:List zd} (b:(M.map (·.1)).Nodup) (a:∀k c,(k,c)∈M↔c=1∧k∈S) (hS:S.Nodup):S.Perm (M.map (·.1)):=by
 refine(List.perm_ext_iff_of_nodup hS b).2 (λx=>?_)
 constructor
 ·intro h
  exact mem_map.2 ⟨(x,1),(a x 1).2 ⟨rfl,h⟩,rfl⟩
 ·intro h
  obtain⟨⟨y,c⟩,d,rfl⟩:=mem_map.1 h
  exact((a y c).1 d).2
theorem zdL {w:World} {e:TypeId} {r b:Nat} {M R:List (zd×Int)} (h:w.ownsRow B e k v n xs) (l:ziP w r b M R):∀j,v.ownBlock=some j→j≠r:=by
 obtain⟨es,f,seen,-,-,-,-,-,-,c,-⟩:=l
 rcases h.2 with⟨rfl,_⟩|⟨g,d,i,rfl,_,m,_⟩
 ·intro j a;cases a
 ·intro j a e
  simp[Value.ownBlock] at a
  subst a e
  rw[m] at c
  cases c
theorem zbY {w:World} {c:Array Value} (h:w.ownsRow B 41 k v n xs) (a:w.heap[bx]? =some (.cells c 135 (0,0))):∀j,v.ownBlock=some j→j≠bx:=by
 rcases h.2 with⟨rfl,_⟩|⟨g,d,f,rfl,_,i,_⟩
 ·intro j b;cases b
 ·intro j b e
  simp[Value.ownBlock] at b
  subst b e
  rw[i] at a
  injection a with a
  injection a with _ a
  revert a
  decide
section
variable {w0 w:World} {p N:Nat} {V:Nat→Prop} {G:List yX}
theorem zcf (h:GC w0 w p V G N) (hN:N≤1000) {M:List (zd×Int)} {S:List zd} (E:JV w b M) (hs:∀k c,(k,c)∈M↔c=1∧k∈S) (f:S.Sublist (ids G)):
  Calls prog 100 #[.pointer (some ⟨p,0,none⟩),.map (some b)] w λe w'=>∃v,e=.returned v∧w'.ownsRow w.heap.size 41 32 v S.length (S.flatMap zf)∧Fr No w w':=by
 have X:S.Nodup:=h.gok.nd.sublist f
 have aG:S.length≤1000:=by
  have:=f.length_le
  have:=h.len
  simp only[ids,length_map] at*
  omega
 have LM:=@J (M.length=S.length) (by rw[(keys_perm E.nodup hs X).length_eq,length_map])
 have f1:Fr No w (w.alloc (.cells #[.pointer (some ⟨p,0,none⟩)] 135)):=(frN w).alloc _
 have aC:=(zaV (yj w (.cells #[.pointer (some ⟨p,0,none⟩)] 135))).1
 have Z:=E.keep f1 id
 have LR:=J (λty=>Z.lenRun jt ty)
 obtain⟨iK,hi,hz,al,ae⟩:=info_parts qm
 obtain⟨w2,aE,aj,af⟩:=run_makeSlice_owned (P:=prog) (w:=w.alloc (.cells #[.pointer (some ⟨p,0,none⟩)] 135)) w.heap.size 38 41 iK _ 32 xP hi hz al .i64 .i64 M.length (by rw[LM.o];omega) (by rw[ae,LM.o];omega) (by rw[LM.o];unfold maxLen;omega) (by simp)
 have f2:Fr No (w.alloc (.cells #[.pointer (some ⟨p,0,none⟩)] 135)) w2:=Fr.of_grown af (λk e=>by cases e)
 have ah:=Z.keep f2 id
 obtain⟨d,Q,hit⟩:=ah.rangeI jt
 have HS:=J hs
 have ax:=J X
 have az:=@J (∀x∈M,zY x.1) (λx hx=>h.okId x.1 (f.subset ((hs x.1 x.2).1 hx).2))
 have au:=J E.nodup
 have aq:=J hit
 have F0:=J ((f1.trans0 f2).alloc (.mapIter (some b) d #[] d))
 have CB:=J ((f2.alloc (.mapIter (some b) d #[] d)).obj (yj w (.cells #[.pointer (some ⟨p,0,none⟩)] 135)) id)
 have av:=@J ((w2.alloc (.mapIter (some b) d #[] d)).ownsRow w.heap.size 41 32 (.slice (some ⟨w.heap.size+1,0,none⟩) 0 M.length) 0 []) (by have:=aj.alloc (.mapIter (some b) d #[] d);simpa using this)
 have HB:=@J (w.heap.size<w2.heap.size) (by have:=f2.size;simp at this;omega)
 have HC:=J h
 have ay:=J E.lt
 have aA:=J f
 have zh:=yS
 clear h E Z hs f hi hz al ae aj af f2 hit f1 aC X ah
 go_enter Tryz.func100,Tryz.ntmps100
 go_wp2_with (first|(refine zg rfl (jj rfl rfl (LR.o _)) ?_)|(refine jY rfl rfl rfl Q ?_))
 generalize hq:w2.heap.size=r at*
 generalize w2.alloc (.mapIter (some b) d #[] d)=W at*
 clear Q aE LR
 try simp only[Act.put,pA,pB,pC]
 generalize aD:w.heap.size=bx at*
 go_loopg [5] M.length (λn l wr=>∃(D R:List (zd×Int)),(D++R).Perm M∧R.length=n∧ziP wr r b M R∧wr.ownsRow bx 41 32 l D.length ((D.map (·.1)).flatMap zf)∧wr.heap[bx]? =some (.cells #[.pointer (some ⟨p,0,none⟩)] 135 (0,0))∧Fr No w wr)
 case atStart=>exact⟨[],M,List.Perm.refl _,rfl,aq.o,av.o,CB.o,F0.o⟩
 case round=>
  obtain⟨D,R,a,E,hI,u,s,y⟩:=hrel
  cases R with
  |nil=>
   have F:=hI.stop
   rw[List.append_nil] at a
   have hp:=keys_perm au.o HS.o ax.o
   have g:S.Perm (D.map (·.1)):=hp.trans (a.symm.map _)
   have q:D.length=S.length:=by rw[g.length_eq,length_map]
   obtain⟨m,sq,L,hr,-,hG,-,aF⟩:=HC.o.ex
   have I:ids G=L.map (·.id):=by rw[←hG];simp[ids,Function.comp]
   have o:=zm7 (hr.fr0 y) (by omega) (bx:=bx) (B:=bx) (zaV s).1 (H:=D.map (·.1)) (by rw[length_map];exact u) (λj hj=>⟨zbY u s j hj,λe=>by have:=(u.lt j hj).1;have:=hr.hi j e;omega⟩) g (by rw[←I];exact aA.o) (by rw[length_map,q];omega)
   rw[length_map,q] at o
   have T:=J o
   have FR:=J y
   have HO:=J u
   obtain⟨la,lc,ag⟩:=u.slice.arg.form
   rw[q] at ag
   subst ag
   clear hI u a E y hp g o q s hr hG aF I
   go_wp2_with (first|(refine xF rfl rfl rfl (F _) ?_)|(go_at_call 138;refine T.o.mono ?_;rintro e w5 ⟨rfl,z,f5⟩))
   go_ret
   exact⟨.slice la S.length lc,by rfl,by rw[aD];exact z,FR.o.trans f5 (λi hi e=>by have:=(HO.o.lt i e).1;omega)⟩
  |cons x0 R0=>
   obtain⟨A,x,B,w3,C,F,ab,f3,O⟩:=hI.step (by simp) 0
   have hx:x∈M:=a.subset (by rw[C];simp)
   have aB:=J (az.o x hx)
   have HX:=J (zx aB.o)
   have g:((D++[x])++(A++B)).Perm M:=by
    refine List.Perm.trans ?_ a
    rw[C,List.append_assoc]
    exact List.Perm.append_left _ (show(x::(A++B)).Perm (A++x::B) from List.perm_middle.symm)
   have q:D.length≤100000:=by have:=g.length_eq;have:=LM.o;simp at this⊢;simp at*;omega
   have aa:=zdL u hI
   have ai:=zbY u s
   have t5:Fr No w3 (w3.alloc (.cells (zf x.1).toArray 41)):=(frN w3).alloc _
   have ak:=zb (zb u f3 (λj e e'=>aa j e e')) t5 (λ_ _=>id)
   have K:=t5.obj (f3.obj s (λe=>by have:=HB.o;omega)) id
   have Y:=λj e=>u.lt j e
   have U:Fr No w (w3.alloc (.cells (zf x.1).toArray 41)):=(y.trans f3 (λi hi e=>by have:=HB.o;omega)).trans0 t5
   obtain⟨v5,w5,ad,z,f5,-,-⟩:=yY (P:=prog) _ bx 38 38 41 32 32 _ xP qm rfl (by decide) ak (zf x.1) HX.o zU (by omega) (by unfold maxLen;omega) (by have:=U.size;omega)
   have aw:=@J (w5.ownsRow bx 41 32 v5 (D++[x]).length (((D++[x]).map (·.1)).flatMap zf)) (by simpa using z)
   have ar:=J ((ab.keep t5 id id).keep f5 (λe=>by have:=(Y b e).1;have:=ay.o;omega) (λe=>aa r e rfl))
   have F5:=J (U.trans f5 (λi hi e=>by have:=(Y i e).1;omega))
   have an:=J (f5.obj K (λe=>ai bx e rfl))
   obtain⟨la,lc,rfl⟩:=u.slice.arg.form
   obtain⟨a5,c5,rfl⟩:=z.slice.arg.form
   have ao:=J ad
   have HP:=J g
   have HR:=@J ((A++B).length<gk) (by rw[←E,C];simp)
   have RN:=J (zy w3 (zf x.1) 41)
   clear hI ab u ak z y U hx g q t5 ad f5 C a E f3 aa Y s K ai
   unfold y7 zaY at F O
   go_wp2_with (first|refine xF rfl rfl rfl F ?_|refine vP rfl rfl rfl O ?_|(refine zi rfl (zj (w:=w3) (cs:=zf x.1) (ty:=41) rfl rfl rfl (by rw[HX.o];rfl) (by rw[HX.o];exact yt) zU) ?_)|(refine zoc rfl rfl rfl RN.o HX.o ?_)|(refine zg rfl (zS (t:=38) rfl rfl xP qK rfl (by decide) (by decide) HX.o) ?_)|(at_builtin;refine zQ rfl rfl rfl rfl ao.o ?_))
   go_roundg (A++B).length
   case measure=>exact HR.o
   case rel=>exact⟨D++[x],A++B,HP.o,rfl,ar.o,aw.o,an.o,F5.o⟩
end
end
section
open Go.Sort
theorem Xv {w:World} {e:TypeId} (h:w.ownsRow B e k v n xs) (j:b≤B):w.ownsRow b e k v n xs:=
 ⟨h.1,h.2.imp id λ⟨g,i,a,c,d,f⟩=>⟨g,i,a,c,le_trans j d,f⟩⟩
def RowK (w w':World) (v:Value) (S:List zd):Prop:=w'.ownsRow w.heap.size 41 32 v S.length (S.flatMap zf)∧Fr No w w'
section
variable {w0 w:World} {p N:Nat} {V:Nat→Prop} {G:List yX}
theorem Qq (a:Bool) (l:List zd):(zdT a G l).Sublist (ids G):=by
 cases a
 ·exact vl l
 ·exact jQ l
theorem znb (h:GC w0 w p V G N) (i:N≤1000) {l:List zd} (j:yP w v l) (c:l.length≤1000):
  Calls prog 87 #[.pointer (some ⟨p,0,none⟩),v] w λe w'=>∃o,e=.returned o∧RowK w w' o (upS G l):=by
 have d:=J h
 have r:=J j
 clear h j
 go_enter Tryz.func87,Tryz.ntmps87
 go_wp2_with (first|(go_at_call 93;refine(zgF d.o i r.o c true).mono ?_;rintro e z ⟨b,M,rfl,k,m,x,f⟩;have s:=J k;have t:=J m;have a:=J f;clear k m f)|(go_at_call 100;refine(zcf (d.o.fr0 a.o) i s.o t.o (Qq true l)).mono ?_;rintro e A ⟨y,rfl,n,g⟩;have u:=J (Xv n a.o.size);have q:=J (a.o.trans0 g);clear n g))
 go_ret
 exact⟨_,rfl,u.o,q.o⟩
theorem zmB (h:GC w0 w p V G N) (i:N≤1000) {l:List zd} (j:yP w v l) (c:l.length≤1000):
  Calls prog 131 #[.pointer (some ⟨p,0,none⟩),v] w λe w'=>∃o,e=.returned o∧RowK w w' o (vk G l):=by
 have d:=J h
 have r:=J j
 clear h j
 go_enter Tryz.func131,Tryz.ntmps131
 go_wp2_with (first|(go_at_call 93;refine(zgF d.o i r.o c false).mono ?_;rintro e z ⟨b,M,rfl,k,m,x,f⟩;have s:=J k;have t:=J m;have a:=J f;clear k m f)|(go_at_call 100;refine(zcf (d.o.fr0 a.o) i s.o t.o (Qq false l)).mono ?_;rintro e A ⟨y,rfl,n,g⟩;have u:=J (Xv n a.o.size);have q:=J (a.o.trans0 g);clear n g))
 go_ret
 exact⟨_,rfl,u.o,q.o⟩
theorem ziY (h:GC w0 w p V G N) (hN:N≤1000):
  Calls prog 55 #[.pointer (some ⟨p,0,none⟩)] w λe w'=>∃v',e=.returned v'∧RowK w w' v' (ids G):=by
 obtain⟨m,sq,L,hr,-,hG,-,-⟩:=h.ex
 have s:ids G=L.map (·.id):=by rw[←hG];simp[ids,Function.comp]
 obtain⟨j,hM,E⟩:=hr.map
 have Y:Fr No w (w.alloc (.map #[] 0)):=(frN w).alloc _
 have S:=hM.keep Y id
 obtain⟨g,v,hit⟩:=S.rangeI J8
 have c1:=Y.cell (Vf hr.obj).1 id
 have d:=(show JV (w.alloc (.map #[] 0)) w.heap.size [] from yD.made w)
 have f2:Fr No (w.alloc (.map #[] 0)) ((w.alloc (.map #[] 0)).alloc (.mapIter (some m) g #[] g)):=(frN _).alloc _
 have aa:=@J (j8 prog 41 y7 Qo ((w.alloc (.map #[] 0)).alloc (.mapIter (some m) g #[] g)) (w.heap.size+1) m j j) (by rw[show w.heap.size+1=(w.alloc (.map #[] 0)).heap.size by simp];exact hit)
 have ae:=J (d.keep f2 id)
 have F0:=J (Y.trans0 f2)
 have m1:=zaA
 have KS:=@J (∀k,k∈j.map (·.1)↔k∈ids G) (λk=>by
  rw[s]
  constructor
  ·intro hk
   obtain⟨⟨k',b'⟩,z,rfl⟩:=mem_map.1 hk
   obtain⟨r,H,e,-⟩:=(E k' b').1 z
   exact mem_map.2 ⟨r,H,e⟩
  ·intro hk
   obtain⟨r,H,rfl⟩:=mem_map.1 hk
   exact mem_map.2 ⟨(r.id,r.b),(E _ _).2 ⟨r,H,rfl,rfl⟩,rfl⟩)
 have LN:=@J (j.length≤1000) (by
  have:=qp (m:=ids G) hM.nodup (λx z=>(KS.o x).1 z)
  have Z:=h.len
  simp only[ids,length_map] at this
  omega)
 have ah:=@J (∀x∈j,zY x.1) (λx z=>h.okId x.1 ((KS.o x.1).1 (mem_map.2 ⟨x,z,rfl⟩)))
 have HC:=J h
 have MB:=J hM.lt
 have zh:=yS
 clear h hr hG s hM E S hit d Y f2
 go_enter Tryz.func55,Tryz.ntmps55
 go_wp2_with (refine jY rfl rfl rfl v ?_)
 rw[show(w.alloc (.map #[] 0)).heap.size=w.heap.size+1 by simp]
 generalize (w.alloc (.map #[] 0)).alloc (.mapIter (some m) g #[] g)=W at*
 generalize hb:w.heap.size=b at*
 clear v m1 c1
 try simp only[Act.put,pA,pB,pC]
 go_loopg [] j.length (λn wr=>∃(D R:List (zd×Nat)) (K:List (zd×Int)),(D++R).Perm j∧R.length=n∧j8 prog 41 y7 Qo wr (b+1) m j R∧JV wr b K∧(∀k c,(k,c)∈K↔c=1∧k∈D.map (·.1))∧K.length≤D.length∧Fr No w wr)
 case atStart=>exact⟨[],j,[],List.Perm.refl _,rfl,aa.o,ae.o,by simp,le_refl _,F0.o⟩
 case round=>
  obtain⟨D,R,K,a,hm,hI,d,f,T,o⟩:=hrel
  cases R with
  |nil=>
   have q:=hI.stop
   rw[List.append_nil] at a
   have FR:=J o
   have HM:=J d
   have HS:=@J (∀k c,(k,c)∈K↔c=1∧k∈ids G) (λk c=>by
    rw[f,←KS.o,(a.map (·.1)).mem_iff])
   clear hI a hm o d f T
   go_wp2_with (first|(refine xF rfl rfl rfl (q _) ?_)|(go_at_call 100;refine(zcf (HC.o.fr0 FR.o) hN HM.o HS.o (List.Sublist.refl _)).mono ?_;rintro e O ⟨v3,rfl,o3,M⟩;have O3:=J (Xv o3 FR.o.size);have F3:=J (FR.o.trans0 M);clear o3 M))
   go_ret
   exact⟨_,rfl,O3.o,F3.o⟩
  |cons x0 R0=>
   obtain⟨A,x,B,O,l,q,Q,M,t⟩:=hI.step (by simp) 0
   have z:x∈j:=a.subset (by rw[l];simp)
   have P:=J (ah.o x z)
   have HX:=J (zx P.o)
   have F:((D++[x])++(A++B)).Perm j:=by
    refine List.Perm.trans ?_ a
    rw[l,List.append_assoc]
    exact List.Perm.append_left _ (show(x::(A++B)).Perm (A++x::B) from List.perm_middle.symm)
   have ai:D.length≤1000:=by have:=F.length_eq;have:=LN.o;simp at this⊢;simp at*;omega
   have t5:Fr No O (O.alloc (.cells (zf x.1).toArray 41)):=(frN O).alloc _
   have aj:=d.lt
   obtain⟨w4,C,X,u,y,I,U⟩:=((d.keep M (by omega)).keep t5 id).upd xR.keyed jt (λ_ _=>y3) (yu P.o) (show K.length<maxLen by unfold maxLen;omega) 1
   have f4:Fr No w w4:=((o.trans M (λi hi e=>by omega)).trans0 t5).trans I.fr (λi hi e=>by omega)
   have ab:=J ((Q.keep t5 id id).keep I.fr (by have:=MB.o;omega) (by omega))
   have af:=J u
   have ag:=@J (∀k c,(k,c)∈C↔c=1∧k∈(D++[x]).map (·.1)) (λk c=>by
    rw[y,f,map_append,mem_append]
    constructor
    ·rintro(⟨rfl,rfl⟩|⟨_,Z,h3⟩)
     ·exact⟨rfl,.inr (by simp)⟩
     ·exact⟨Z,.inl h3⟩
    ·rintro⟨rfl,Z⟩
     by_cases e:k=x.1
     ·exact .inl ⟨e,rfl⟩
     ·exact .inr ⟨e,rfl,Z.elim id (λh=>absurd (by simpa using h) e)⟩)
   have ad:=@J (C.length≤(D++[x]).length) (by simp;omega)
   have F4:=J f4
   have HP:=J F
   have HR:=@J ((A++B).length<gk) (by rw[←hm,l];simp)
   have RN:=J (zy O (zf x.1) 41)
   clear hI Q o z F ai t5 l a hm M aj d f T u y I U f4
   unfold y7 Qo at q t
   unfold y7 zaY at X
   go_wp2_with (first|refine xF rfl rfl rfl q ?_|refine vP rfl rfl rfl t ?_|(refine zi rfl (zj (w:=O) (cs:=zf x.1) (ty:=41) rfl rfl rfl (by rw[HX.o];rfl) (by rw[HX.o];exact yt) zU) ?_)|(refine zoc rfl rfl rfl RN.o HX.o ?_)|(refine zi rfl (y4 rfl rfl rfl rfl X) ?_))
   go_roundg (A++B).length
   case measure=>exact HR.o
   case rel=>exact⟨D++[x],A++B,C,HP.o,rfl,ab.o,af.o,ag.o,ad.o,F4.o⟩
end
end
abbrev Tri:=zd×List zd×List zd
def yL.t3 (r:yL):Tri:=(r.id,r.ps,r.ks)
def JJ (G:List yX):List Tri:=G.map λn=>(n.id,n.ps,kid G n.id)
theorem J6 (G:List yX):(JJ G).map (·.1)=ids G:=by simp[JJ,ids,Function.comp]
theorem step_map {T:List Tri} (h:(T.map (·.1)).Nodup) {f g:Tri→Tri} (o:∀t,(f t).1=t.1) {q:zd} {A B:List yL} {r j:yL} (d:(A++r::B).map yL.t3=T.map f) (v:r.id=q) (u:∀t∈T,t.1=q→f t=r.t3→g t=j.t3) (a:∀t∈T,t.1≠q→g t=f t):(A++j::B).map yL.t3=T.map g:=by
 rw[map_append,map_cons] at d⊢
 obtain⟨C,T2,rfl,l,k⟩:=List.map_eq_append_iff.1 d.symm
 obtain⟨t,D,rfl,i,n⟩:=List.map_eq_cons_iff.1 k
 have c:t.1=q:=by rw[←o t,i];exact v
 rw[map_append,map_cons] at h
 obtain⟨E,x,y⟩:=nodup_append.1 h
 obtain⟨z,F⟩:=nodup_cons.1 x
 rw[map_append,map_cons,←l,←n]
 congr 1
 ·refine map_congr_left λs b=>(a s (by simp[b]) λe=>?_).symm
  exact y s.1 (mem_map.2 ⟨s,b,rfl⟩) t.1 (by simp) (by rw[e,c])
 ·congr 1
  ·exact(u t (by simp) c i).symm
  ·refine map_congr_left λs b=>(a s (by simp[b]) λe=>?_).symm
   exact z (by rw[c,←e];exact mem_map.2 ⟨s,b,rfl⟩)
theorem Vp {T:List Tri} {f:Tri→Tri} (d:∀t,(f t).1=t.1) {L:List yL} (c:L.map yL.t3=T.map f) {q:zd} (g:q∈T.map (·.1)):∃A r B,L=A++r::B∧r.id=q∧∃t∈T,t.1=q∧f t=r.t3:=by
 obtain⟨t,a,rfl⟩:=mem_map.1 g
 have b:f t∈L.map yL.t3:=by rw[c];exact mem_map.2 ⟨t,a,rfl⟩
 obtain⟨r,h,e⟩:=mem_map.1 b
 obtain⟨A,B,rfl⟩:=List.append_of_mem h
 refine⟨A,r,B,rfl,?_,t,a,rfl,e.symm⟩
 have:=congrArg Prod.fst e
 rw[d] at this
 exact this
section
variable {w0 w:World} {p m sq:Nat} {A B:List yL} {r:yL}
theorem GR.blks_nodup (h:GR w0 w p m sq (A++r::B)):r.blks.Nodup:=by
 have:=h.apart
 rw[xD] at this
 exact(nodup_append.1 (nodup_append.1 this).2.1).1
theorem vo {j:Nat}:j∈r.blks↔j=r.b∨r.pv.ownBlock=some j∨r.cv.ownBlock=some j:=by
 unfold yL.blks
 simp only[mem_cons,mem_append,Option.mem_toList]
theorem Qz (h:r.blks.Nodup):(r.pv.ownBlock≠some r.b)∧(r.cv.ownBlock≠some r.b)∧∀j,r.pv.ownBlock=some j→r.cv.ownBlock≠some j:=by
 unfold yL.blks at h
 obtain⟨a,d⟩:=nodup_cons.1 h
 obtain⟨g,i,f⟩:=nodup_append.1 d
 refine⟨λe=>a (by simp[e]),λe=>a (by simp[e]),λj b c=>f j (by simp[b]) j (by simp[c]) rfl⟩
theorem zdr {f d:Value} (k:f.ownBlock≠some b) (l:d.ownBlock≠some b) (n:∀j,f.ownBlock=some j→d.ownBlock≠some j):(b::(f.ownBlock.toList++d.ownBlock.toList)).Nodup:=by
 refine nodup_cons.2 ⟨λh=>?_,nodup_append.2 ⟨?_,?_,λa g c i e=>?_⟩⟩
 ·simp only[mem_append,Option.mem_toList] at h
  exact h.elim k l
 ·cases f.ownBlock<;>simp
 ·cases d.ownBlock<;>simp
 ·rw[Option.mem_toList] at g i
  exact n a g (by rw[e];exact i)
theorem GR.setc (h:GR w0 w p m sq (A++r::B)) {a:Value} {b:List zd} (f:Fr (λj=>r.cv.ownBlock=some j) w c) (z:c.ownsRow w0.heap.size 41 32 a b.length (b.flatMap zf)) (k:∀j,a.ownBlock=some j→r.cv.ownBlock=some j∨w.heap.size≤j) (ok:∀x∈b,zY x):
  GR w0 (c.setCell ⟨r.b,2,none⟩ a) p m sq (A++{r with ks:=b,cv:=a}::B)∧Fr (λj=>j∈r.blks) w (c.setCell ⟨r.b,2,none⟩ a):=by
 have l:=h.blks_nodup
 obtain⟨o,q,s⟩:=Qz l
 have i:=h.node r (by simp)
 have y:=yF i.blk
 have t:Fr (λj=>j∈r.blks) w (c.setCell ⟨r.b,2,none⟩ a):=(f.mono (λj e=>vo.2 (.inr (.inr e)))).setCell ⟨r.b,2,none⟩ (.inr (vo.2 (.inl rfl))) a
 have u:Fr (λj=>j=r.b) c (c.setCell ⟨r.b,2,none⟩ a):=(Fr.refl (λj=>j=r.b) c).setCell ⟨r.b,2,none⟩ (.inr rfl) a
 have v:a.ownBlock≠some r.b:=λe=>(k _ e).elim q (λe=>by omega)
 have n:=λj e=>(i.prow.lt j e).2
 refine⟨h.turn t (λ_ h=>h) ⟨?_,?_,?_⟩ rfl rfl rfl (λj d=>?_) ?_ ⟨(h.ok r (by simp)).1,(h.ok r (by simp)).2.1,ok⟩,t⟩
 ·have:=heap_setCell_same c r.b 2 _ _ a (f.obj i.blk q)
  simpa using this
 ·exact zb (zb i.prow f (λj e=>s j e)) u (λj e g=>o (by rw[e,g]))
 ·exact zb z u (λj e g=>v (by rw[e,g]))
 ·rw[vo] at d⊢
  rcases d with d|d|d
  ·exact .inl (.inl d)
  ·exact .inl (.inr (.inl d))
  ·exact(k j d).imp (λe=>.inr (.inr e)) id
 ·refine zdr o v λj e g=>?_
  rcases k j g with h1|h1
  ·exact s j e h1
  ·have:=n j e;omega
theorem GR.setp (h:GR w0 w p m sq (A++r::B)) {a:Value} {b:List zd} (f:Fr (λj=>r.pv.ownBlock=some j) w c) (C:c.ownsRow w0.heap.size 41 32 a b.length (b.flatMap zf)) (l:∀j,a.ownBlock=some j→r.pv.ownBlock=some j∨w.heap.size≤j) (ok:∀x∈b,zY x):
  GR w0 (c.setCell ⟨r.b,1,none⟩ a) p m sq (A++{r with ps:=b,pv:=a}::B)∧Fr (λj=>j∈r.blks) w (c.setCell ⟨r.b,1,none⟩ a):=by
 have n:=h.blks_nodup
 obtain⟨o,q,s⟩:=Qz n
 have i:=h.node r (by simp)
 have z:=yF i.blk
 have t:Fr (λj=>j∈r.blks) w (c.setCell ⟨r.b,1,none⟩ a):=(f.mono (λj e=>vo.2 (.inr (.inl e)))).setCell ⟨r.b,1,none⟩ (.inr (vo.2 (.inl rfl))) a
 have u:Fr (λj=>j=r.b) c (c.setCell ⟨r.b,1,none⟩ a):=(Fr.refl (λj=>j=r.b) c).setCell ⟨r.b,1,none⟩ (.inr rfl) a
 have v:a.ownBlock≠some r.b:=λe=>(l _ e).elim o (λe=>by omega)
 have k:=λj e=>(i.crow.lt j e).2
 refine⟨h.turn t (λ_ h=>h) ⟨?_,?_,?_⟩ rfl rfl rfl (λj d=>?_) ?_ ⟨(h.ok r (by simp)).1,ok,(h.ok r (by simp)).2.2⟩,t⟩
 ·have:=heap_setCell_same c r.b 1 _ _ a (f.obj i.blk o)
  simpa using this
 ·exact zb C u (λj e g=>v (by rw[e,g]))
 ·exact zb (zb i.crow f (λj e y=>s j y e)) u (λj e g=>q (by rw[e,g]))
 ·rw[vo] at d⊢
  rcases d with d|d|d
  ·exact .inl (.inl d)
  ·exact(l j d).imp (λe=>.inr (.inl e)) id
  ·exact .inl (.inr (.inr d))
 ·refine zdr v q λj e g=>?_
  rcases l j e with h1|h1
  ·exact s j h1 g
  ·have:=k j g;omega
end
theorem GC.tri {w0 w:World} {p N:Nat} {V:Nat→Prop} {G:List yX} (h:GC w0 w p V G N):∃m sq L,GR w0 w p m sq L∧V=(λj=>j∈yT p m L)∧L.map yL.t3=JJ G∧sq≤N:=by
 obtain⟨m,sq,L,e,f,d,a,c⟩:=h.ex
 refine⟨m,sq,L,e,f,?_,c⟩
 rw[JJ]
 conv=>rhs;rw[←d]
 rw[map_map]
 refine map_congr_left λr b=>?_
 simp only[yL.t3,Function.comp,a r b,d]
theorem GC.of_tri {w0 w:World} {p m sq N:Nat} {G:List yX} {L:List yL} (g:GR w0 w p m sq L) (c:L.map yL.t3=JJ G) (b:sq≤N) (ok:GOk G) (f:G.length≤N):GC w0 w p (λj=>j∈yT p m L) G N:=by
 refine⟨⟨m,sq,L,g,rfl,?_,λr a=>?_,b⟩,ok,f⟩
 ·have:=congrArg (List.map λt:Tri=>(⟨t.1,t.2.1⟩:yX)) c
  rw[map_map,JJ,map_map] at this
  refine this.trans ?_
  conv=>rhs;rw[←List.map_id G]
  rfl
 ·have d:r.t3∈JJ G:=by rw[←c];exact mem_map.2 ⟨r,a,rfl⟩
  obtain⟨n,h,e⟩:=mem_map.1 d
  unfold yL.t3 at e
  injection e with e1 e2
  injection e2 with e2 e3
  rw[←e3,e1]
def zcr (x:zd) (done:List zd) (t:Tri):Tri:=(t.1,t.2.1,if t.1∈done then t.2.2.filter (λy=>decide (y≠x)) else t.2.2)
def zaW (x:zd) (ps done:List zd) (t:Tri):Tri:=(t.1,if t.1∈done then t.2.1.filter (λy=>decide (y≠x)) else t.2.1,if t.1∈ps then t.2.2.filter (λy=>decide (y≠x)) else t.2.2)
theorem zcO {x:zd} {l:List zd} (h:x∉l):l.filter (λy=>decide (y≠x))=l:=filter_eq_self.2 λy a=>by simp;rintro rfl;exact h a
theorem zkT {G:List yX} (ok:GOk G) (x:zd):JJ (QH G x)=((JJ G).map (zaW x (par G x) (kid G x))).filter λt=>decide (t.1≠x):=by
 have j:∀y,kid (QH G x) y=if y=x then[] else(kid G y).filter λz=>decide (z≠x):=by
  intro y
  by_cases e:y=x
  ·subst e
   rw[if_pos rfl]
   refine List.eq_nil_iff_forall_not_mem.2 λz l=>?_
   obtain⟨n,c,-,k⟩:=zbe.1 l
   unfold QH at c
   obtain⟨o,-,rfl⟩:=mem_map.1 c
   simp at k
  ·rw[if_neg e]
   unfold kid QH
   rw[filter_map,map_map,List.filter_filter,filter_map,List.filter_filter]
   congr 1
   refine List.filter_congr λn _=>?_
   simp only[Function.comp,mem_filter,ne_eq,e,decide_not]
   rw[Bool.and_comm]
   simp
 unfold JJ
 conv=>lhs;unfold QH
 rw[map_map,map_map,filter_map]
 have a:G.filter ((λt:Tri=>decide (t.1≠x))∘(zaW x (par G x) (kid G x)∘λn=>(n.id,n.ps,kid G n.id)))=G.filter λn=>decide (n.id≠x):=rfl
 rw[a]
 refine map_congr_left λn c=>?_
 obtain⟨f,b⟩:=mem_filter.1 c
 simp only[decide_eq_true_eq] at b
 simp only[Function.comp,zaW]
 refine Prod.ext rfl (Prod.ext ?_ ?_)
 ·show n.ps.filter (λy=>decide (y≠x))=if n.id∈kid G x then n.ps.filter (λy=>decide (y≠x)) else n.ps
  by_cases h:n.id∈kid G x
  ·rw[if_pos h]
  ·rw[if_neg h]
   exact zcO λg=>h (zbe.2 ⟨n,f,rfl,g⟩)
 ·show kid (QH G x) n.id=if n.id∈par G x then(kid G n.id).filter (λy=>decide (y≠x)) else kid G n.id
  rw[j,if_neg b]
  by_cases h:n.id∈par G x
  ·rw[if_pos h]
  ·rw[if_neg h]
   refine zcO λg=>h ?_
   obtain⟨o,d,rfl,i⟩:=zbe.1 g
   rw[JG ok d]
   exact i
def znn (w0 w:World) (p:Nat) (V:Nat→Prop) (G:List yX) (N:Nat) (x:zd) (e:Ending) (w':World):Prop:=
 e=.returned (.tuple #[])∧∃V',GC w0 w' p V' (QH G x) N∧Fr V w w'∧∀j,V' j→V j
structure zaH (w0 w wr:World) (p m sq:Nat) (L L':List yL) (T:List Tri) (r0:yL):Prop where
 gr:GR w0 wr p m sq L'
 tri:L'.map yL.t3=T
 r0:r0∈L'
 sub:∀j∈yT p m L',j∈yT p m L
 fr:Fr (λj=>j∈yT p m L) w wr
section
variable {w0 w:World} {p m sq:Nat}
theorem zer {wr e:World} {L A B:List yL} {r d a:yL} {T g:List Tri} (h:zaH w0 w wr p m sq L (A++r::B) T d) (l:GR w0 e p m sq (A++a::B)) (f:Fr (λj=>j∈r.blks) wr e) (n:∀j∈a.blks,j∈r.blks) (c:d.id≠r.id) (k:(A++a::B).map yL.t3=g):zaH w0 w e p m sq L (A++a::B) g d:=by
 refine⟨l,k,?_,λj b=>h.sub j ?_,h.fr.trans f λi _ hi=>h.sub i ?_⟩
 ·rcases mem_append.1 h.r0 with h1|h1
  ·exact mem_append.2 (.inl h1)
  ·rcases mem_cons.1 h1 with rfl|h1
   ·exact absurd rfl c
   ·exact mem_append.2 (.inr (List.mem_cons_of_mem _ h1))
 ·rw[xD] at b⊢
  simp only[mem_append] at b⊢
  exact b.imp id (λh=>h.imp (n j) id)
 ·rw[xD]
  simp[hi]
end
section
variable {w0 w:World} {p m sq:Nat}
theorem zaH.fr0 {L a:List yL} {T:List Tri} {b:yL} (h:zaH w0 w wr p m sq L a T b) (f:Fr No wr c):zaH w0 w c p m sq L a T b:=
 ⟨h.gr.fr0 f,h.tri,h.r0,h.sub,h.fr.trans0 f⟩
theorem GR.lookR {L:List yL} (h:GR w0 w p m sq L) {r:yL} (a:r∈L) (w':World) (b:∀M,qH w m M→qH w' m M):(Instr.lookup 197 (.map (some m)) (.agg (zf r.id).toArray) false).run prog w'=.ok (.pointer (some ⟨r.b,0,none⟩)) w':=
 (h.run_look (h.ok r a).1 false rfl).1 r a rfl w' b
theorem GR.dis {A B:List yL} {r:yL} (h:GR w0 w p m sq (A++r::B)) {j:Nat} (d:r.pv.ownBlock=some j∨r.cv.ownBlock=some j):j≠p∧j≠m∧j≠r.b∧j<w.heap.size:=by
 have a:=h.apart
 rw[xD] at a
 have b:j∈r.blks:=vo.2 (.inr d)
 have c:=(nodup_append.1 a).2.2
 refine⟨λe=>c p (by simp) j (by simp[b]) e.symm,λe=>c m (by simp) j (by simp[b]) e.symm,λe=>?_,(h.node r (by simp)).hi j b⟩
 obtain⟨f,g,-⟩:=Qz h.blks_nodup
 subst e
 exact d.elim f g
end
theorem Yz {ps:List zd} {q:zd} (h:ps[n]? =some q):ps.take (n+1)=ps.take n++[q]:=by rw[take_add_one,h];rfl
theorem Qe {ps:List zd} {q:zd} (c:ps.Nodup) (h:ps[n]? =some q):q∉ps.take n:=by
 intro b
 obtain⟨i,hi⟩:=List.mem_iff_getElem?.1 b
 have a:=(List.getElem?_eq_some_iff.1 hi).1
 simp only[length_take] at a
 rw[List.getElem?_take_of_lt (by omega)] at hi
 have:=(List.getElem?_inj (List.getElem?_eq_some_iff.1 hi).1 c).1 (hi.trans h.symm)
 omega
section
variable {w0 w:World} {p N:Nat} {V:Nat→Prop} {G:List yX}
theorem zny (h:GC w0 w p V G N) (hN:N≤1000) {x:zd} (hx:zY x) (aq:x∈ids G):
  Calls prog 132 #[.pointer (some ⟨p,0,none⟩),.agg (zf x).toArray] w (znn w0 w p V G N x):=by
 obtain⟨m,sq,L,hr,rfl,Q,aW⟩:=h.tri
 obtain⟨A0,a,B0,aP,ao,t0,bg,bd,bb⟩:=Vp (f:=id) (λ_=>rfl) (by rw[Q,List.map_id]) (q:=x) (by rw[J6];exact aq)
 have ag:a∈L:=by rw[aP];simp
 obtain⟨n0,aU,e0⟩:=mem_map.1 (show a.t3∈JJ G by rw[←Q];exact mem_map.2 ⟨a,ag,rfl⟩)
 have O:a.ps=par G x:=by
  unfold yL.t3 at e0
  injection e0 with k C
  injection C with C e3
  rw[←C,←ao,←k,JG h.gok aU]
 have T:a.ks=kid G x:=by
  unfold yL.t3 at e0
  injection e0 with k C
  injection C with C e3
  rw[←e3,←ao,←k]
 have a8:=@J (a.ps.Nodup) (by rw[O];obtain⟨n1,ae,k⟩:=Jk.1 aq;rw[←k,JG h.gok ae];exact h.gok.pn n1 ae)
 have a1:=@J (a.ks.Nodup) (by rw[T];exact zh1 h.gok x)
 have a7:=@J (∀q∈a.ps,q∈ids G) (λq s=>zdP h.gok (x:=x) (by rw[←O];exact s))
 have aZ:=@J (∀q∈a.ks,q∈ids G) (λq s=>((Vu h.gok (x:=x)).1 (by rw[←T];exact s)).1)
 have aK:=@J (∀q∈a.ps,x≠q) (λq s e=>by
  rw[O,←e] at s
  have:=zcz h.gok (x:=x) (y:=x)
  obtain⟨n1,ae,k⟩:=Jk.1 aq
  obtain⟨A,B,C⟩:=List.append_of_mem ae
  rw[←k,JG h.gok ae] at s
  have h1:=h.gok.top A n1 B C _ s
  have h2:=h.gok.nd
  rw[C] at h2
  simp only[ids,map_append,map_cons] at h1 h2
  exact(nodup_append.1 h2).2.2 _ h1 n1.id (by simp) rfl)
 have a6:=@J (∀q∈a.ks,x≠q) (λq s e=>by
  rw[T,←e] at s
  exact aK.o x (by rw[O];exact((Vu h.gok).1 s).2) rfl)
 have PL:=@J (a.ps.length≤1000) (by rw[O];have:=zdO h.gok x;have:=h.len;omega)
 have KL:=@J (a.ks.length≤1000) (by rw[T];have:=zbb (G:=G) x;have:=h.len;omega)
 have an:=@J (zY a.id∧(∀y∈a.ps,zY y)∧∀y∈a.ks,zY y) (hr.ok a ag)
 have TN:=@J (((JJ G).map (·.1)).Nodup) (by rw[J6];exact h.gok.nd)
 have aY:=@J (JJ (QH G x)=((JJ G).map (zaW x a.ps a.ks)).filter λt=>decide (t.1≠x)) (by rw[O,T];exact zkT h.gok x)
 have aO:=@J (∀t∈JJ G,t.2.1.length≤1000∧t.2.2.length≤1000) (λt P=>by
  obtain⟨n,hn,rfl⟩:=mem_map.1 P
  have h1:=zdO h.gok n.id
  rw[JG h.gok hn] at h1
  have h2:=zbb (G:=G) n.id
  have:=h.len
  exact⟨le_trans h1 (by omega),le_trans h2 (by omega)⟩)
 have aG:=J (zdw h.gok [x])
 rw[←zji] at aG
 have aX:=@J ((QH G x).length≤N) (by unfold QH;rw[length_map];exact le_trans (length_filter_le _ _) h.len)
 have aB:=J hx
 have HX:=J (zx hx)
 have f1:Fr No w (w.alloc (.cells (zf x).toArray 41)):=(frN w).alloc _
 have RX:=J (zy w (zf x) 41)
 have c0:=f1.cell (Vf hr.obj).1 id
 have HW:=J hr.hi
 have aw:=hr.fr0 f1
 have ay:=J (aw.lookR ag)
 rw[ao] at ay
 have aN:=@J (zaH w0 w (w.alloc (.cells (zf x).toArray 41)) p m sq L L ((JJ G).map (zcr x (a.ps.take 0))) a) (⟨aw,by
  rw[Q]
  conv=>lhs;rw[←List.map_id (JJ G)]
  exact map_congr_left λt _=>by simp[zcr],ag,λ_ h=>h,f1.of0⟩)
 have SQ:=J aW
 have R:=J ao
 clear h hr Q aP bg bd bb aU e0 O T aq hx aW aw ag
 go_enter Tryz.func132,Tryz.ntmps132
 go_wp2_with fail
 have HB:=@J (w.heap.size<(w.alloc (.cells (zf x).toArray 41)).heap.size) (by simp)
 generalize bj:w.heap.size=bx at*
 generalize w.alloc (.cells (zf x).toArray 41)=w1 at*
 refine wrLx [ff,ff,ff,ff,ff,ff,ff] (λw'=>w'.cell? ⟨p,0,none⟩=some (.map (some m))∧w'.rangeAt bx 0 (zf x)∧(∀M,qH w1 m M→qH w' m M)) ?_ (λK hK=>?_)
 ·exact⟨(frN _).drew.cell c0 id,za RX.o (frN _).drew id,λM hM=>hM.keep (frN _).drew id⟩
 repeat((first|(refine zl rfl ?_;constructor;constructor;(focus(first|exact zog rfl (λw h=>h.2.1) HX.o|exact λw' h=>zM (t:=197) rfl rfl rfl (ay.o w' h.2.2)|(rintro w' ⟨s1,s2,s3⟩;exact goS))))|(refine zm rfl ?_));try simp only[Act.put,pA,pB,pC])
 refine zL (hK.out _ _ ?_)
 have F:=J (aN.o.fr0 (frN _).drew)
 have aL:=J (za RX.o (frN _).drew id)
 have aH:=@J (bx<w1.drew.heap.size) (HB.o)
 clear c0 ay aN RX HB
 generalize w1.drew=w2 at*
 obtain⟨pa,pc,aD⟩:=(F.o.gr.node a F.o.r0).prow.slice.arg.form
 obtain⟨ca,cc,aS⟩:=(F.o.gr.node a F.o.r0).crow.slice.arg.form
 have cp:=(Y7 (F.o.gr.node a F.o.r0).blk).2.1
 rw[aD] at cp
 have PV:=J aD
 have CV:=J aS
 clear aD aS
 go_wp2_with fail
 go_loopw [22] (λiv wr=>∃(n:Nat) (L':List yL),iv=.int .i64 n∧n≤a.ps.length∧zaH w0 w wr p m sq L L' ((JJ G).map (zcr x (a.ps.take n))) a∧wr.rangeAt bx 0 (zf x)∧bx<wr.heap.size) (λiv _=>a.ps.length-(intOf iv).toNat)
 case atStart=>exact⟨0,L,rfl,zero_le _,F.o,aL.o,aH.o⟩
 case round=>
  obtain⟨n,L',rfl,hn,b,D,u⟩:=hrel
  by_cases h:n<a.ps.length
  ·have i1:(n:Int)<(a.ps.length:Int):=by omega
   obtain⟨q,s⟩:∃q,a.ps[n]? =some q:=⟨_,getElem?_eq_getElem h⟩
   have QM:=J (mem_of_getElem? s)
   obtain⟨A,r,B,rfl,ah,t,P,ak,aj⟩:=Vp (f:=zcr x (a.ps.take n)) (λ_=>rfl) b.tri (q:=q) (by rw[J6];exact a7.o q QM.o)
   have H:=(b.gr.node a b.r0).prow
   rw[PV.o] at H
   obtain⟨bq,oq,cq,aF,ai,-⟩:=(yP.own H an.o.2.1).at_ s
   cases aF
   have az:=J (an.o.2.1 q QM.o)
   have Y:=J (zx az.o)
   have R1:=J ai
   have FA:=J ((frN wr).alloc (.cells (zf q).toArray 41))
   have RN:=J (zy wr (zf q) 41)
   have c:=J (b.fr0 FA.o)
   have ab:=J (za D FA.o id)
   have X:=J (lt_of_lt_of_le u FA.o.size)
   have av:=J u
   have QT:=J (Yz s)
   have QN:=J (Qe a8.o s)
   have QX:=J (aK.o q QM.o)
   have bc:=PL.o
   have ax:=@J (r.ks.length≤1000) (by
    have h1:=aO.o t P
    have k:=congrArg (λz:Tri=>z.2.2) aj
    simp only[zcr,yL.t3] at k
    rw[ak,if_neg QN.o] at k
    rw[←k]
    exact h1.2)
   clear b D u s ai H aj P ak
   subst ah
   go_wp2_with (first|(refine zoc rfl rfl rfl R1.o Y.o ?_)|(refine zi rfl (zj (w:=wr) (cs:=zf r.id) (ty:=41) rfl rfl rfl (by rw[Y.o];rfl) (by rw[Y.o];exact yt) zU) ?_))
   generalize bf:wr.heap.size=q4 at*
   generalize wr.alloc (.cells (zf r.id).toArray 41)=E at*
   have RM:=@J (r∈A++r::B) (by simp)
   have ND:=J (c.o.gr.node r RM.o)
   have aa:=@J (zY r.id∧(∀y∈r.ps,zY y)∧∀y∈r.ks,zY y) (c.o.gr.ok r RM.o)
   have o:=J (λj (d:r.cv.ownBlock=some j)=>c.o.gr.dis (A:=A) (B:=B) (j:=j) (.inr d))
   have U:=@J (∀j∈r.blks,j<bx) (λj d=>HW.o j (c.o.sub j (by rw[xD];simp[d])))
   have Z:=@J (∀j,r.cv.ownBlock=some j→j<bx) (λj d=>U.o j (vo.2 (.inr (.inr d))))
   have LK:=J (c.o.gr.lookR RM.o)
   have KP:=J (λ(w':World) (f:Fr (λj=>r.cv.ownBlock=some j) E w')=>(⟨f.cell (Vf c.o.gr.obj).1 (λe=>(o.o _ e).1 rfl),za RN.o f (λe=>by have:=Z.o _ e;have:=av.o;omega),λM hM=>hM.keep f (λe=>(o.o _ e).2.1 rfl),f.cell (Y7 ND.o.blk).2.2.1 (λe=>(o.o _ e).2.2.1 rfl)⟩:w'.cell? ⟨p,0,none⟩=some (.map (some m))∧w'.rangeAt q4 0 (zf r.id)∧(∀M,qH E m M→qH w' m M)∧w'.cell? ⟨r.b,2,none⟩=some r.cv))
   have FZ:=J (λ(w':World) (f:Fr (λj=>r.cv.ownBlock=some j) E w')=>(⟨(Y7 (f.obj ND.o.blk (λe=>(o.o _ e).2.2.1 rfl))).2.2.1,(Y7 (f.obj ND.o.blk (λe=>(o.o _ e).2.2.1 rfl))).2.2.2.2.2⟩:w'.cell? ⟨r.b,2,none⟩=some r.cv∧w'.frozen? ⟨r.b,2,none⟩=false))
   refine yp [ff,ff,ff,ff,ff,ff,ff,ff,ff,ff,ff,ff,ff,ff,ff,ff,tt,ff,ff,tt] (λw'=>w'.cell? ⟨p,0,none⟩=some (.map (some m))∧w'.rangeAt q4 0 (zf r.id)∧(∀M,qH E m M→qH w' m M)∧w'.cell? ⟨r.b,2,none⟩=some r.cv) (by kernel_rfl) (by kernel_rfl) 19 (by kernel_rfl) (by kernel_rfl) ?_ (λK hK=>?_)
   ·exact KP.o _ (frN _).drew.of0
   repeat((first|(refine yb rfl ?_;constructor;constructor;(focus(first|exact zog rfl (λw h=>h.2.1) Y.o|exact λw' h=>zM (t:=197) rfl rfl rfl (LK.o w' h.2.2.1)|(rintro w' ⟨s1,s2,s3,s4⟩;exact goS))))|(refine yc rfl ?_));try simp only[Act.put,pA,pB,pC])
   (refine ya rfl (λK' hK'=>?_))
   go_simp
   refine(Xk (w:=E.drew) (B:=w0.heap.size) (v:=r.cv) (l:=r.ks) (zb ND.o.crow ((frN E).drew) (λ_ _=>id)) aa.o.2.2 (by have:=ax.o;omega) (za ab.o ((frN E).drew) id) aB.o (λj d e=>by have:=Z.o j d;omega) X.o).mono ?_
   rintro e w4 ⟨v4,rfl,I,ad,af⟩
   obtain⟨a4,c4,al⟩:=I.slice.arg.form
   generalize aV:List.length _=bh at al
   subst al
   have F4:=@J (Fr (λj=>r.cv.ownBlock=some j) E w4) (((frN E).drew.of0 (W:=λj=>r.cv.ownBlock=some j)).trans ad (λ_ _ h=>h))
   have O4:=J I
   have N4:=J af
   clear I ad af
   refine hK'.out _ _ (λ_=>?_) (λhS=>?_)
   ·exact KP.o _ F4.o
   try simp only[Act.put,pA,pB,pC]
   repeat((first|(refine yb rfl ?_;constructor;constructor;(focus(first|exact zog rfl (λw h=>h.2.1) Y.o|exact λw' h=>zM (t:=197) rfl rfl rfl (LK.o w' h.2.2.1)|(rintro w' ⟨s1,s2,s3,s4⟩;exact goS))))|(refine yc rfl ?_));try simp only[Act.put,pA,pB,pC])
   obtain⟨z1,z2⟩:=FZ.o _ F4.o
   (refine ya rfl (λK' hK'=>?_))
   go_simp
   refine hK'.out _ _ (λh=>absurd rfl h) (λhS=>?_)
   refine xA (hK.out _ _ ?_)
   obtain⟨g5,f5⟩:=c.o.gr.setc F4.o O4.o (λj d=>.inl (N4.o j d)) (λy hy=>aa.o.2.2 y (mem_filter.1 hy).1)
   have F5:=J f5
   have aA:=J (zer c.o g5 f5 (λj d=>by
    rw[vo] at d⊢
    exact d.imp id (λh=>h.imp id (N4.o j))) (by rw[R.o];exact QX.o) (step_map (f:=zcr x (a.ps.take n)) (g:=zcr x (a.ps.take (n+1))) TN.o (λ_=>rfl) c.o.tri rfl (λt P k C=>by
    simp only[yL.t3,zcr] at C⊢
    rw[k,if_neg QN.o] at C
    rw[k,QT.o,if_pos (by simp)]
    injection C with C e3
    injection e3 with e3 e4
    rw[e3,e4]) (λt P k=>by
    simp only[zcr,QT.o,mem_append,mem_singleton,k,or_false])))
   clear g5 f5 z1 z2
   go_wp2_with fail
   go_roundw
   case rel=>exact⟨n+1,_,by simp,by omega,aA.o,za ab.o F5.o (λe=>by have:=U.o _ e;omega),lt_of_lt_of_le X.o F5.o.size⟩
   case measure=>show a.ps.length-(n+1)<a.ps.length-n;omega
  ·have i1:¬(n:Int)<(a.ps.length:Int):=by omega
   have aC:n=a.ps.length:=by omega
   subst aC
   rw[take_length] at b
   have ck:=(Y7 (b.gr.node a b.r0).blk).2.2.1
   rw[CV.o] at ck
   have S:=J b
   have aM:=J D
   have aI:=J u
   clear b D u F aL aH
   go_wp2_with fail
   go_loopw [51] (λiv wr=>∃(n:Nat) (L':List yL),iv=.int .i64 n∧n≤a.ks.length∧zaH w0 w wr p m sq L L' ((JJ G).map (zaW x a.ps (a.ks.take n))) a∧wr.rangeAt bx 0 (zf x)∧bx<wr.heap.size) (λiv _=>a.ks.length-(intOf iv).toNat)
   case atStart=>exact⟨0,_,rfl,zero_le _,⟨S.o.gr,S.o.tri.trans (map_congr_left λt _=>by simp[zcr,zaW]),S.o.r0,S.o.sub,S.o.fr⟩,aM.o,aI.o⟩
   case round=>
    obtain⟨n,L',rfl,hn,b,D,u⟩:=hrel
    by_cases h:n<a.ks.length
    ·have i1:(n:Int)<(a.ks.length:Int):=by omega
     obtain⟨q,s⟩:∃q,a.ks[n]? =some q:=⟨_,getElem?_eq_getElem h⟩
     have QM:=J (mem_of_getElem? s)
     obtain⟨A,r,B,rfl,ah,t,P,ak,aj⟩:=Vp (f:=zaW x a.ps (a.ks.take n)) (λ_=>rfl) b.tri (q:=q) (by rw[J6];exact aZ.o q QM.o)
     have H:=(b.gr.node a b.r0).crow
     rw[CV.o] at H
     obtain⟨bq,oq,cq,aF,ai,-⟩:=(yP.own H an.o.2.2).at_ s
     cases aF
     have az:=J (an.o.2.2 q QM.o)
     have Y:=J (zx az.o)
     have R1:=J ai
     have FA:=J ((frN wr).alloc (.cells (zf q).toArray 41))
     have RN:=J (zy wr (zf q) 41)
     have c:=J (b.fr0 FA.o)
     have ab:=J (za D FA.o id)
     have X:=J (lt_of_lt_of_le u FA.o.size)
     have av:=J u
     have QT:=J (Yz s)
     have QN:=J (Qe a1.o s)
     have QX:=J (a6.o q QM.o)
     have bc:=KL.o
     have ax:=@J (r.ps.length≤1000) (by
      have h1:=aO.o t P
      have k:=congrArg (λz:Tri=>z.2.1) aj
      simp only[zaW,yL.t3] at k
      rw[ak,if_neg QN.o] at k
      rw[←k]
      exact h1.1)
     clear b D u s ai H aj P ak
     subst ah
     go_wp2_with (first|(refine zoc rfl rfl rfl R1.o Y.o ?_)|(refine zi rfl (zj (w:=wr) (cs:=zf r.id) (ty:=41) rfl rfl rfl (by rw[Y.o];rfl) (by rw[Y.o];exact yt) zU) ?_))
     generalize bf:wr.heap.size=q4 at*
     generalize wr.alloc (.cells (zf r.id).toArray 41)=E at*
     have RM:=@J (r∈A++r::B) (by simp)
     have ND:=J (c.o.gr.node r RM.o)
     have aa:=@J (zY r.id∧(∀y∈r.ps,zY y)∧∀y∈r.ks,zY y) (c.o.gr.ok r RM.o)
     have o:=J (λj (d:r.pv.ownBlock=some j)=>c.o.gr.dis (A:=A) (B:=B) (j:=j) (.inl d))
     have U:=@J (∀j∈r.blks,j<bx) (λj d=>HW.o j (c.o.sub j (by rw[xD];simp[d])))
     have Z:=@J (∀j,r.pv.ownBlock=some j→j<bx) (λj d=>U.o j (vo.2 (.inr (.inl d))))
     have LK:=J (c.o.gr.lookR RM.o)
     have KP:=J (λ(w':World) (f:Fr (λj=>r.pv.ownBlock=some j) E w')=>(⟨f.cell (Vf c.o.gr.obj).1 (λe=>(o.o _ e).1 rfl),za RN.o f (λe=>by have:=Z.o _ e;have:=av.o;omega),λM hM=>hM.keep f (λe=>(o.o _ e).2.1 rfl),f.cell (Y7 ND.o.blk).2.1 (λe=>(o.o _ e).2.2.1 rfl)⟩:w'.cell? ⟨p,0,none⟩=some (.map (some m))∧w'.rangeAt q4 0 (zf r.id)∧(∀M,qH E m M→qH w' m M)∧w'.cell? ⟨r.b,1,none⟩=some r.pv))
     have FZ:=J (λ(w':World) (f:Fr (λj=>r.pv.ownBlock=some j) E w')=>(⟨(Y7 (f.obj ND.o.blk (λe=>(o.o _ e).2.2.1 rfl))).2.1,(Y7 (f.obj ND.o.blk (λe=>(o.o _ e).2.2.1 rfl))).2.2.2.2.1⟩:w'.cell? ⟨r.b,1,none⟩=some r.pv∧w'.frozen? ⟨r.b,1,none⟩=false))
     refine yp [ff,ff,ff,ff,ff,ff,ff,ff,ff,ff,ff,ff,ff,ff,ff,ff,tt,ff,ff,tt] (λw'=>w'.cell? ⟨p,0,none⟩=some (.map (some m))∧w'.rangeAt q4 0 (zf r.id)∧(∀M,qH E m M→qH w' m M)∧w'.cell? ⟨r.b,1,none⟩=some r.pv) (by kernel_rfl) (by kernel_rfl) 19 (by kernel_rfl) (by kernel_rfl) ?_ (λK hK=>?_)
     ·exact KP.o _ (frN _).drew.of0
     repeat((first|(refine yb rfl ?_;constructor;constructor;(focus(first|exact zog rfl (λw h=>h.2.1) Y.o|exact λw' h=>zM (t:=197) rfl rfl rfl (LK.o w' h.2.2.1)|(rintro w' ⟨s1,s2,s3,s4⟩;exact goS))))|(refine yc rfl ?_));try simp only[Act.put,pA,pB,pC])
     (refine ya rfl (λK' hK'=>?_))
     go_simp
     refine(Xk (w:=E.drew) (B:=w0.heap.size) (v:=r.pv) (l:=r.ps) (zb ND.o.prow ((frN E).drew) (λ_ _=>id)) aa.o.2.1 (by have:=ax.o;omega) (za ab.o ((frN E).drew) id) aB.o (λj d e=>by have:=Z.o j d;omega) X.o).mono ?_
     rintro e w4 ⟨v4,rfl,I,ad,af⟩
     obtain⟨a4,c4,al⟩:=I.slice.arg.form
     generalize aV:List.length _=bh at al
     subst al
     have F4:=@J (Fr (λj=>r.pv.ownBlock=some j) E w4) (((frN E).drew.of0 (W:=λj=>r.pv.ownBlock=some j)).trans ad (λ_ _ h=>h))
     have O4:=J I
     have N4:=J af
     clear I ad af
     refine hK'.out _ _ (λ_=>?_) (λhS=>?_)
     ·exact KP.o _ F4.o
     try simp only[Act.put,pA,pB,pC]
     repeat((first|(refine yb rfl ?_;constructor;constructor;(focus(first|exact zog rfl (λw h=>h.2.1) Y.o|exact λw' h=>zM (t:=197) rfl rfl rfl (LK.o w' h.2.2.1)|(rintro w' ⟨s1,s2,s3,s4⟩;exact goS))))|(refine yc rfl ?_));try simp only[Act.put,pA,pB,pC])
     obtain⟨z1,z2⟩:=FZ.o _ F4.o
     (refine ya rfl (λK' hK'=>?_))
     go_simp
     refine hK'.out _ _ (λh=>absurd rfl h) (λhS=>?_)
     refine xA (hK.out _ _ ?_)
     obtain⟨g5,f5⟩:=c.o.gr.setp F4.o O4.o (λj d=>.inl (N4.o j d)) (λy hy=>aa.o.2.1 y (mem_filter.1 hy).1)
     have F5:=J f5
     have aA:=J (zer c.o g5 f5 (λj d=>by
      rw[vo] at d⊢
      exact d.imp id (λh=>h.imp (N4.o j) id)) (by rw[R.o];exact QX.o) (step_map (f:=zaW x a.ps (a.ks.take n)) (g:=zaW x a.ps (a.ks.take (n+1))) TN.o (λ_=>rfl) c.o.tri rfl (λt P k C=>by
      simp only[yL.t3,zaW] at C⊢
      rw[k,if_neg QN.o] at C
      rw[k,QT.o,if_pos (by simp)]
      injection C with C e3
      injection e3 with e3 e4
      rw[e3,e4]) (λt P k=>by
      simp only[zaW,QT.o,mem_append,mem_singleton,k,or_false])))
     clear g5 f5 z1 z2
     go_wp2_with fail
     go_roundw
     case rel=>exact⟨n+1,_,by simp,by omega,aA.o,za ab.o F5.o (λe=>by have:=U.o _ e;omega),lt_of_lt_of_le X.o F5.o.size⟩
     case measure=>show a.ks.length-(n+1)<a.ks.length-n;omega
    ·have i1:¬(n:Int)<(a.ks.length:Int):=by omega
     have aC:n=a.ks.length:=by omega
     subst aC
     rw[take_length] at b
     obtain⟨M,hM,aR⟩:=b.gr.map
     obtain⟨w5,M',aT,aQ,ar,aE,-⟩:=(hM.keep (frN wr).drew id).del xR.keyed J8 (λ_ _=>y3) (yu aB.o) 0 41
     obtain⟨A,B,rfl⟩:=List.append_of_mem b.r0
     have G5:=J (b.gr.del aR aQ (by rw[R.o];exact ar) (((frN wr).drew.of0 (W:=λj=>j=m)).trans aE.fr (λ_ _ h=>h)))
     have F5:=@J (Fr (λj=>j∈yT p m L) w w5) (b.fr.trans (((frN wr).drew.of0 (W:=λj=>j=m)).trans aE.fr (λ_ _ h=>h)) (λi _ e=>b.sub i (by rw[e];simp[yT])))
     have T5:=@J ((A++B).map yL.t3=JJ (QH G x)) (by
      rw[aY.o,←b.tri,map_append (l₁:=A) (l₂:=a::B),map_cons,filter_append,List.filter_cons_of_neg (by simp[yL.t3,R.o]),map_append]
      have au:=b.gr.idn
      rw[map_append,map_cons] at au
      obtain⟨i1,i2,i3⟩:=nodup_append.1 au
      congr 1
      ·refine(filter_eq_self.2 λt P=>?_).symm
       obtain⟨r,hr,rfl⟩:=mem_map.1 P
       exact decide_eq_true λ(e:r.id=x)=>i3 r.id (mem_map.2 ⟨r,hr,rfl⟩) a.id (by simp) (by rw[e,R.o])
      ·refine(filter_eq_self.2 λt P=>?_).symm
       obtain⟨r,hr,rfl⟩:=mem_map.1 P
       exact decide_eq_true λ(e:r.id=x)=>(nodup_cons.1 i2).1 (by rw[R.o,←e];exact mem_map.2 ⟨r,hr,rfl⟩))
     have SB:=@J (∀j∈yT p m (A++B),j∈yT p m L) (λj d=>b.sub j (by
      rw[xD]
      simp only[yT,flatMap_append,mem_cons,mem_append] at d⊢
      rcases d with h|h|h|h
      ·exact .inl (.inl h)
      ·exact .inl (.inr (.inl h))
      ·exact .inl (.inr (.inr h))
      ·exact .inr (.inr h)))
     have c0:=(Vf b.gr.obj).1
     have ba:=J D
     have aJ:=J aT
     clear b D u hM aR aT aQ ar aE S aM aI
     unfold y7 at aJ
     go_wp2_with fail
     refine yp [ff,ff,ff,ff,ff,tt] (λw'=>w'.cell? ⟨p,0,none⟩=some (.map (some m))∧w'.rangeAt bx 0 (zf x)) (by kernel_rfl) (by kernel_rfl) 5 (by kernel_rfl) (by kernel_rfl) ?_ (λK hK=>?_)
     ·exact⟨(frN _).drew.cell c0 id,za ba.o (frN _).drew id⟩
     repeat((first|(refine yb rfl ?_;constructor;constructor;(focus(first|exact zog rfl (λw h=>h.2) HX.o|(rintro w' ⟨s1,s2⟩;exact goS))))|(refine yc rfl ?_));try simp only[Act.put,pA,pB,pC])
     (refine ya rfl (λK' hK'=>?_))
     refine yg (jI rfl rfl rfl aJ.o) ?_
     refine hK'.out _ _ (λh=>absurd rfl h) (λhS=>?_)
     refine xA (hK.out _ _ ?_)
     go_wp2_with fail
     (try simp only[Exit.inBlock,Exit.then])
     refine bodyPost_ret (results_none rfl _ _ _) rfl ?_
     exact⟨rfl,_,GC.of_tri G5.o T5.o SQ.o aG.o aX.o,F5.o,SB.o⟩
end
theorem zbI (w:World) {x:zd} (d:zY x):yP (w.alloc (.cells (zf x).toArray 41)) (.slice (some ⟨w.heap.size,0,none⟩) 1 1) [x]:=by
 refine⟨λc b=>by rw[mem_singleton.1 b];exact d,.inl (.inr ⟨w.heap.size,0,1,rfl,le_refl _,by unfold maxLen;omega,λj u a=>?_,by simp⟩)⟩
 rw[List.flatMap_cons,List.flatMap_nil,List.append_nil] at a
 exact zy w (zf x) 41 j u a
theorem zhK {G:List yX} {x:zd} (h:x∉ids G):vk G [x]=[]:=by
 refine List.eq_nil_iff_forall_not_mem.2 λy d=>?_
 obtain⟨a,c,b⟩:=Yr.1 d
 rw[mem_singleton.1 c] at b
 exact h b.right
theorem zkS {G:List yX} {l:List zd} {q:zd} (a:l.Nodup) (b:∀y∈l,y∈ids G) (h:l[n]? =some q):q∈ids (ZU G (l.take n)):=
 J1.2 ⟨b q (mem_of_getElem? h),Qe a h⟩
def ziN (w0 w:World) (p:Nat) (V:Nat→Prop) (G:List yX) (N:Nat) (x:zd) (e:Ending) (w':World):Prop:=
 ∃v,e=.returned (.tuple #[v,.int .i64 (if x∈ids G then 0 else 9)])∧∃V',GC w0 w' p V' (ZU G (vk G [x])) N∧Fr V w w'∧(∀j,V' j→V j)∧w'.ownsRow w.heap.size 41 32 v (vk G [x]).length ((vk G [x]).flatMap zf)
section
variable {w0 w:World} {p N:Nat} {V:Nat→Prop} {G:List yX}
theorem zmC (h:GC w0 w p V G N) (L:N≤1000) {x:zd} (hx:zY x):Calls prog 91 #[.pointer (some ⟨p,0,none⟩),.agg (zf x).toArray] w (ziN w0 w p V G N x):=by
 have Y:=J (zx hx)
 have I:Fr No w (w.alloc (.cells (zf x).toArray 41)):=(frN w).alloc _
 have Z:=J (zy w (zf x) 41)
 have T:=J I
 have g:=J h
 have E:=@J ((w.alloc (.cells (zf x).toArray 41)).heap.size=w.heap.size+1) (by simp)
 have DL:=J (le_trans (zjr (G:=G) [x]) (le_trans h.len L))
 have b:=λ(w1:World) (f:Fr No w w1)=>zmB (h.fr0 (f.trans0 ((frN w1).alloc (.cells (zf x).toArray 41)))) L (zbI w1 hx) (by simp)
 have M:=b _ I
 rw[E.o] at M
 have X:=J M
 have DN:=@J ((vk G [x]).Nodup) (h.gok.nd.sublist (vl [x]))
 have C:=J (zjs (G:=G) [x])
 have d:(x∈ids G∧¬((vk G [x]).length:Int)=0)∨(x∉ids G∧((vk G [x]).length:Int)=0):=by
  by_cases a:x∈ids G
  ·obtain⟨r,hr⟩:=zhJ h.gok a
   exact .inl ⟨a,by rw[hr];simp;omega⟩
  ·exact .inr ⟨a,by rw[zhK a];rfl⟩
 clear h I b M
 unfold ziN
 generalize vk G [x]=D at*
 go_enter Tryz.func91,Tryz.ntmps91
 go_wp2_with (first|(refine zoc rfl rfl rfl Z.o Y.o ?_)|(refine zg rfl (zS (t:=38) rfl rfl xP qK rfl (by decide) (by decide) Y.o) ?_))
 refine X.o.mono ?_
 rintro e w2 ⟨v2,rfl,S,f2⟩
 obtain⟨va,vc,rfl⟩:=S.slice.arg.form
 have u:=J ((T.o.alloc (.cells (zf x).toArray 41)).trans0 f2)
 have O2:=J (Xv S (show w.heap.size≤_ from(T.o.alloc (.cells (zf x).toArray 41)).size))
 have VW:=@J (∀j,V j→j<w.heap.size) (g.o.hi)
 clear S f2 X Z
 rcases d with⟨a,K⟩|⟨a,K⟩
 ·go_wp2_with fail
  rw[show((D.length:Int)==0)=false from by simpa using K]
  have c:=J a
  clear K a
  go_loopw [20] (λR wr=>∃(n:Nat) (V':Nat→Prop),R=.int .i64 n∧n≤D.length∧GC w0 wr p V' (ZU G (D.take n)) N∧Fr V w wr∧(∀j,V' j→V j)∧wr.ownsRow w.heap.size 41 32 (.slice va D.length vc) D.length (D.flatMap zf)) (λR _=>D.length-(intOf R).toNat)
  case atStart=>exact⟨0,V,rfl,zero_le _,by rw[List.take_zero,zbw];exact g.o.fr0 u.o,u.o.of0,λ_ h=>h,O2.o⟩
  case round=>
   obtain⟨n,V',rfl,hn,l,A,B,m⟩:=hrel
   by_cases h:n<D.length
   ·have i1:(n:Int)<(D.length:Int):=by omega
    obtain⟨q,o⟩:∃q,D[n]? =some q:=⟨_,getElem?_eq_getElem h⟩
    have QI:=J (zkS DN.o C.o o)
    have QT:=@J (ZU G (D.take (n+1))=QH (ZU G (D.take n)) q) (by rw[Yz o,zcH])
    have i:=J (g.o.okId q (C.o q (mem_of_getElem? o)))
    have v:=J (zx i.o)
    obtain⟨bq,oq,cq,Q,s,-⟩:=(yP.own m (λy hy=>g.o.okId y (C.o y hy))).at_ o
    cases Q
    have R1:=J s
    have W:=J ((frN wr).alloc (.cells (zf q).toArray 41))
    have RN:=J (zy wr (zf q) 41)
    have H:=J l
    have F:=J A
    have k:=J B
    have z:=J m
    have aa:=DL.o
    clear l A B m o s
    go_wp2_with (first|(refine zoc rfl rfl rfl R1.o v.o ?_)|(refine zi rfl (zj (w:=wr) (cs:=zf q) (ty:=41) rfl rfl rfl (by rw[v.o];rfl) (by rw[v.o];exact yt) zU) ?_)|(refine zoc rfl rfl rfl RN.o v.o ?_)|(go_at_call 132;refine(zny (H.o.fr0 W.o) L i.o QI.o).mono ?_;rintro e w5 ⟨rfl,V5,g5,f5,s5⟩;have G5:=J g5;have U:=J (W.o.of0.trans f5 (λ_ _ h=>h));have S5:=J s5;clear g5 f5 s5))
    go_roundw
    case rel=>exact⟨n+1,V5,by simp,by omega,by rw[QT.o];exact G5.o,F.o.trans U.o (λ_ _ h=>k.o _ h),λj O=>k.o j (S5.o j O),zb z.o U.o (λj O e=>by have:=(z.o.lt j O).1;have:=VW.o j (k.o j e);omega)⟩
    case measure=>show D.length-(n+1)<D.length-n;omega
   ·have i1:¬(n:Int)<(D.length:Int):=by omega
    have P:n=D.length:=by omega
    subst P
    rw[take_length] at l
    have H:=J l
    have F:=J A
    have k:=J B
    have z:=J m
    clear l A B m
    go_wp2_with fail
    go_ret2
    exact⟨.slice va D.length vc,by first|rfl|(rw[if_pos c.o];rfl),V',H.o,F.o,k.o,z.o⟩
 ·have h1:D=[]:=List.eq_nil_of_length_eq_zero (by omega)
  subst h1
  have h2:(([]:List zd).length:Int)=0:=rfl
  have c:=J a
  clear a
  go_wp2_with fail
  go_ret2
  exact⟨.slice none 0 0,by first|rfl|(rw[if_neg c.o];rfl),V,by rw[zbw];exact g.o.fr0 u.o,u.o.of0,λ_ h=>h,World.ownsRow_nil _ _ _ _⟩
end
theorem zfM {G:List yX} {x:zd} {l:List zd} (h:x∈ids G):zbr G x l=10:=by unfold zbr;rw[if_pos h]
theorem zht {G:List yX} {x:zd} {l:List zd} (h:x∉ids G) (a:∃p∈l,p∉ids G):zbr G x l=9:=by unfold zbr;rw[if_neg h,if_pos a]
theorem ziU {G:List yX} {x:zd} {l:List zd} (h:x∉ids G) (a:∀p∈l,p∈ids G) (b:¬(upS G l).length<6):zbr G x l=16:=by
 unfold zbr;rw[if_neg h,if_neg (λ⟨p,d,c⟩=>c (a p d)),if_neg b]
theorem zgL {G:List yX} {x:zd} {l:List zd} (h:x∉ids G) (a:∀p∈l,p∈ids G) (b:(upS G l).length<6):zbr G x l=0:=by
 unfold zbr;rw[if_neg h,if_neg (λ⟨p,d,c⟩=>c (a p d)),if_pos b]
def zbs (x:zd) (done:List zd) (t:Tri):Tri:=(t.1,t.2.1,if t.1∈done then t.2.2++[x] else t.2.2)
theorem zkH {G:List yX} (ok:GOk G) {x:zd} {l:List zd} (c:x∉ids G) (d:∀p∈l,p∈ids G):JJ (Qj G x l)=(JJ G).map (zbs x (dedup l))++[(x,dedup l,[])]:=by
 have b:∀y,kid (Qj G x l) y=kid G y++(if y∈dedup l then[x] else[]):=by
  intro y
  unfold kid Qj
  rw[filter_append,map_append]
  congr 1
  by_cases h:y∈dedup l
  ·rw[if_pos h,List.filter_cons_of_pos (by simpa using h)];rfl
  ·rw[if_neg h,List.filter_cons_of_neg (by simpa using h)];rfl
 have a:kid (Qj G x l) x=[]:=by
  rw[b,if_neg (λh=>c (d x (Jq.1 h))),List.append_nil]
  refine List.eq_nil_iff_forall_not_mem.2 λz e=>?_
  exact c (zdP ok ((Vu ok).1 e).2)
 unfold JJ
 conv=>lhs;unfold Qj
 rw[map_append,map_map]
 congr 1
 ·refine map_congr_left λn f=>?_
  simp only[Function.comp,zbs]
  refine Prod.ext rfl (Prod.ext rfl ?_)
  show kid (Qj G x l) n.id=if n.id∈dedup l then kid G n.id++[x] else kid G n.id
  rw[b]
  split<;>simp
 ·show[(x,dedup l,kid (Qj G x l) x)]=_
  rw[a]
def zcw (w0 w:World) (p:Nat) (V:Nat→Prop) (G:List yX) (N:Nat) (x:zd) (l:List zd) (e:Ending) (w':World):Prop:=
 e=.returned (.int .i64 (zbr G x l))∧∃V',GC w0 w' p V' (if zbr G x l=0 then Qj G x l else G) (N+1)∧Fr V w w'∧∀j,V' j→V j∨w.heap.size≤j
theorem zcw.no {w0 w w':World} {p N:Nat} {V:Nat→Prop} {G:List yX} {x:zd} {l:List zd} {c:Int} (h:GC w0 w p V G N) (f:Fr No w w') (e:zbr G x l=c) (a:c≠0):zcw w0 w p V G N x l (.returned (.int .i64 c)) w':=
 ⟨by rw[e],V,by rw[if_neg (by rw[e];exact a)];exact(h.fr0 f).mono (by omega),f.of0,λ_ h=>.inl h⟩
theorem zaR {w:World} {c:Array Value} (h:w.ownsRow B 41 k v n xs) (a:w.heap[bx]? =some (.cells c 201 (0,0))):∀j,v.ownBlock=some j→j≠bx:=by
 rcases h.2 with⟨rfl,_⟩|⟨g,d,f,rfl,_,i,_⟩
 ·intro j b;cases b
 ·intro j b e
  simp[Value.ownBlock] at b
  subst b e
  rw[i] at a
  injection a with a
  injection a with _ a
  revert a
  decide
structure zhp (w wr:World) (G:List yX) (sq nb bx:Nat) (x:zd) (l:List zd) (n:Nat) (nv:Value):Prop where
 le:n≤l.length
 sub:∀y∈l.take n,y∈ids G
 blk:wr.heap[nb]? =some (.cells #[.int .i64 ((sq:Int)+1),nv,.slice none 0 0] 201 (0,0))
 row:wr.ownsRow nb 41 32 nv (dedup (l.take n)).length ((dedup (l.take n)).flatMap zf)
 fr:Fr No w wr
 rx:wr.rangeAt bx 0 (zf x)
theorem zhp.keep {w wr d:World} {G:List yX} {c a bx n:Nat} {x:zd} {l:List zd} {b:Value} (h:zhp w wr G c a bx x l n b) (f:Fr No wr d):zhp w d G c a bx x l n b:=
 ⟨h.le,h.sub,f.obj h.blk id,zb h.row f (λ_ _=>id),h.fr.trans0 f,za h.rx f id⟩
structure zec (w0 w wr:World) (p m sq nb bx:Nat) (x:zd) (L L':List yL) (T:List Tri) (nv:Value) (D:List zd):Prop where
 gr:GR w0 wr p m sq L'
 tri:L'.map yL.t3=T
 sub:∀j∈yT p m L',j∈yT p m L∨(w.heap.size≤j∧j≠nb∧nv.ownBlock≠some j∧j≠bx)
 blk:wr.heap[nb]? =some (.cells #[.int .i64 ((sq:Int)+1),nv,.slice none 0 0] 201 (0,0))
 row:wr.ownsRow nb 41 32 nv D.length (D.flatMap zf)
 fr:Fr (λj=>j∈yT p m L) w wr
 rx:wr.rangeAt bx 0 (zf x)
theorem zec.keep {w0 w wr e:World} {p m d b bx:Nat} {x:zd} {L a:List yL} {T:List Tri} {c:Value} {D:List zd} (h:zec w0 w wr p m d b bx x L a T c D) (f:Fr No wr e):zec w0 w e p m d b bx x L a T c D:=
 ⟨h.gr.fr0 f,h.tri,h.sub,f.obj h.blk id,zb h.row f (λ_ _=>id),h.fr.trans0 f,za h.rx f id⟩
theorem zec.step {w0 w wr o:World} {p m n d bx:Nat} {x:zd} {L A B:List yL} {r k:yL} {T q:List Tri} {g:Value} {D:List zd} (h:zec w0 w wr p m n d bx x L (A++r::B) T g D) (y:GR w0 o p m n (A++k::B)) (f:Fr (λj=>j∈r.blks) wr o) (z:∀j∈k.blks,j∈r.blks∨wr.heap.size≤j) (u:(A++k::B).map yL.t3=q) (l:∀j∈yT p m L,j<w.heap.size) (v:bx<wr.heap.size) (C:w.heap.size≤bx∧bx≠d∧g.ownBlock≠some bx) (E:w.heap.size≤d):zec w0 w o p m n d bx x L (A++k::B) q g D:=by
 have c:∀j∈r.blks,j∈yT p m (A++r::B):=λj a=>by rw[xD];simp[a]
 have b:∀j∈r.blks,j≠d∧g.ownBlock≠some j∧j≠bx:=λj a=>by
  rcases h.sub j (c j a) with h1|h1
  ·have:=l j h1
   refine⟨by omega,λe=>?_,by omega⟩
   have:=(h.row.lt j e).1
   omega
  ·exact h1.2
 refine⟨y,u,λj a=>?_,f.obj h.blk (λe=>(b _ e).1 rfl),zb h.row f (λj e t=>(b j t).2.1 e),h.fr.trans f (λi hi e=>?_),za h.rx f (λe=>(b _ e).2.2 rfl)⟩
 ·rw[xD] at a
  simp only[mem_append] at a
  have s:∀j,j∈(p::m::A.flatMap yL.blks)∨j∈r.blks∨j∈B.flatMap yL.blks→j∈yT p m (A++r::B):=λj a=>by rw[xD];simp only[mem_append];exact a
  rcases a with a|a|a
  ·exact h.sub j (s j (.inl a))
  ·rcases z j a with h3|h3
   ·exact h.sub j (c j h3)
   ·refine .inr ⟨by have:=h.fr.size;omega,λe=>by have:=yF h.blk;omega,λe=>by have:=(h.row.lt j e).2;omega,by omega⟩
  ·exact h.sub j (s j (.inr (.inr a)))
 ·rcases h.sub i (c i e) with h1|h1
  ·exact h1
  ·omega
section
variable {w0 w:World} {p N:Nat} {V:Nat→Prop} {G:List yX}
theorem znv (h:GC w0 w p V G N) (hN:N≤900) {x:zd} (hx:zY x) {l:List zd} (hl:yP w v l) (bp:l.length≤500):
  Calls prog 50 #[.pointer (some ⟨p,0,none⟩),.agg (zf x).toArray,v] w (zcw w0 w p V G N x l):=by
 obtain⟨m,C,L,hr,hV,an,aV⟩:=h.tri
 obtain⟨va,vc,rfl⟩:=hl.2.form
 have HX:=J (zx hx)
 have ay:=J hx
 have HL:=J hl
 have f1:Fr No w (w.alloc (.cells (zf x).toArray 41)):=(frN w).alloc _
 have RB:=J (zy w (zf x) 41)
 have c0:=(Vf (f1.obj hr.obj id)).1
 have c1:=(Vf (f1.obj hr.obj id)).2.1
 obtain⟨k1,k2⟩:=hr.run_look hx false rfl
 have KM:=J (λ(w':World) (f:Fr No (w.alloc (.cells (zf x).toArray 41)) w')=>hr.keepM (f1.trans0 f))
 have F1:=J f1
 have HI:=@J (ids G=L.map (·.id)) (by
  have:=congrArg (List.map Prod.fst) an
  rw[J6,map_map] at this
  exact this.symm)
 have HC:=J h
 have HR:=J hr
 have HV:=J hV
 have HT:=J an
 have SQ:=J aV
 clear h hr f1 hx hl hV an aV
 by_cases hin:x∈ids G
 ·have D:=J (zfM (l:=l) hin)
  rw[HI.o] at hin
  obtain⟨r,hr,rfl⟩:=mem_map.1 hin
  have K1:=J (k1 r hr rfl)
  clear k1 k2 hin hr c1
  unfold Qo at K1
  unfold y7 at K1
  go_enter Tryz.func50,Tryz.ntmps50
  go_wp2_with fail
  generalize hq:w.heap.size=q at*
  generalize w.alloc (.cells (zf r.id).toArray 41)=w1 at*
  refine wrLx [ff,ff,ff,ff,ff,ff,ff] (λw'=>w'.cell? ⟨p,0,none⟩=some (.map (some m))∧w'.rangeAt q 0 (zf r.id)∧(∀M,qH w m M→qH w' m M)) ?_ (λK hK=>?_)
  ·exact⟨(frN _).drew.cell c0 id,za RB.o (frN _).drew id,KM.o _ (frN _).drew⟩
  repeat((first|(refine zl rfl ?_;constructor;constructor;(focus(first|exact zog rfl (λw h=>h.2.1) HX.o|exact λw' h=>zM (t:=197) rfl rfl rfl (K1.o w' h.2.2)|(rintro w' ⟨s1,s2,s3⟩;exact goS))))|(refine zm rfl ?_));try simp only[Act.put,pA,pB,pC])
  refine zL (hK.out _ _ ?_)
  go_wp2_with fail
  go_ret
  exact zcw.no HC.o F1.o.drew D.o (by decide)
 ·have XI:=J hin
  rw[HI.o] at hin
  have K1:=J (k2 hin)
  have bz:C≤900:=le_trans SQ.o hN
  clear k1 k2 hin
  unfold y7 at K1
  go_enter Tryz.func50,Tryz.ntmps50
  go_wp2_with fail
  have aE:=@J (w.heap.size<(w.alloc (.cells (zf x).toArray 41)).heap.size) (by simp)
  generalize bC:w.heap.size=bx at*
  generalize w.alloc (.cells (zf x).toArray 41)=w1 at*
  refine wrLx [ff,ff,ff,ff,ff,ff,ff] (λw'=>w'.cell? ⟨p,0,none⟩=some (.map (some m))∧w'.rangeAt bx 0 (zf x)∧(∀M,qH w m M→qH w' m M)) ?_ (λK hK=>?_)
  ·exact⟨(frN _).drew.cell c0 id,za RB.o (frN _).drew id,KM.o _ (frN _).drew⟩
  repeat((first|(refine zl rfl ?_;constructor;constructor;(focus(first|exact zog rfl (λw h=>h.2.1) HX.o|exact λw' h=>zM (t:=197) rfl rfl rfl (K1.o w' h.2.2)|(rintro w' ⟨s1,s2,s3⟩;exact goS))))|(refine zm rfl ?_));try simp only[Act.put,pA,pB,pC])
  refine zL (hK.out _ _ ?_)
  have F2:=J (F1.o.drew)
  have bd:=J (za RB.o (frN _).drew id)
  have bm:=(frN w1).drew.cell c1 id
  have Z:=@J (bx<w1.drew.heap.size) (aE.o)
  clear c0 c1 RB F1 KM aE K1
  generalize w1.drew=w2 at*
  have aT:=yj w2 (.cells #[.int .i64 ((C:Int)+1),.slice none 0 0,.slice none 0 0] 201)
  have FN:=J ((frN w2).alloc (.cells #[.int .i64 ((C:Int)+1),.slice none 0 0,.slice none 0 0] 201))
  have bj:=@J (zhp w (w2.alloc (.cells #[.int .i64 ((C:Int)+1),.slice none 0 0,.slice none 0 0] 201)) G C w2.heap.size bx x l 0 (.slice none 0 0)) (⟨zero_le _,by simp,aT,World.ownsRow_nil _ _ _ _,F2.o.trans0 FN.o,za bd.o FN.o id⟩)
  clear aT
  go_wp2_with fail
  generalize bE:w2.heap.size=o at*
  generalize w2.alloc (.cells #[.int .i64 ((C:Int)+1),.slice none 0 0,.slice none 0 0] 201)=w3 at*
  clear bm
  go_loopw [30] (λiv wr=>∃(n:Nat) (nv:Value),iv=.int .i64 n∧zhp w wr G C o bx x l n nv) (λiv _=>l.length-(intOf iv).toNat)
  case atStart=>exact⟨0,_,rfl,bj.o⟩
  case round=>
   obtain⟨n,nv,rfl,a⟩:=hrel
   have bD:=a.le
   by_cases h:n<l.length
   ·have i1:(n:Int)<(l.length:Int):=by omega
    obtain⟨q,hq⟩:∃q,l[n]? =some q:=⟨_,getElem?_eq_getElem h⟩
    have QT:=J (Yz hq)
    have ab:=J (HL.o.1 q (mem_of_getElem? hq))
    have QM:=J (mem_of_getElem? hq)
    have U:=J (zx ab.o)
    obtain⟨bq,oq,cq,aD,T,-⟩:=(HL.o.keep a.fr).at_ hq
    cases aD
    have R1:=J T
    have FA:=J ((frN wr).alloc (.cells (zf q).toArray 41))
    have RN:=J (zy wr (zf q) 41)
    have c:=J (a.keep FA.o)
    have bb:=J (λj e=>(a.row.lt j e).2)
    have aF:=@J (bx<wr.heap.size) (by have:=yF a.blk;have:=Z.o;omega)
    clear a hq T
    go_wp2_with (first|(refine zoc rfl rfl rfl R1.o U.o ?_)|(refine zi rfl (zj (w:=wr) (cs:=zf q) (ty:=41) rfl rfl rfl (by rw[U.o];rfl) (by rw[U.o];exact yt) zU) ?_))
    generalize bt:wr.heap.size=q4 at*
    generalize wr.alloc (.cells (zf q).toArray 41)=w4 at*
    have c0:=c.o.fr.cell (Vf HR.o.obj).1 id
    have KM:=J (λ(w':World) (f:Fr No w4 w')=>HR.o.keepM (c.o.fr.trans0 f))
    obtain⟨k1,k2⟩:=HR.o.run_look ab.o false rfl
    by_cases ae:q∈ids G
    ·have QI:=J ae
     have ak:=ae
     rw[HI.o] at ak
     obtain⟨r,hr,T⟩:=mem_map.1 ak
     have K1:=J (k1 r hr T)
     clear k1 k2 ae ak hr T
     unfold Qo at K1
     unfold y7 at K1
     refine wrLx [ff,ff,ff,ff,ff,ff,ff] (λw'=>w'.cell? ⟨p,0,none⟩=some (.map (some m))∧w'.rangeAt q4 0 (zf q)∧(∀M,qH w m M→qH w' m M)) ?_ (λK hK=>?_)
     ·exact⟨(frN _).drew.cell c0 id,za RN.o (frN _).drew id,KM.o _ (frN _).drew⟩
     repeat((first|(refine zl rfl ?_;constructor;constructor;(focus(first|exact zog rfl (λw h=>h.2.1) U.o|exact λw' h=>zM (t:=197) rfl rfl rfl (K1.o w' h.2.2)|(rintro w' ⟨s1,s2,s3⟩;exact goS))))|(refine zm rfl ?_));try simp only[Act.put,pA,pB,pC])
     refine zL (hK.out _ _ ?_)
     have u:=J (c.o.keep (frN _).drew)
     have ad:=J (za RN.o (frN _).drew id)
     have O:=@J (∀y∈l.take (n+1),y∈ids G) (λy I=>by
      rw[QT.o] at I
      rcases mem_append.1 I with I|I
      ·exact c.o.sub y I
      ·rw[mem_singleton.1 I];exact QI.o)
     have X:=@J ((dedup (l.take n)).length≤500) (by have:=zcI (l.take n);simp only[length_take] at this;omega)
     have Y:=@J (∀y∈dedup (l.take n),zY y) (λy I=>HL.o.1 y (List.mem_of_mem_take (Jq.1 I)))
     clear c0 KM K1 c RN
     generalize w4.drew=w5 at*
     go_wp2_with fail
     have cn:=(Y7 u.o.blk).2.1
     have DS:=J (zfX (l.take n) q)
     rw[←QT.o] at DS
     by_cases hqd:q∈dedup (l.take n)
     ·have QD:=@J (decide (q∈dedup (l.take n))=true) (decide_eq_true hqd)
      rw[if_pos hqd] at DS
      clear hqd
      refine wrLx [ff,ff,ff,ff,ff,tt,ff] (λw'=>w'.cell? ⟨o,1,none⟩=some nv∧w'.rangeAt q4 0 (zf q)) ?_ (λK hK=>?_)
      ·exact⟨(frN _).drew.cell cn id,za ad.o (frN _).drew id⟩
      repeat((first|(refine zl rfl ?_;constructor;constructor;(focus(first|exact zog rfl (λw h=>h.2) U.o|(rintro w' ⟨s1,s2⟩;exact goS))))|(refine zm rfl ?_));try simp only[Act.put,pA,pB,pC])
      (refine zF rfl (λK' hK'=>?_))
      go_simp
      refine(YH _ (yP.own (zb u.o.row (frN w5).drew (λ_ _=>id)) Y.o) (by have:=X.o;omega) q ab.o).mono ?_
      rintro e w6 ⟨rfl,f6⟩
      rw[QD.o]
      have F6:=J ((frN w5).drew.trans0 f6)
      refine nXt hK' ?_ λhS=>?_
      ·exact⟨F6.o.cell cn id,za ad.o F6.o id⟩
      try simp only[Act.put,pA,pB,pC]
      repeat((first|(refine zl rfl ?_;constructor;constructor;(focus(rintro w' ⟨s1,s2⟩;exact goS)))|(refine zm rfl ?_));try simp only[Act.put,pA,pB,pC])
      refine zL (hK.out _ _ ?_)
      go_wp2_with fail
      go_roundw
      case rel=>exact⟨n+1,nv,by simp,by omega,O.o,(u.o.keep F6.o).blk,by rw[DS.o];exact(u.o.keep F6.o).row,(u.o.keep F6.o).fr,(u.o.keep F6.o).rx⟩
      case measure=>show l.length-(n+1)<l.length-n;omega
     ·have QD:=@J (decide (q∈dedup (l.take n))=false) (decide_eq_false hqd)
      rw[if_neg hqd] at DS
      clear hqd
      refine wrLx [ff,ff,ff,ff,ff,tt,ff] (λw'=>w'.cell? ⟨o,1,none⟩=some nv∧w'.rangeAt q4 0 (zf q)) ?_ (λK hK=>?_)
      ·exact⟨(frN _).drew.cell cn id,za ad.o (frN _).drew id⟩
      repeat((first|(refine zl rfl ?_;constructor;constructor;(focus(first|exact zog rfl (λw h=>h.2) U.o|(rintro w' ⟨s1,s2⟩;exact goS))))|(refine zm rfl ?_));try simp only[Act.put,pA,pB,pC])
      (refine zF rfl (λK' hK'=>?_))
      go_simp
      refine(YH _ (yP.own (zb u.o.row (frN w5).drew (λ_ _=>id)) Y.o) (by have:=X.o;omega) q ab.o).mono ?_
      rintro e w6 ⟨rfl,f6⟩
      rw[QD.o]
      have F6:=J ((frN w5).drew.trans0 f6)
      refine nXt hK' ?_ λhS=>?_
      ·exact⟨F6.o.cell cn id,za ad.o F6.o id⟩
      try simp only[Act.put,pA,pB,pC]
      repeat((first|(refine zl rfl ?_;constructor;constructor;(focus(rintro w' ⟨s1,s2⟩;exact goS)))|(refine zm rfl ?_));try simp only[Act.put,pA,pB,pC])
      refine zL (hK.out _ _ ?_)
      have H:=J (u.o.keep F6.o)
      have aL:=J (za ad.o F6.o id)
      clear f6 F6 u ad cn
      go_wp2_with fail
      have cn:=(Y7 H.o.blk).2.1
      have aK:=J (zaR H.o.row H.o.blk)
      obtain⟨v7,w7,F,Q,f7,-,aj⟩:=yY (P:=prog) w6.drew o 38 38 41 32 32 _ xP qm rfl (by decide) (zb H.o.row (frN w6).drew (λ_ _=>id)) (zf q) U.o zU (by have:=X.o;omega) (by have:=X.o;unfold maxLen;omega) (by have:=yF H.o.blk;exact Nat.le_of_lt this)
      obtain⟨a7,c7,aq⟩:=Q.slice.arg.form
      subst aq
      have af:=J F
      have F7:=@J (Fr (λj=>nv.ownBlock=some j) w6 w7) (((frN w6).drew.of0 (W:=λj=>nv.ownBlock=some j)).trans f7 (λ_ _ h=>h))
      have O7:=@J (w7.ownsRow o 41 32 (.slice a7 ((dedup (l.take n)).length+1) c7) (dedup (l.take (n+1))).length ((dedup (l.take (n+1))).flatMap zf)) (by rw[DS.o,List.length_append,flatMap_append];simpa using Q)
      have B7:=F7.o.obj H.o.blk (λe=>aK.o _ e rfl)
      have ba:=@J (∀j,(Value.slice a7 ((dedup (l.take n)).length+1) c7).ownBlock=some j→j≠o) (λj e e2=>(aj j e).elim (λh=>aK.o j h e2) (λh=>by have:=yF H.o.blk;have e3:w6.drew.heap.size=w6.heap.size:=rfl;omega))
      obtain⟨-,z1,-,-,z2,-⟩:=Y7 B7
      have KS:=J (λ(w':World) (f:Fr No w6 w')=>(⟨f.cell cn id,za aL.o f id⟩:w'.cell? ⟨o,1,none⟩=some nv∧w'.rangeAt q4 0 (zf q)))
      have K7:=@J (w7.cell? ⟨o,1,none⟩=some nv∧w7.rangeAt q4 0 (zf q)) (⟨z1,za aL.o F7.o (λe=>by have:=bb.o _ e;omega)⟩)
      clear F Q f7 aj
      generalize aS:(dedup (l.take n)).length+1=dl at*
      refine yp [ff,ff,ff,ff,ff,ff,tt,tt,ff,ff,tt] (λw'=>w'.cell? ⟨o,1,none⟩=some nv∧w'.rangeAt q4 0 (zf q)) (by kernel_rfl) (by kernel_rfl) 10 (by kernel_rfl) (by kernel_rfl) ?_ (λK hK=>?_)
      ·exact KS.o _ (frN _).drew
      repeat((first|(refine yb rfl ?_;constructor;constructor;(focus(first|exact zog rfl (λw h=>h.2) U.o|(rintro w' ⟨s1,s2⟩;exact goS))))|(refine yc rfl ?_));try simp only[Act.put,pA,pB,pC])
      (refine ya rfl (λK' hK'=>?_))
      refine yg (zS (t:=38) rfl rfl xP qK rfl (by decide) (by decide) U.o) ?_
      refine hK'.out _ _ (λ_=>?_) (λhS=>?_)
      ·exact KS.o _ ((frN w6).drew.alloc _)
      try simp only[Act.put,pA,pB,pC]
      (refine ya rfl (λK' hK'=>?_))
      refine yr rfl rfl rfl af.o ?_
      refine hK'.out _ _ (λ_=>?_) (λhS=>?_)
      ·exact K7.o
      try simp only[Act.put,pA,pB,pC]
      repeat((first|(refine yb rfl ?_;constructor;constructor;(focus(first|(rintro w' ⟨s1,s2⟩;exact goS))))|(refine yc rfl ?_));try simp only[Act.put,pA,pB,pC])
      (refine ya rfl (λK' hK'=>?_))
      go_simp
      refine hK'.out _ _ (λh=>absurd rfl h) (λhS=>?_)
      refine xA (hK.out _ _ ?_)
      have f8:Fr (λj=>j=o) w7 (w7.setCell ⟨o,1,none⟩ (.slice a7 dl c7)):=(Fr.refl (λj=>j=o) w7).setCell ⟨o,1,none⟩ (.inr rfl) _
      have F8:=@J (Fr (λj=>o≤j) w6 (w7.setCell ⟨o,1,none⟩ (.slice a7 dl c7))) ((F7.o.mono (λj e=>(H.o.row.lt j e).1)).trans f8 (λj _ e=>by omega))
      have ax:=@J (zhp w (w7.setCell ⟨o,1,none⟩ (.slice a7 dl c7)) G C o bx x l (n+1) (.slice a7 dl c7)) (⟨h,O.o,by
       have:=heap_setCell_same w7 o 1 _ _ (.slice a7 dl c7) B7
       simpa using this,zb O7.o f8 ba.o,H.o.fr.trans F8.o (λj d e=>by have:=Z.o;omega),za H.o.rx F8.o (λe=>by have:=Z.o;omega)⟩)
      clear f8 B7 z1 z2 cn
      go_wp2_with fail
      go_roundw
      case rel=>exact⟨n+1,_,by simp,ax.o⟩
      case measure=>show l.length-(n+1)<l.length-n;omega
    ·have K1:=J (k2 (by rw[←HI.o];exact ae))
     have E9:=J (zht XI.o ⟨q,QM.o,ae⟩)
     clear k1 k2 ae
     unfold y7 at K1
     refine wrLx [ff,ff,ff,ff,ff,ff,ff] (λw'=>w'.cell? ⟨p,0,none⟩=some (.map (some m))∧w'.rangeAt q4 0 (zf q)∧(∀M,qH w m M→qH w' m M)) ?_ (λK hK=>?_)
     ·exact⟨(frN _).drew.cell c0 id,za RN.o (frN _).drew id,KM.o _ (frN _).drew⟩
     repeat((first|(refine zl rfl ?_;constructor;constructor;(focus(first|exact zog rfl (λw h=>h.2.1) U.o|exact λw' h=>zM (t:=197) rfl rfl rfl (K1.o w' h.2.2)|(rintro w' ⟨s1,s2,s3⟩;exact goS))))|(refine zm rfl ?_));try simp only[Act.put,pA,pB,pC])
     refine zL (hK.out _ _ ?_)
     go_wp2_with fail
     go_ret
     exact zcw.no HC.o c.o.fr.drew E9.o (by decide)
   ·have i1:¬(n:Int)<(l.length:Int):=by omega
    have aB:n=l.length:=by omega
    subst aB
    have al:=a.sub
    have S:=a.row
    rw[take_length] at al S
    obtain⟨na,nc,bs⟩:=S.slice.arg.form
    subst bs
    have Y:=@J (∀y∈dedup l,zY y) (λy I=>HL.o.1 y (Jq.1 I))
    have X:=@J ((dedup l).length≤500) (le_trans (zcI l) bp)
    have a1:=J (Xj l)
    have UE:=@J (zdT true G (dedup l)=upS G l) (zlP λy=>Jq)
    have O:=J al
    have c:=J a
    have cn:=(Y7 a.blk).2.1
    have HW:=J (λ(wz:World) (f:Fr No wr wz)=>zgF (HC.o.fr0 (c.o.fr.trans0 f)) (by omega) (yP.own (zb S f (λ_ _=>id)) Y.o) (by have:=X.o;omega) true)
    have aM:=J S
    have aP:=@J ((upS G l).Nodup) (HC.o.gok.nd.sublist (jQ l))
    clear a al S
    by_cases hU:(upS G l).length<6
    ·have E0:=J (zgL XI.o O.o hU)
     go_wp2_with (first|(go_at_call 93;refine(HW.o _ (frN wr)).mono ?_;rintro e w5 ⟨b,M,rfl,hm,hs,hb,f5⟩;rw[UE.o] at hs;have aA:M.length=(upS G l).length:=(by rw[(keys_perm hm.nodup hs aP.o).length_eq,length_map]);have j6:¬(6:Int)≤(M.length:Int):=(by omega);have HM:=J hm;have F5:=J f5;have bn:=f5.cell cn id;clear hm hs aA f5)|(refine zg rfl (jj rfl rfl (HM.o.lenRun jt _)) ?_))
     have u:=J (c.o.keep F5.o)
     have ah:=J (zb aM.o F5.o (λ_ _=>id))
     clear c aM HM F5 cn HW j6 bn
     have aw:=@J (∀j∈yT p m L,j<w.heap.size) (HR.o.hi)
     have WB:=@J (w.heap.size≤bx∧bx≠o∧(Value.slice na (dedup l).length nc).ownBlock≠some bx) (⟨by omega,by have:=Z.o;omega,λe=>by have:=(ah.o.lt bx e).1;have:=Z.o;omega⟩)
     have WN:=@J (w.heap.size≤o) (by have:=Z.o;omega)
     have bh:=@J (zec w0 w w5 p m C o bx x L L ((JJ G).map (zbs x ((dedup l).take 0))) (.slice na (dedup l).length nc) (dedup l)) (⟨HR.o.fr0 u.o.fr,by
      rw[HT.o]
      conv=>lhs;rw[←List.map_id (JJ G)]
      exact map_congr_left λt _=>by simp[zbs],λj d=>.inl d,u.o.blk,ah.o,u.o.fr.of0,u.o.rx⟩)
     have DI:=@J (∀y∈dedup l,y∈ids G) (λy I=>O.o y (Jq.1 I))
     have TN:=@J (((JJ G).map (·.1)).Nodup) (by rw[J6];exact HC.o.gok.nd)
     have bk:=@J (∀t∈JJ G,t.2.2.length≤1000) (λt ht=>by
      obtain⟨n,hn,rfl⟩:=mem_map.1 ht
      have h2:=zbb (G:=G) n.id
      have:=HC.o.len
      exact le_trans h2 (by omega))
     have G3:=J (zkH HC.o.gok XI.o O.o)
     clear u ah
     generalize bB:dedup l=D at*
     go_loopw [72] (λiv wr=>∃(n:Nat) (L':List yL),iv=.int .i64 n∧n≤D.length∧zec w0 w wr p m C o bx x L L' ((JJ G).map (zbs x (D.take n))) (.slice na D.length nc) D) (λiv _=>D.length-(intOf iv).toNat)
     case atStart=>exact⟨0,L,rfl,zero_le _,bh.o⟩
     case round=>
      obtain⟨n,L',rfl,hn,a⟩:=hrel
      by_cases h:n<D.length
      ·have i1:(n:Int)<(D.length:Int):=by omega
       obtain⟨q,hq⟩:∃q,D[n]? =some q:=⟨_,getElem?_eq_getElem h⟩
       have QM:=J (mem_of_getElem? hq)
       obtain⟨A,r,B,rfl,aU,t,ht,aX,aW⟩:=Vp (f:=zbs x (D.take n)) (λ_=>rfl) a.tri (q:=q) (by rw[J6];exact DI.o q QM.o)
       obtain⟨bq,oq,cq,aD,T,-⟩:=(yP.own a.row Y.o).at_ hq
       cases aD
       have ab:=J (Y.o q QM.o)
       have U:=J (zx ab.o)
       have R1:=J T
       have FA:=J ((frN wr).alloc (.cells (zf q).toArray 41))
       have RN:=J (zy wr (zf q) 41)
       have c:=J (a.keep FA.o)
       have QT:=J (Yz hq)
       have QN:=J (Qe a1.o hq)
       have aa:=J (λj (d:r.cv.ownBlock=some j)=>a.gr.dis (A:=A) (B:=B) (j:=j) (.inr d))
       have aF:=@J (bx<wr.heap.size) (by have:=yF a.blk;have:=Z.o;omega)
       have bc:=@J (∀j,r.cv.ownBlock=some j→j≠bx) (λj d=>by
        have E:j∈yT p m (A++r::B):=by rw[xD];have h2:j∈r.blks:=vo.2 (.inr (.inr d));simp[h2]
        rcases a.sub j E with h3|h3
        ·have:=aw.o j h3;omega
        ·exact h3.2.2.2)
       have aH:=@J (r.ks.length≤1000) (by
        have E:=bk.o t ht
        have e1:=congrArg (λz:Tri=>z.2.2) aW
        simp only[zbs,yL.t3] at e1
        rw[aX,if_neg QN.o] at e1
        rw[←e1]
        exact E)
       have bw:=X.o
       clear a hq T aW ht aX
       subst aU
       go_wp2_with (first|(refine zoc rfl rfl rfl R1.o U.o ?_)|(refine zi rfl (zj (w:=wr) (cs:=zf r.id) (ty:=41) rfl rfl rfl (by rw[U.o];rfl) (by rw[U.o];exact yt) zU) ?_))
       generalize bt:wr.heap.size=q4 at*
       generalize wr.alloc (.cells (zf r.id).toArray 41)=w4 at*
       have RM:=@J (r∈A++r::B) (by simp)
       have ND:=J (c.o.gr.node r RM.o)
       have bf:=@J (zY r.id∧(∀y∈r.ps,zY y)∧∀y∈r.ks,zY y) (c.o.gr.ok r RM.o)
       have LK:=J (c.o.gr.lookR RM.o)
       have KP:=J (λ(w':World) (f:Fr (λj=>r.cv.ownBlock=some j) w4 w')=>(⟨f.cell (Vf c.o.gr.obj).1 (λe=>(aa.o _ e).1 rfl),za RN.o f (λe=>by have:=(aa.o _ e).2.2.2;omega),λM hM=>hM.keep f (λe=>(aa.o _ e).2.1 rfl),f.cell (Y7 ND.o.blk).2.2.1 (λe=>(aa.o _ e).2.2.1 rfl),za c.o.rx f (λe=>bc.o _ e rfl)⟩:w'.cell? ⟨p,0,none⟩=some (.map (some m))∧w'.rangeAt q4 0 (zf r.id)∧(∀M,qH w4 m M→qH w' m M)∧w'.cell? ⟨r.b,2,none⟩=some r.cv∧w'.rangeAt bx 0 (zf x)))
       obtain⟨v7,w7,F,Q,f7,-,aj⟩:=yY (P:=prog) w4.drew w0.heap.size 38 38 41 32 32 _ xP qm rfl (by decide) (zb ND.o.crow (frN w4).drew (λ_ _=>id)) (zf x) HX.o zU (by have:=aH.o;omega) (by have:=aH.o;unfold maxLen;omega) (by have:=c.o.gr.fr.size;exact this)
       obtain⟨a7,c7,aq⟩:=Q.slice.arg.form
       generalize aS:r.ks.length+1=dl at aq F Q
       subst aq
       have af:=J F
       have F7:=@J (Fr (λj=>r.cv.ownBlock=some j) w4 w7) (((frN w4).drew.of0 (W:=λj=>r.cv.ownBlock=some j)).trans f7 (λ_ _ h=>h))
       have O7:=@J (w7.ownsRow w0.heap.size 41 32 (.slice a7 dl c7) (r.ks++[x]).length ((r.ks++[x]).flatMap zf)) (by rw[List.length_append,flatMap_append,show[x].length=1 from rfl,aS];simpa using Q)
       have N7:=@J (∀j,(Value.slice a7 dl c7).ownBlock=some j→r.cv.ownBlock=some j∨w4.heap.size≤j) (aj)
       have FZ:=@J (w7.cell? ⟨r.b,2,none⟩=some r.cv∧w7.frozen? ⟨r.b,2,none⟩=false) (⟨(Y7 (F7.o.obj ND.o.blk (λe=>(aa.o _ e).2.2.1 rfl))).2.2.1,(Y7 (F7.o.obj ND.o.blk (λe=>(aa.o _ e).2.2.1 rfl))).2.2.2.2.2⟩)
       clear F Q f7 aj
       refine yp [ff,ff,ff,ff,ff,ff,ff,ff,ff,ff,ff,ff,ff,ff,ff,ff,tt,tt,ff,ff,tt] (λw'=>w'.cell? ⟨p,0,none⟩=some (.map (some m))∧w'.rangeAt q4 0 (zf r.id)∧(∀M,qH w4 m M→qH w' m M)∧w'.cell? ⟨r.b,2,none⟩=some r.cv∧w'.rangeAt bx 0 (zf x)) (by kernel_rfl) (by kernel_rfl) 20 (by kernel_rfl) (by kernel_rfl) ?_ (λK hK=>?_)
       ·exact KP.o _ (frN _).drew.of0
       repeat((first|(refine yb rfl ?_;constructor;constructor;(focus(first|exact zog rfl (λw h=>h.2.1) U.o|exact zog rfl (λw h=>h.2.2.2.2) HX.o|exact λw' h=>zM (t:=197) rfl rfl rfl (LK.o w' h.2.2.1)|(rintro w' ⟨s1,s2,s3,s4,s5⟩;exact goS))))|(refine yc rfl ?_));try simp only[Act.put,pA,pB,pC])
       (refine ya rfl (λK' hK'=>?_))
       refine yg (zS (t:=38) rfl rfl xP qK rfl (by decide) (by decide) HX.o) ?_
       refine hK'.out _ _ (λ_=>?_) (λhS=>?_)
       ·exact KP.o _ ((frN w4).drew.alloc _).of0
       try simp only[Act.put,pA,pB,pC]
       repeat((first|(refine yb rfl ?_;constructor;constructor;(focus(first|(rintro w' ⟨s1,s2,s3,s4,s5⟩;exact goS))))|(refine yc rfl ?_));try simp only[Act.put,pA,pB,pC])
       (refine ya rfl (λK' hK'=>?_))
       refine yr rfl rfl rfl af.o ?_
       refine hK'.out _ _ (λ_=>?_) (λhS=>?_)
       ·exact KP.o _ F7.o
       try simp only[Act.put,pA,pB,pC]
       repeat((first|(refine yb rfl ?_;constructor;constructor;(focus(first|exact zog rfl (λw h=>h.2.1) U.o|exact λw' h=>zM (t:=197) rfl rfl rfl (LK.o w' h.2.2.1)|(rintro w' ⟨s1,s2,s3,s4,s5⟩;exact goS))))|(refine yc rfl ?_));try simp only[Act.put,pA,pB,pC])
       obtain⟨z1,z2⟩:=FZ.o
       (refine ya rfl (λK' hK'=>?_))
       go_simp
       refine hK'.out _ _ (λh=>absurd rfl h) (λhS=>?_)
       refine xA (hK.out _ _ ?_)
       obtain⟨g8,f8⟩:=c.o.gr.setc F7.o O7.o N7.o (λy I=>(mem_append.1 I).elim (bf.o.2.2 y) (λe=>by rw[mem_singleton.1 e];exact ay.o))
       have ax:=J (c.o.step g8 f8 (λj d=>by
        rw[vo] at d⊢
        rcases d with E|E|E
        ·exact .inl (.inl E)
        ·exact .inl (.inr (.inl E))
        ·exact(N7.o j E).imp (λe=>.inr (.inr e)) id) (step_map (f:=zbs x (D.take n)) (g:=zbs x (D.take (n+1))) TN.o (λ_=>rfl) c.o.tri rfl (λt ht e1 e2=>by
        simp only[yL.t3,zbs] at e2⊢
        rw[e1,if_neg QN.o] at e2
        rw[e1,QT.o,if_pos (by simp)]
        injection e2 with e2 e3
        injection e3 with e3 e4
        rw[e3,e4]) (λt ht e1=>by
        simp only[zbs,QT.o,mem_append,mem_singleton,e1,or_false])) aw.o (lt_of_lt_of_le aF.o (by have:=FA.o.size;omega)) WB.o WN.o)
       clear g8 f8 z1 z2
       go_wp2_with fail
       go_roundw
       case rel=>exact⟨n+1,_,by simp,by omega,ax.o⟩
       case measure=>show D.length-(n+1)<D.length-n;omega
      ·have i1:¬(n:Int)<(D.length:Int):=by omega
       have aB:n=D.length:=by omega
       subst aB
       have aC:=a.tri
       rw[take_length] at aC
       have c1:=(Vf a.gr.obj).2.1
       have fz:=(Vf a.gr.obj).2.2.2
       have ai:=a.gr.count (s:=C+1) (by omega)
       rw[show((C+1:Nat):Int)=(C:Int)+1 by omega] at ai
       have ao:p∈yT p m L':=by simp[yT]
       have br:m∈yT p m L':=by simp[yT]
       have R:∀j∈yT p m L',j≠o∧j≠bx∧(Value.slice na D.length nc).ownBlock≠some j:=λj d=>by
        rcases a.sub j d with E|E
        ·have:=aw.o j E
         refine⟨by have:=WN.o;omega,by omega,λe=>?_⟩
         have:=(a.row.lt j e).1
         have:=WN.o
         omega
        ·exact⟨E.2.1,E.2.2.2,E.2.2.1⟩
       have fc:Fr (λj=>j=p) wr (wr.setCell ⟨p,1,none⟩ (.int .i64 ((C:Int)+1))):=(Fr.refl (λj=>j=p) wr).setCell ⟨p,1,none⟩ (.inr rfl) _
       have aN:=J a.sub
       have au:=J R
       have aO:=J aC
       have bl:=J a.gr.top
       have G6:=J ai
       have ar:=J (fc.obj a.blk (λe=>(R p ao).1 e.symm))
       have ag:=J (zb a.row fc (λj e e2=>(R p ao).2.2 (by rw[←e2];exact e)))
       have bg:=J (za a.rx fc (λe=>(R p ao).2.1 e.symm))
       have a8:=@J (Fr (λj=>j∈yT p m L) w (wr.setCell ⟨p,1,none⟩ (.int .i64 ((C:Int)+1)))) (a.fr.trans fc (λi _ e=>by subst e;simp[yT]))
       clear a ai aC R fc ao br
       go_wp2_with fail
       generalize wr.setCell ⟨p,1,none⟩ (.int .i64 ((C:Int)+1))=w6 at*
       clear c1 fz
       have c0:=(Vf G6.o.obj).1
       have aI:=@J (L'.map (·.id)=ids G) (by
        have E:=congrArg (List.map Prod.fst) aO.o
        rw[map_map,map_map] at E
        refine E.trans ?_
        rw[←J6]
        rfl)
       obtain⟨M,hM,az⟩:=G6.o.map
       have bo:M.length≤1000:=by
        have E:=qp (m:=ids G) hM.nodup (λy I=>by
         obtain⟨⟨k,b'⟩,bu,rfl⟩:=mem_map.1 I
         obtain⟨r,hr,e,-⟩:=(az k b').1 bu
         rw[←aI.o,←e]
         exact mem_map.2 ⟨r,hr,rfl⟩)
        have h2:=HC.o.len
        simp only[ids,length_map] at E
        omega
       obtain⟨w8,M',aZ,aQ,av,aY,-⟩:=(hM.keep (frN w6).drew id).upd xR.keyed J8 (λ_ _=>y3) (yu ay.o) (by unfold maxLen;omega) o
       have f8:Fr (λj=>j=m) w6 w8:=((frN w6).drew.of0 (W:=λj=>j=m)).trans aY.fr (λ_ _ h=>h)
       have bA:=HR.o.fr.size
       have aJ:=zaR ag.o ar.o
       have aR:(yL.mk x (C+1) D [] o (.slice na D.length nc) (.slice none 0 0)).blks.Nodup:=zdr (λe=>aJ o e rfl) (λe=>by cases e) (λj _ e=>by cases e)
       have F:∀j∈(yL.mk x (C+1) D [] o (.slice na D.length nc) (.slice none 0 0)).blks,j∉yT p m L'∧w.heap.size≤j:=λj d=>by
        rw[vo] at d
        rcases d with d|d|d
        ·have d:j=o:=d
         exact⟨λe=>(au.o j e).1 d,by have:=WN.o;omega⟩
        ·exact⟨λe=>(au.o j e).2.2 d,by have:=(ag.o.lt j d).1;have:=WN.o;omega⟩
        ·cases d
       have af:=J F
       have G8:=J (G6.o.ins (r:=⟨x,C+1,D,[],o,.slice na D.length nc,.slice none 0 0⟩) az aQ av f8 ⟨by rw[show((C+1:Nat):Int)=(C:Int)+1 by omega];exact ar.o,Xv ag.o (by have:=WN.o;omega),World.ownsRow_nil _ _ _ _⟩ (by rw[aI.o];exact XI.o) aR (λj d=>⟨(F j d).1,by have:=(F j d).2;omega⟩) (λy I=>by have:=bl.o y I;show y.seq<C+1;omega) (le_refl _) ⟨ay.o,Y.o,by simp⟩)
       have F8:=@J (Fr V w w8) (by
        rw[HV.o]
        exact a8.o.trans f8 (λi _ e=>by subst e;simp[yT]))
       have T8:=@J ((L'++[(⟨x,C+1,D,[],o,.slice na D.length nc,.slice none 0 0⟩:yL)]).map yL.t3=JJ (Qj G x l)) (by rw[map_append,aO.o,G3.o];rfl)
       have VJ:=@J (∀j,j∈yT p m (L'++[(⟨x,C+1,D,[],o,.slice na D.length nc,.slice none 0 0⟩:yL)])→V j∨w.heap.size≤j) (λj d=>by
        have e:yT p m (L'++[(⟨x,C+1,D,[],o,.slice na D.length nc,.slice none 0 0⟩:yL)])=yT p m L'++(yL.mk x (C+1) D [] o (.slice na D.length nc) (.slice none 0 0)).blks:=by simp[yT]
        rw[e] at d
        rcases mem_append.1 d with d|d
        ·rcases aN.o j d with E|E
         ·exact .inl (by rw[HV.o];exact E)
         ·exact .inr E.1
        ·exact .inr (af.o j d).2)
       have aG:=J aZ
       clear hM az bo aZ aQ av aY f8 aJ aR F
       unfold y7 Qo at aG
       refine yp [ff,ff,ff,ff,ff,ff,tt] (λw'=>w'.cell? ⟨p,0,none⟩=some (.map (some m))∧w'.rangeAt bx 0 (zf x)) (by kernel_rfl) (by kernel_rfl) 6 (by kernel_rfl) (by kernel_rfl) ?_ (λK hK=>?_)
       ·exact⟨(frN _).drew.cell c0 id,za bg.o (frN _).drew id⟩
       repeat((first|(refine yb rfl ?_;constructor;constructor;(focus(first|exact zog rfl (λw h=>h.2) HX.o|(rintro w' ⟨s1,s2⟩;exact goS))))|(refine yc rfl ?_));try simp only[Act.put,pA,pB,pC])
       (refine ya rfl (λK' hK'=>?_))
       refine yN (y4 rfl rfl rfl rfl aG.o) ?_
       refine hK'.out _ _ (λh=>absurd rfl h) (λhS=>?_)
       refine xA (hK.out _ _ ?_)
       go_wp2_with fail
       go_ret
       refine⟨by rw[E0.o];rfl,_,?_,F8.o,VJ.o⟩
       rw[if_pos E0.o]
       exact GC.of_tri G8.o T8.o (by have:=SQ.o;omega) (zgM HC.o.gok XI.o O.o) (by have:=HC.o.len;unfold Qj;simp;omega)
    ·have a6:=J (ziU XI.o O.o hU)
     go_wp2_with (first|(go_at_call 93;refine(HW.o _ (frN wr)).mono ?_;rintro e w5 ⟨b,M,rfl,hm,hs,hb,f5⟩;rw[UE.o] at hs;have aA:M.length=(upS G l).length:=(by rw[(keys_perm hm.nodup hs aP.o).length_eq,length_map]);have j6:(6:Int)≤(M.length:Int):=(by omega);have HM:=J hm;have F5:=J f5;clear hm hs aA f5)|(refine zg rfl (jj rfl rfl (HM.o.lenRun jt _)) ?_))
     go_ret
     exact zcw.no HC.o (c.o.fr.trans0 F5.o) a6.o (by decide)
end
structure yd where
 id:zd
 tx:TxD
 fee:Int
 size:Int
 added:Int
 ps:List zd
def gOf (L:List yd):List yX:=L.map λe=>⟨e.id,e.ps⟩
def xt (L:List yd):List zd:=L.map (·.id)
theorem vm (L:List yd):ids (gOf L)=xt L:=by simp[gOf,ids,xt,Function.comp_def]
theorem zeB (L:List yd) (e:yd):gOf (L++[e])=gOf L++[⟨e.id,e.ps⟩]:=by simp[gOf]
def Vm (L:List yd) (x:zd):Option yd:=L.find? λe=>decide (e.id=x)
theorem zhN {L:List yd} {x:zd} {e:yd} (h:Vm L x=some e):e∈L∧e.id=x:=by
 unfold Vm at h
 exact⟨List.mem_of_find?_eq_some h,by simpa using List.find?_some h⟩
theorem zhM {L:List yd} {x:zd}:Vm L x=none↔x∉xt L:=by
 unfold Vm xt
 rw[List.find?_eq_none]
 simp only[decide_eq_true_eq,mem_map,not_exists,not_and]
theorem zet:∀ {L:List yd},(xt L).Nodup→∀ {e:yd},e∈L→Vm L e.id=some e
 |[],_,_,h=>by cases h
 |x::r,hn,e,h=>by
  obtain⟨a,b⟩:=nodup_cons.1 hn
  unfold Vm
  rcases mem_cons.1 h with rfl|h
  ·simp
  ·have:x.id≠e.id:=λc=>a (by show x.id∈_;rw[c];exact mem_map.2 ⟨e,h,rfl⟩)
   rw[List.find?_cons_of_neg (by simpa using this)]
   exact zet b h
def xm (L:List yd) (q:zE):Option yI:=(Vm L q.tx).bind λe=>e.tx.outs[q.n.toNat]?
def qf (L:List yd) (q:zE):Bool:=L.any λe=>decide (q∈zZ e.tx)
theorem Jm {L:List yd} {q:zE}:qf L q=true↔∃e∈L,q∈zZ e.tx:=by simp[qf]
def qP (S:List zr) (L:List yd) (q:zE):Option yI:=if xJ S q=true then some (yl S q) else xm L q
def J2 (S:List zr) (L:List yd) (t:TxD):Int:=
 if(zZ t).any (qf L)=true then 14 else if(zZ t).all (λq=>(qP S L q).isSome)=true then 0 else 15
def xO (S:List zr) (L:List yd) (t:TxD):List yI:=(zZ t).map λq=>(qP S L q).getD y6
def xC (L:List yd) (t:TxD):List zd:=((zZ t).filter λq=>(xm L q).isSome).map (·.tx)
def qQ (t:TxD):Int:=6+37*(t.ins.length:Int)+40*(t.outs.length:Int)+(t.ins.map λx=>(x.key.length:Int)).sum
def jJ (n:Int):Int:=(max n 0*100+999) / 1000
noncomputable def qO (S:List zr) (I:List zd) (L:List yd) (t:TxD):Int:=
 if idH t∈xt L then 10 else if idH t∈I then 19 else
 if J2 S L t≠0 then J2 S L t else if vB t (xO S L t)≠0 then vB t (xO S L t) else
 if Ja t (xO S L t)<jJ (qQ t) then 17 else if 6≤(upS (gOf L) (xC L t)).length then 16 else 0
theorem zeV {S:List zr} {I:List zd} {L:List yd} {t:TxD} (h:qO S I L t=0):
  idH t∉xt L∧idH t∉I∧J2 S L t=0∧vB t (xO S L t)=0∧jJ (qQ t)≤Ja t (xO S L t)∧(upS (gOf L) (xC L t)).length<6:=by
 unfold qO at h
 split at h; · cases h
 rename_i h1
 split at h; · cases h
 rename_i h2
 split at h
 ·rename_i h3;exact absurd h h3
 rename_i h3
 split at h
 ·rename_i h4;exact absurd h h4
 rename_i h4
 split at h; · cases h
 rename_i h5
 split at h; · cases h
 rename_i h6
 exact⟨h1,h2,by omega,by omega,by omega,by omega⟩
theorem zjP {S:List zr} {I:List zd} {L:List yd} {t:TxD} (a:idH t∉xt L) (b:idH t∉I) (c:J2 S L t=0) (d:vB t (xO S L t)=0) (e:jJ (qQ t)≤Ja t (xO S L t)) (f:(upS (gOf L) (xC L t)).length<6):qO S I L t=0:=by
 unfold qO
 rw[if_neg a,if_neg b,if_neg (by simp[c]),if_neg (by simp[d]),if_neg (by omega),if_neg (by omega)]
theorem zfg {S:List zr} {L:List yd} {t:TxD}:J2 S L t=0↔(∀q∈zZ t,qf L q=false)∧∀q∈zZ t,(qP S L q).isSome=true:=by
 unfold J2
 by_cases h1:(zZ t).any (qf L)=true
 ·rw[if_pos h1]
  simp only[any_eq_true] at h1
  obtain⟨q,b,a⟩:=h1
  constructor
  ·intro h;cases h
  ·rintro⟨h,-⟩;rw[h q b] at a;cases a
 ·rw[if_neg h1]
  simp only[any_eq_true,not_exists,not_and,Bool.not_eq_true] at h1
  by_cases h2:(zZ t).all (λq=>(qP S L q).isSome)=true
  ·rw[if_pos h2]
   simp only[all_eq_true] at h2
   exact⟨λ_=>⟨h1,h2⟩,λ_=>rfl⟩
  ·rw[if_neg h2]
   simp only[all_eq_true] at h2
   constructor
   ·intro h;cases h
   ·intro h;exact absurd h.2 h2
def mkE (S:List zr) (L:List yd) (t:TxD) (now:Int):yd:=⟨idH t,t,Ja t (xO S L t),qQ t,now,dedup (xC L t)⟩
def xj (L:List yd) (gone:List zd):List yd:=L.filter λe=>decide (e.id∉gone)
theorem Zq {L:List yd} {gone:List zd} {e:yd}:e∈xj L gone↔e∈L∧e.id∉gone:=by simp[xj]
theorem XN (L:List yd) (gone:List zd):xt (xj L gone)=(xt L).filter λy=>decide (y∉gone):=by
 unfold xt xj
 rw[filter_map]
 rfl
theorem zhL (L:List yd) (gone:List zd):(xj L gone).length≤L.length:=length_filter_le _ _
theorem XT (L:List yd):xj L []=L:=by unfold xj;rw[filter_eq_self];simp
theorem zf4 (L:List yd) (e:yd) (gone:List zd):xj (L++[e]) gone=if e.id∈gone then xj L gone else xj L gone++[e]:=by
 unfold xj
 rw[filter_append]
 by_cases h:e.id∈gone
 ·simp[h]
 ·simp[h]
theorem zcM:∀(L:List yd) (gone:List zd) (x:zd),Vm (xj L gone) x=if x∈gone then none else Vm L x
 |[],gone,x=>by simp[Vm,xj]
 |e::r,gone,x=>by
  have ih:=zcM r gone x
  unfold Vm xj at*
  by_cases h:e.id∈gone
  ·rw[List.filter_cons_of_neg (by simpa using h),ih]
   by_cases hx:x∈gone
   ·rw[if_pos hx,if_pos hx]
   ·rw[if_neg hx,if_neg hx,List.find?_cons_of_neg (by simp;rintro rfl;exact hx h)]
  ·rw[List.filter_cons_of_pos (by simpa using h)]
   by_cases hx:e.id=x
   ·rw[List.find?_cons_of_pos (by simpa using hx),List.find?_cons_of_pos (by simpa using hx),if_neg (by rw[←hx];exact h)]
   ·rw[List.find?_cons_of_neg (by simpa using hx),List.find?_cons_of_neg (by simpa using hx),ih]
theorem zfq {L:List yd} {gone:List zd} {q:zE} (h:qf (xj L gone) q=true):qf L q=true:=by
 obtain⟨e,a,b⟩:=Jm.1 h
 exact Jm.2 ⟨e,(Zq.1 a).1,b⟩
theorem zbA {L:List yd} {q:zE} {o:yI} (h:xm L q=some o):∃e∈L,e.id=q.tx∧e.tx.outs[q.n.toNat]? =some o:=by
 unfold xm at h
 cases he:Vm L q.tx with
 |none=>rw[he] at h;cases h
 |some e=>
  rw[he] at h
  obtain⟨a,b⟩:=zhN he
  exact⟨e,a,b,h⟩
theorem zeZ {L:List yd} {t:TxD} {x:zd}:x∈xC L t↔∃q∈zZ t,(xm L q).isSome=true∧q.tx=x:=by
 unfold xC
 simp only[mem_map,mem_filter]
 exact⟨λ⟨q,⟨a,b⟩,c⟩=>⟨q,a,b,c⟩,λ⟨q,a,b,c⟩=>⟨q,⟨a,b⟩,c⟩⟩
theorem Yu {L:List yd} {t:TxD} {x:zd} (h:x∈xC L t):x∈xt L:=by
 obtain⟨q,-,c,rfl⟩:=zeZ.1 h
 obtain⟨o,b⟩:=Option.isSome_iff_exists.1 c
 obtain⟨e,a,hi,-⟩:=zbA b
 rw[←hi]
 exact mem_map.2 ⟨e,a,rfl⟩
theorem zfb (L:List yd) (t:TxD):(xC L t).length≤t.ins.length:=by
 unfold xC
 rw[length_map]
 exact le_trans (length_filter_le _ _) (by simp[zZ])
theorem zbz {L:List yd} {gone:List zd} {t:TxD} (a:∀p∈xC L t,p∉gone):∀q∈zZ t,xm (xj L gone) q=xm L q:=by
 intro q b
 unfold xm
 rw[zcM]
 by_cases h:q.tx∈gone
 ·rw[if_pos h]
  cases hf:xm L q with
  |none=>unfold xm at hf;rw[hf];rfl
  |some o=>exact absurd h (a _ (zeZ.2 ⟨q,b,by rw[hf];rfl,rfl⟩))
 ·rw[if_neg h]
section
variable {S:List zr} {I:List zd} {L:List yd} {gone:List zd} {t:TxD}
theorem zbT (a:∀p∈xC L t,p∉gone):∀q∈zZ t,qP S (xj L gone) q=qP S L q:=λq b=>by
 unfold qP
 rw[zbz a q b]
theorem QS (a:∀p∈xC L t,p∉gone):xO S (xj L gone) t=xO S L t:=
 map_congr_left λq b=>by rw[zbT a q b]
theorem zc6 (a:∀p∈xC L t,p∉gone):xC (xj L gone) t=xC L t:=by
 unfold xC
 rw[List.filter_congr λq b=>by rw[zbz a q b]]
def Shut (L:List yd) (gone:List zd):Prop:=∀e∈L,e.id∉gone→∀p∈e.ps,p∉gone
theorem zeq (h:Shut L gone):ZU (gOf L) gone=gOf (xj L gone):=by
 unfold ZU gOf xj
 rw[filter_map,map_map]
 refine map_congr_left λe c=>?_
 obtain⟨a,b⟩:=Zq.1 (show e∈xj L gone from c)
 show(⟨e.id,e.ps.filter λp=>decide (p∉gone)⟩:yX)=⟨e.id,e.ps⟩
 rw[filter_eq_self.2 λp d=>by simpa using h e a b p d]
theorem zdj (ok:GOk (gOf L)) (h:Shut L gone) (l:List zd):(upS (gOf (xj L gone)) l).length≤(upS (gOf L) l).length:=by
 rw[←zeq h]
 have b:=zdw ok gone
 refine qp (b.nd.sublist (jQ l)) λx e=>?_
 obtain⟨a,c,d⟩:=zdI.1 e
 exact zdI.2 ⟨a,c,zkI ok d⟩
theorem zbS (ok:GOk (gOf L)) (l:Shut L gone) (a:∀p∈xC L t,p∉gone) (h:qO S I L t=0):qO S I (xj L gone) t=0:=by
 obtain⟨c,d,f,g,i,m⟩:=zeV h
 obtain⟨j,k⟩:=zfg.1 f
 refine zjP (λe=>c ?_) d (zfg.2 ⟨λq b=>?_,λq b=>by rw[zbT a q b];exact k q b⟩) (by rw[QS a];exact g) (by rw[QS a];exact i) (by rw[zc6 a];have:=zdj ok l (xC L t);omega)
 ·rw[XN] at e
  exact(mem_filter.1 e).1
 ·cases hc:qf (xj L gone) q with
  |false=>rfl
  |true=>exact absurd (j q b) (by simp[zfq hc])
theorem ze0 (a:∀p∈xC L t,p∉gone) (now:Int):mkE S (xj L gone) t now=mkE S L t now:=by
 unfold mkE
 rw[QS a,zc6 a]
end
inductive vS (S:List zr) (I:List zd):List yd→Prop
 |nil:vS S I []
 |snoc {A:List yd} {e:yd}:vS S I A→yC e.tx=0→qO S I A e.tx=0→e=mkE S A e.tx e.added→vS S I (A++[e])
section
variable {S:List zr} {I:List zd} {L:List yd}
theorem zdJ {S:List zr} {A:List yd} {e:yd} (h:e=mkE S A e.tx e.added):e.id=idH e.tx∧e.ps=dedup (xC A e.tx)∧e.fee=Ja e.tx (xO S A e.tx)∧e.size=qQ e.tx:=
 ⟨congrArg yd.id h,congrArg yd.ps h,congrArg yd.fee h,congrArg yd.size h⟩
theorem vS.gok (h:vS S I L):GOk (gOf L):=by
 induction h with
 |nil=>exact⟨by simp[gOf,ids],by simp[gOf],λA n B e=>by simp[gOf] at e⟩
 |@snoc A e hA hc hl he ih=>
  obtain⟨a,b,-⟩:=zdJ he
  have:gOf (A++[e])=Qj (gOf A) e.id (xC A e.tx):=by rw[zeB,b];rfl
  rw[this]
  exact zgM ih (by rw[vm,a];exact(zeV hl).1) (λp c=>by rw[vm];exact Yu c)
theorem vS.ent (h:vS S I L):∀e∈L,yC e.tx=0∧e.id=idH e.tx∧e.id∉I∧e.size=qQ e.tx∧jJ (qQ e.tx)≤e.fee:=by
 induction h with
 |nil=>simp
 |@snoc A e hA hc hl he ih=>
  intro x a
  rcases mem_append.1 a with a|a
  ·exact ih x a
  ·obtain rfl:=mem_singleton.1 a
   obtain⟨b,i,c,d⟩:=zdJ he
   obtain⟨j,f,k,l,g,m⟩:=zeV hl
   exact⟨hc,b,by rw[b];exact f,d,by rw[c];exact g⟩
theorem vS.apart (h:vS S I L):L.Pairwise λa b=>∀q∈zZ a.tx,q∉zZ b.tx:=by
 induction h with
 |nil=>exact List.Pairwise.nil
 |@snoc A e hA hc hl he ih=>
  refine List.pairwise_append.2 ⟨ih,by simp,λa d b f q g c=>?_⟩
  obtain rfl:=mem_singleton.1 f
  have:=(zfg.1 (zeV hl).2.2.1).1 q c
  rw[Jm.2 ⟨a,d,g⟩] at this
  cases this
theorem vS.drop {gone:List zd} (h:vS S I L) (c:Shut L gone):vS S I (xj L gone):=by
 induction h with
 |nil=>exact .nil
 |@snoc A e hA hc hl he ih=>
  have a:Shut A gone:=λx f=>c x (by simp[f])
  rw[zf4]
  by_cases hg:e.id∈gone
  ·rw[if_pos hg]
   exact ih a
  ·rw[if_neg hg]
   obtain⟨g,d,-⟩:=zdJ he
   have b:∀p∈xC A e.tx,p∉gone:=λp b=>c e (by simp) hg p (by rw[d];exact Jq.2 b)
   exact .snoc (ih a) hc (zbS hA.gok a b hl) (by rw[ze0 b];exact he)
theorem zcL (ok:GOk (gOf L)) (l:List zd):Shut L (vk (gOf L) l):=λe d h p i g=>by
 obtain⟨a,f,j⟩:=Yr.1 g
 have b:e.id∈ids (gOf L):=by rw[vm];exact mem_map.2 ⟨e,d,rfl⟩
 have c:p∈par (gOf L) e.id:=by
  have:=JG ok (n:=⟨e.id,e.ps⟩) (mem_map.2 ⟨e,d,rfl⟩)
  rw[this]
  exact i
 exact h (Yr.2 ⟨a,f,.step b c j⟩)
theorem zf3 {x:zd} {ps:List zd} (f:x∉upS (gOf L) ps):∀p∈ps,p∉vk (gOf L) [x]:=λp d c=>by
 obtain⟨a,b,e⟩:=Yr.1 c
 obtain rfl:=mem_singleton.1 b
 exact f (zdI.2 ⟨p,d,e⟩)
end
def QG (a b:Int×Int):Int:=if a.1*max b.2 1<b.1*max a.2 1 then -1 else if a.1*max b.2 1=b.1*max a.2 1 then 0 else 1
def Zc (l:List (Int×Int)):Nat→Option Nat
 |0=>none
 |n+1=>match Zc l n with
  |none=>some n
  |some k=>if QG (l[n]?.getD (0,0)) (l[k]?.getD (0,0))<0 then some n else some k
theorem zaF (l:List (Int×Int)):∀(n k:Nat),Zc l n=some k→k<n
 |0,k,h=>by simp[Zc] at h
 |n+1,k,h=>by
  unfold Zc at h
  cases hw:Zc l n with
  |none=>rw[hw] at h;simp at h;omega
  |some j=>
   have:=zaF l n j hw
   rw[hw] at h
   simp only at h
   split at h<;>(simp at h;omega)
def wgt (e:yd):Int×Int:=(e.fee,e.size)
noncomputable def Y0 (L:List yd) (ps:List zd):List yd:=L.filter λe=>decide (e.id∉upS (gOf L) ps)
noncomputable def YX (L:List yd) (ps:List zd):Option yd:=(Zc ((Y0 L ps).map wgt) (Y0 L ps).length).bind λk=>(Y0 L ps)[k]?
noncomputable def JO (L:List yd) (w:Int×Int) (ps:List zd):Int:=
 if L.length<32 then 0 else match YX L ps with
  |none=>18
  |some e=>if QG (wgt e) w<0 then 0 else 18
noncomputable def vU (L:List yd) (w:Int×Int) (ps:List zd):List zd:=
 if L.length<32 then[] else match YX L ps with
  |none=>[]
  |some e=>if QG (wgt e) w<0 then vk (gOf L) [e.id] else[]
theorem zcn {L:List yd} {ps:List zd} {e:yd} (h:YX L ps=some e):e∈L∧e.id∉upS (gOf L) ps:=by
 unfold YX at h
 obtain⟨k,-,a⟩:=Option.bind_eq_some_iff.1 h
 have:=mem_of_getElem? a
 simpa[Y0] using this
theorem zda {L:List yd} (ok:GOk (gOf L)) (w:Int×Int) (ps:List zd):Shut L (vU L w ps)∧∀p∈ps,p∉vU L w ps:=by
 unfold vU
 split
 ·exact⟨λe _ _ p _=>by simp,λp _=>by simp⟩
 ·cases hw:YX L ps with
  |none=>exact⟨λe _ _ p _=>by simp,λp _=>by simp⟩
  |some e=>
   simp only
   split
   ·exact⟨zcL ok _,zf3 (zcn hw).2⟩
   ·exact⟨λe _ _ p _=>by simp,λp _=>by simp⟩
theorem zkb {L:List yd} (ok:GOk (gOf L)) {w:Int×Int} {ps:List zd} (h:JO L w ps=0) (d:L.length≤32):(xj L (vU L w ps)).length<32:=by
 unfold JO at h
 unfold vU
 split at h
 ·rename_i h1
  rw[if_pos h1,XT]
  exact h1
 ·rename_i h1
  rw[if_neg h1]
  cases hw:YX L ps with
  |none=>rw[hw] at h;cases h
  |some e=>
   rw[hw] at h
   simp only at h⊢
   split at h
   ·rename_i h2
    rw[if_pos h2]
    obtain⟨a,f⟩:=zcn hw
    have c:e.id∈ids (gOf L):=by rw[vm];exact mem_map.2 ⟨e,a,rfl⟩
    have b:e.id∈vk (gOf L) [e.id]:=Yr.2 ⟨e.id,by simp,.refl c⟩
    have:(xj L (vk (gOf L) [e.id])).length<L.length:=by
     unfold xj
     refine List.length_filter_lt_length_iff_exists.2 ⟨e,a,by simpa using b⟩
    omega
   ·cases h
noncomputable def Zh (S:List zr) (I:List zd) (L:List yd) (t:TxD):Int:=
 if yC t≠0 then yC t else if qO S I L t≠0 then qO S I L t else JO L (Ja t (xO S L t),qQ t) (xC L t)
noncomputable def Qy (S:List zr) (I:List zd) (L:List yd) (t:TxD):List zd:=if Zh S I L t=0 then vU L (Ja t (xO S L t),qQ t) (xC L t) else[]
noncomputable def Zi (S:List zr) (I:List zd) (L:List yd) (t:TxD) (now:Int):List yd:=if Zh S I L t=0 then xj L (Qy S I L t)++[mkE S L t now] else L
theorem znu {S:List zr} {I:List zd} {L:List yd} {t:TxD} (h:Zh S I L t=0):yC t=0∧qO S I L t=0∧JO L (Ja t (xO S L t),qQ t) (xC L t)=0:=by
 unfold Zh at h
 split at h
 ·rename_i h1;exact absurd h h1
 rename_i h1
 split at h
 ·rename_i h2;exact absurd h h2
 rename_i h2
 exact⟨by omega,by omega,h⟩
section
variable {S:List zr} {I:List zd} {L:List yd}
theorem vS.acc (h:vS S I L) (t:TxD) (now:Int):vS S I (Zi S I L t now):=by
 unfold Zi
 split
 ·rename_i h0
  obtain⟨c,d,f⟩:=znu h0
  have e:Qy S I L t=vU L (Ja t (xO S L t),qQ t) (xC L t):=by unfold Qy;rw[if_pos h0]
  obtain⟨a,b⟩:=zda h.gok (Ja t (xO S L t),qQ t) (xC L t)
  rw[e]
  refine .snoc (h.drop a) c (zbS h.gok a b d) ?_
  show mkE S L t now=mkE S (xj L _) t now
  rw[ze0 b]
 ·exact h
theorem za3 (h:vS S I L) (a:L.length≤32) (t:TxD) (now:Int):(Zi S I L t now).length≤32:=by
 unfold Zi
 split
 ·rename_i h0
  obtain⟨d,e,b⟩:=znu h0
  have c:Qy S I L t=vU L (Ja t (xO S L t),qQ t) (xC L t):=by unfold Qy;rw[if_pos h0]
  have:=zkb h.gok b a
  rw[c,List.length_append,List.length_singleton]
  omega
 ·exact a
end
noncomputable def Zx (S:List zr) (I:List zd) (L:List yd) (l:List TxD) (now:Int):List yd:=l.foldl (λA t=>Zi S I A t now) L
noncomputable def Xg (S:List zr) (I:List zd) (L:List yd) (l:List yd):List yd:=l.foldl (λA e=>Zi S I A e.tx e.added) L
noncomputable def Ql (S:List zr) (I:List zd) (L:List yd) (first:List TxD) (now:Int):List yd:=Xg S I (Zx S I [] first now) L
noncomputable def zlp (S:List zr) (I:List zd) (L:List yd) (first:List TxD) (now:Int):List zd:=(xt L).filter λx=>decide (x∉xt (Ql S I L first now))
section
variable {S:List zr} {I:List zd} {L:List yd}
theorem vS.first:∀(l:List TxD) {L:List yd} (now:Int),vS S I L→L.length≤32→vS S I (Zx S I L l now)∧(Zx S I L l now).length≤32
 |[],L,now,h,hl=>⟨h,hl⟩
 |t::l,L,now,h,hl=>vS.first l now (h.acc t now) (za3 h hl t now)
theorem vS.again:∀(l:List yd) {L:List yd},vS S I L→L.length≤32→vS S I (Xg S I L l)∧(Xg S I L l).length≤32
 |[],L,h,hl=>⟨h,hl⟩
 |t::l,L,h,hl=>vS.again l (h.acc t.tx t.added) (za3 h hl t.tx t.added)
theorem vS.ren (L:List yd) (first:List TxD) (now:Int):vS S I (Ql S I L first now)∧(Ql S I L first now).length≤32:=by
 obtain⟨a,b⟩:=vS.first (S:=S) (I:=I) first now .nil (by simp)
 exact vS.again L a b
end
theorem Qf:prog.underlying 133=some (.map 41 129):=by kernel_rfl
theorem V0:prog.underlying 134=some (.map 95 41):=by kernel_rfl
section
variable {P:Program} {w w':World} {o:Oper} {ev:Operand→Value} {t:TypeId} {x:Operand} {xv v:Value} {f:Nat}
theorem vY (a:o.op=.field t x f) (c:ev x=xv) (b:(Instr.field t xv f).run P w=.ok v w'):(execOp ev o).run P w=.ok (.value v) w':=by
 simp only[execOp,a,c,Sem.run_bind,b,Result.andThen_ok,Sem.run_pure]
end
theorem zjA (v:Int) (b e:Option Addr) (d c i h:Nat) (f s a:Int) (w:World):(Instr.field 129 (.agg #[.int .u32 v,.slice b d c,.slice e i h,.int .u64 f,.int .i64 s,.int .u64 a]) 0).run prog w=.ok (.agg #[.int .u32 v,.slice b d c,.slice e i h]) w:=by kernel_rfl
theorem zl5 (v:Int) (b e:Option Addr) (d c i h:Nat) (f s a:Int) (w:World):(Instr.field 129 (.agg #[.int .u32 v,.slice b d c,.slice e i h,.int .u64 f,.int .i64 s,.int .u64 a]) 1).run prog w=.ok (.agg #[.int .u64 f,.int .i64 s]) w:=by kernel_rfl
theorem znM (v:Int) (b e:Option Addr) (d c i h:Nat) (f s a:Int) (w:World):(Instr.field 129 (.agg #[.int .u32 v,.slice b d c,.slice e i h,.int .u64 f,.int .i64 s,.int .u64 a]) 2).run prog w=.ok (.int .u64 a) w:=by kernel_rfl
theorem znN (v:Int) (d a:Option Addr) (h e c b:Nat) (w:World):(Instr.field 34 (.agg #[.int .u32 v,.slice d h e,.slice a c b]) 2).run prog w=.ok (.slice a c b) w:=by kernel_rfl
def QC (cs:List Value):Value:=.agg cs.toArray
def zmE (tcs:List Value) (e:yd):List Value:=tcs++[.int .u64 e.fee,.int .i64 e.size,.int .u64 e.added]
def vy:List Value:=[.int .u32 0,.slice none 0 0,.slice none 0 0,.int .u64 0,.int .i64 0,.int .u64 0]
theorem V6 (w:World):(zeroValue 129).run prog w=.ok (QC vy) w:=by kernel_rfl
theorem zgX:∃d,prog.underlying 129=some d∧d.isRow=true:=jf (by kernel_rfl)
theorem qj:(prog.info? 129).map (·.size)=some 6:=by kernel_rfl
def zhq (w:World) (e:yd) (cs:List Value):Prop:=∃tcs,cs=zmE tcs e∧TxQ w e.tx tcs
theorem zhq.form {w:World} {e:yd} (h:zhq w e cs):∃a b c d,cs=[.int .u32 e.tx.ver,.slice a e.tx.ins.length b,.slice c e.tx.outs.length d,.int .u64 e.fee,.int .i64 e.size,.int .u64 e.added]:=by
 obtain⟨t,rfl,i⟩:=h
 obtain⟨a,b,c,d,rfl⟩:=i.form
 exact⟨a,b,c,d,rfl⟩
abbrev qJ (w:World) (m:Nat) (M:List (zd×List Value)):Prop:=yD prog 41 y7 QC w m M
abbrev zaI (w:World) (m:Nat) (M:List (zE×zd)):Prop:=yD prog 95 Jb y7 w m M
def poV (p ma ms:Nat) (VG:Nat→Prop):Nat→Prop:=λj=>j=p∨j=ma∨j=ms∨VG j
structure yq (w0 w:World) (p ma ms g:Nat) (VG X:Nat→Prop) (C:zd→List Value) (L:List yd) (N:Nat):Prop where
 obj:w.heap[p]? =some (.cells #[.map (some ma),.map (some ms),.pointer (some ⟨g,0,none⟩)] 137 (0,0))
 gr:GC w0 w g VG (gOf L) N
 am:∃M,qJ w ma M∧∀x cs,(x,cs)∈M↔∃e∈L,e.id=x∧cs=C x
 sm:∃M,zaI w ms M∧∀q x,(q,x)∈M↔∃e∈L,q∈zZ e.tx∧e.id=x
 data:∀e∈L,Kept X w (λw=>zhq w e (C e.id))
 apart:p≠ma∧p≠ms∧ma≠ms∧¬VG p∧¬VG ma∧¬VG ms
 lo3:w0.heap.size≤p∧w0.heap.size≤ma∧w0.heap.size≤ms
 sub:∀j,poV p ma ms VG j→X j
section
variable {w0 w w':World} {p ma ms g N:Nat} {VG X:Nat→Prop} {C:zd→List Value} {L:List yd}
theorem yq.fr (h:yq w0 w p ma ms g VG X C L N):Fr No w0 w:=h.gr.fr
theorem yq.lo (h:yq w0 w p ma ms g VG X C L N):∀j,poV p ma ms VG j→w0.heap.size≤j:=by
 obtain⟨a,b,c⟩:=h.lo3
 rintro j (rfl|rfl|rfl|hj)
 ·exact a
 ·exact b
 ·exact c
 ·exact h.gr.lo j hj
theorem yq.hi (h:yq w0 w p ma ms g VG X C L N):∀j,poV p ma ms VG j→j<w.heap.size:=by
 obtain⟨M,b,-⟩:=h.am
 obtain⟨M',a,-⟩:=h.sm
 rintro j (rfl|rfl|rfl|hj)
 ·exact yF h.obj
 ·exact b.lt
 ·exact a.lt
 ·exact h.gr.hi j hj
theorem yq.frV (h:yq w0 w p ma ms g VG X C L N) {U X':Nat→Prop} (f:Fr U w w') (a:∀j,poV p ma ms VG j→¬U j) (i:∀j,U j→w0.heap.size≤j) (c:∀j,U j→X j) (l:∀j,j<w.heap.size→X' j→X j) (r:∀j,poV p ma ms VG j→X' j):yq w0 w' p ma ms g VG X' C L N:=by
 obtain⟨M,k,q⟩:=h.am
 obtain⟨M',b,d⟩:=h.sm
 exact {h with
  obj:=f.obj h.obj (a _ (.inl rfl))
  gr:=h.gr.frV f (λj n=>a j (.inr (.inr (.inr n)))) i
  am:=⟨M,k.keep f (a _ (.inr (.inl rfl))),q⟩
  sm:=⟨M',b.keep f (a _ (.inr (.inr (.inl rfl)))),d⟩
  data:=λe m=>(h.data e m).step (f.mono c) l
  sub:=r}
theorem yq.fr0 (h:yq w0 w p ma ms g VG X C L N) (f:Fr No w w'):yq w0 w' p ma ms g VG X C L N:=
 h.frV f (λ_ _=>id) (λ_ h=>h.elim) (λ_ h=>h.elim) (λ_ _ h=>h) h.sub
theorem yq.mono (h:yq w0 w p ma ms g VG X C L N) {N':Nat} (a:N≤N'):yq w0 w p ma ms g VG X C L N':={h with gr:=h.gr.mono a}
theorem yq.cells (h:yq w0 w p ma ms g VG X C L N):w.cell? ⟨p,0,none⟩=some (.map (some ma))∧w.cell? ⟨p,1,none⟩=some (.map (some ms))∧w.cell? ⟨p,2,none⟩=some (.pointer (some ⟨g,0,none⟩)):=by
 have:=zq h.obj
 exact⟨by simpa using this 0 _ rfl,by simpa using this 1 _ rfl,by simpa using this 2 _ rfl⟩
theorem yq.ids (h:yq w0 w p ma ms g VG X C L N):∀x∈xt L,zY x:=λx a=>h.gr.okId x (by rw[vm];exact a)
theorem yq.nd (h:yq w0 w p ma ms g VG X C L N):(xt L).Nodup:=by rw[←vm];exact h.gr.gok.nd
theorem yq.len (h:yq w0 w p ma ms g VG X C L N):L.length≤N:=by have:=h.gr.len;simpa[gOf] using this
def YF (C:zd→List Value) (L:List yd) (x:zd):List Value:=if x∈xt L then C x else vy
theorem zbU {x:zd} (k:zY x) {M:List (zd×List Value)} (i:qJ w ma M) (j:∀x cs,(x,cs)∈M↔∃e∈L,e.id=x∧cs=C x) (c:Bool):
  (Instr.lookup 133 (.map (some ma)) (.agg (zf x).toArray) c).run prog w=.ok (if c then .tuple #[.agg (YF C L x).toArray,.bool (decide (x∈xt L))] else .agg (YF C L x).toArray) w:=by
 have h:=i.look xR.keyed Qf (λ_ _=>y3) V6 (yu k) c (r:=if x∈xt L then some (C x) else none) (λv=>by
  rw[j]
  by_cases h:x∈xt L
  ·rw[if_pos h]
   obtain⟨e,b,hi⟩:=mem_map.1 h
   exact⟨λa=>⟨e,b,hi,(Option.some.inj a).symm⟩,λ⟨_,_,_,d⟩=>by rw[d]⟩
  ·rw[if_neg h]
   exact⟨λa=>(by cases a),λ⟨e,b,hi,_⟩=>absurd (mem_map.2 ⟨e,b,hi⟩) h⟩)
 unfold y7 at h
 rw[h]
 unfold YF
 by_cases hh:x∈xt L<;>simp[hh,QC]
theorem Yq {x:zd} (d:zY x) {M:List (zd×List Value)} (a:qJ w ma M) (c:∀x cs,(x,cs)∈M↔∃e∈L,e.id=x∧cs=C x) (b:YF C L x=cs):
  (Instr.lookup 133 (.map (some ma)) (.agg (zf x).toArray) false).run prog w=.ok (.agg cs.toArray) w:=by
 have:=zbU d a c false
 rw[b] at this
 simpa using this
def ziz (L:List yd) (q:zE):zd:=((L.find? λe=>decide (q∈zZ e.tx)).map (·.id)).getD yR
theorem zlC {L:List yd} (a:∀x∈xt L,zY x) (q:zE):zY (ziz L q):=by
 unfold ziz
 cases hf:L.find? λe=>decide (q∈zZ e.tx) with
 |none=>exact xM
 |some e=>exact a _ (mem_map.2 ⟨e,List.mem_of_find?_eq_some hf,rfl⟩)
theorem zla {q:zE} (m:q.ok) {M:List (zE×zd)} (k:zaI w ms M) (l:∀q x,(q,x)∈M↔∃e∈L,q∈zZ e.tx∧e.id=x):
  (Instr.lookup 134 (.map (some ms)) (.agg (zn q).toArray) true).run prog w=.ok (.tuple #[.agg (zf (ziz L q)).toArray,.bool (qf L q)]) w:=by
 cases hf:L.find? λe=>decide (q∈zZ e.tx) with
 |some e=>
  have c:=List.mem_of_find?_eq_some hf
  have a:q∈zZ e.tx:=by simpa using List.find?_some hf
  have d:(q,e.id)∈M:=(l q e.id).2 ⟨e,c,a,rfl⟩
  have h:=k.look JA.keyed V0 (λ_ _=>vw) yS (qz m) true (r:=some e.id) (λv=>⟨λi=>by rw[←Option.some.inj i];exact d,λj=>by rw[k.uniq d j]⟩)
  have n:qf L q=true:=Jm.2 ⟨e,c,a⟩
  unfold Jb at h
  rw[h,n]
  unfold ziz
  rw[hf]
  rfl
 |none=>
  have b:qf L q=false:=by
   cases hc:qf L q with
   |false=>rfl
   |true=>
    obtain⟨e,c,a⟩:=Jm.1 hc
    have:=List.find?_eq_none.1 hf e c
    simp[a] at this
  have h:=k.look JA.keyed V0 (λ_ _=>vw) yS (qz m) true (r:=none) (λv=>⟨λi=>(by cases i),λj=>by
   obtain⟨e,c,a,_⟩:=(l q v).1 j
   rw[Jm.2 ⟨e,c,a⟩] at b
   cases b⟩)
  unfold Jb at h
  rw[h,b]
  unfold ziz
  rw[hf]
  rfl
end
section
variable {w0 w:World} {p ma ms g N:Nat} {VG X:Nat→Prop} {C:zd→List Value} {L:List yd}
theorem JX:∀v∈vy,v.oneCell'=true:=by
 intro v a
 simp only[vy,mem_cons,not_mem_nil,or_false] at a
 rcases a with rfl|rfl|rfl|rfl|rfl|rfl<;>rfl
theorem zhq.one {w:World} {e:yd} (h:zhq w e cs):cs.length=6∧∀v∈cs,v.oneCell'=true:=by
 obtain⟨b,c,d,f,rfl⟩:=h.form
 refine⟨rfl,λv a=>?_⟩
 simp only[mem_cons,not_mem_nil,or_false] at a
 rcases a with rfl|rfl|rfl|rfl|rfl|rfl<;>rfl
theorem zel (h:yq w0 w p ma ms g VG X C L N) (x:zd):(YF C L x).length=6∧∀v∈YF C L x,v.oneCell'=true:=by
 unfold YF
 split
 ·rename_i hx
  obtain⟨e,a,rfl⟩:=mem_map.1 hx
  exact(h.data e a).now.one
 ·exact⟨rfl,JX⟩
theorem zhf (h:yq w0 w p ma ms g VG X C L N) {q:zE} (m:q.ok):Calls prog 75 #[.pointer (some ⟨p,0,none⟩),.agg (zn q).toArray] w λe w'=>e=.returned (.bool (qf L q))∧Fr No w w':=by
 obtain⟨M,k,l⟩:=h.sm
 have c:Fr No w (w.alloc (.cells (zn q).toArray 95)):=(frN w).alloc _
 have i:=(h.fr0 c).cells.2.1
 have d:=J (k.keep c id)
 have f:=J (zy w (zn q) 95)
 have u:=J (z6 m)
 have B:=yS
 have s:=J (λw' (h':zaI w' ms M)=>zla (w:=w') m h' l)
 have o:=J c
 have j:=J (zx (zlC h.ids q))
 generalize qf L q=b at*
 generalize ziz L q=y at*
 clear h k c l
 go_enter Tryz.func75,Tryz.ntmps75
 go_wp2_with fail
 generalize v:w.heap.size=n at*
 generalize w.alloc (.cells (zn q).toArray 95)=a at*
 refine wrLx [ff,ff,ff,ff,ff,ff,ff,ff,ff,tt,tt,ff] (λw'=>w'.cell? ⟨p,1,none⟩=some (.map (some ms))∧w'.rangeAt n 0 (zn q)∧zaI w' ms M) ?_ (λK hK=>?_)
 ·exact⟨(frN _).drew.cell i id,za f.o (frN _).drew id,d.o.keep (frN _).drew id⟩
 repeat((first|(refine zl rfl ?_;constructor;constructor;(focus(first|exact zof rfl (λw h=>h.2.1) u.o|exact λw' h=>zM (t:=134) rfl rfl rfl (s.o w' h.2.2)|(rintro w' ⟨x,z,A⟩;exact goS))))|(refine zm rfl ?_));try simp only[Act.put,pA,pB,pC])
 (refine zF rfl (λK' hK'=>?_))
 refine yg (yw rfl (yS _)) ?_
 refine nXt hK' ?_ λhS=>?_
 ·exact⟨(((frN a).drew).alloc _).cell i id,za f.o (((frN a).drew).alloc _) id,d.o.keep (((frN a).drew).alloc _) id⟩
 try simp only[Act.put,pA,pB,pC]
 (refine zF rfl (λK' hK'=>?_))
 refine yN (zj (w:=a.drew) (ty:=41) (cs:=zf y) rfl rfl rfl (by rw[j.o];rfl) (by rw[j.o];exact yt) zU) ?_
 refine nXt hK' ?_ λhS=>?_
 ·exact⟨(((frN a).drew).alloc _).cell i id,za f.o (((frN a).drew).alloc _) id,d.o.keep (((frN a).drew).alloc _) id⟩
 try simp only[Act.put]
 repeat((first|(refine zl rfl ?_;constructor;constructor;(focus(first|(rintro w' -;exact goS))))|(refine zm rfl ?_));try simp only[Act.put,pA,pB,pC])
 refine zL (hK.out _ _ ?_)
 have r:=J ((o.o.drew.alloc (.cells (zf y).toArray 41)))
 go_wp2_with fail
 go_ret
 exact⟨rfl,r.o⟩
theorem zeE (h:yq w0 w p ma ms g VG X C L N) {x:zd} (q:zY x):Calls prog 99 #[.pointer (some ⟨p,0,none⟩),.agg (zf x).toArray] w λe w'=>e=.returned (.bool (decide (x∈xt L)))∧Fr No w w':=by
 obtain⟨M,m,o⟩:=h.am
 have c:Fr No w (w.alloc (.cells (zf x).toArray 41)):=(frN w).alloc _
 have j:=(h.fr0 c).cells.1
 have f:=J (m.keep c id)
 have i:=J (zy w (zf x) 41)
 have z:=J (zx q)
 have l:=J (λw' (h':qJ w' ma M)=>zbU (w:=w') q h' o true)
 have r:=J c
 obtain⟨y,d⟩:∃y,YF C L x=y∧y.length=6∧∀v∈y,v.oneCell'=true:=⟨_,rfl,zel h x⟩
 have k:=J d.2.1
 have u:=J d.2.2
 rw[d.1] at l
 generalize decide (x∈xt L)=b at*
 clear h m c o d
 go_enter Tryz.func99,Tryz.ntmps99
 go_wp2_with fail
 generalize A:w.heap.size=n at*
 generalize w.alloc (.cells (zf x).toArray 41)=a at*
 refine wrLx [ff,ff,ff,ff,ff,ff,ff,ff,ff,tt,tt,ff] (λw'=>w'.cell? ⟨p,0,none⟩=some (.map (some ma))∧w'.rangeAt n 0 (zf x)∧qJ w' ma M) ?_ (λK hK=>?_)
 ·exact⟨(frN _).drew.cell j id,za i.o (frN _).drew id,f.o.keep (frN _).drew id⟩
 repeat((first|(refine zl rfl ?_;constructor;constructor;(focus(first|exact zog rfl (λw h=>h.2.1) z.o|exact λw' h=>zM (t:=133) rfl rfl rfl (l.o w' h.2.2)|(rintro w' ⟨B,D,E⟩;exact goS))))|(refine zm rfl ?_));try simp only[Act.put,pA,pB,pC])
 (refine zF rfl (λK' hK'=>?_))
 refine yg (yw rfl (V6 _)) ?_
 refine nXt hK' ?_ λhS=>?_
 ·exact⟨(((frN a).drew).alloc _).cell j id,za i.o (((frN a).drew).alloc _) id,f.o.keep (((frN a).drew).alloc _) id⟩
 try simp only[Act.put,pA,pB,pC]
 (refine zF rfl (λK' hK'=>?_))
 refine yN (zj (w:=a.drew) (ty:=129) (cs:=y) rfl rfl rfl (by rw[k.o];rfl) (by rw[k.o];exact qj) u.o) ?_
 refine nXt hK' ?_ λhS=>?_
 ·exact⟨(((frN a).drew).alloc _).cell j id,za i.o (((frN a).drew).alloc _) id,f.o.keep (((frN a).drew).alloc _) id⟩
 try simp only[Act.put]
 repeat((first|(refine zl rfl ?_;constructor;constructor;(focus(first|(rintro w' -;exact goS))))|(refine zm rfl ?_));try simp only[Act.put,pA,pB,pC])
 refine zL (hK.out _ _ ?_)
 have s:=J ((r.o.drew.alloc (.cells y.toArray 129)))
 go_wp2_with fail
 go_ret
 exact⟨rfl,s.o⟩
def Qp (L:List yd) (x:zd):List yI:=((Vm L x).map (·.tx.outs)).getD []
theorem zf7 (L:List yd) (q:zE):xm L q=(Qp L q.tx)[q.n.toNat]? :=by
 unfold xm Qp
 cases Vm L q.tx with
 |none=>rfl
 |some e=>rfl
theorem Vb (h:n≤maxLen):IntKind.u64.wrap (n:Int)=n:=by
 unfold maxLen at h
 simp[IntKind.wrap,IntKind.signed,IntKind.bits]
 omega
theorem zbX (w:World):xu w (.slice none 0 0) []:=⟨by simp,.inl (.inl ⟨rfl,rfl,rfl⟩)⟩
theorem zhz (h:yq w0 w p ma ms g VG X C L N) (x:zd):∃v i n j b c f s a,YF C L x=[.int .u32 v,.slice i n j,.slice b (Qp L x).length c,.int .u64 f,.int .i64 s,.int .u64 a]∧xu w (.slice b (Qp L x).length c) (Qp L x):=by
 unfold YF
 by_cases hx:x∈xt L
 ·rw[if_pos hx]
  obtain⟨e,k,rfl⟩:=mem_map.1 hx
  have d:Qp L e.id=e.tx.outs:=by unfold Qp;rw[zet h.nd k];rfl
  obtain⟨t,l,i,j,b,c,rfl,-,-,m⟩:=(h.data e k).now
  rw[d,l]
  exact⟨e.tx.ver,i,_,j,b,c,e.fee,e.size,e.added,rfl,m⟩
 ·rw[if_neg hx]
  have d:Qp L x=[]:=by unfold Qp;rw[zhM.2 hx];rfl
  rw[d]
  exact⟨0,none,0,0,none,0,0,0,0,rfl,zbX w⟩
theorem zgR (w:World):(Instr.build 103 #[]).run prog w=.ok (.agg (zJ y6).toArray) w:=by kernel_rfl
theorem zjy (h:yq w0 w p ma ms g VG X C L N) {q:zE} (y:q.ok):Calls prog 127 #[.pointer (some ⟨p,0,none⟩),.agg (zn q).toArray] w λe w'=>e=.returned (.tuple #[.agg (zJ ((xm L q).getD y6)).toArray,.bool (xm L q).isSome])∧Fr No w w':=by
 obtain⟨dH,uH,rH⟩:=Zw
 obtain⟨dO,uO,rO⟩:=YJ
 obtain⟨M,Y,hm⟩:=h.am
 have zo:=y9
 have m:Fr No w ((w.alloc (.cells (zn q).toArray 95)).alloc (.cells (zJ y6).toArray 103)):=((frN w).alloc _).alloc _
 have W:=(h.fr0 m).cells.1
 have T:=J (Y.keep m id)
 have G:=J (za (zy w (zn q) 95) ((frN _).alloc (.cells (zJ y6).toArray 103)) id)
 have j:=J (yJ (w.alloc (.cells (zn q).toArray 95)) (.cells (zJ y6).toArray 103) (n:=w.heap.size+1) (by simp))
 have QL:=J (zx y.1)
 have l:=J y
 have S:=J m
 obtain⟨v,ia,il,ic,oa,oc,f,s,a,Z,Q⟩:=zhz h q.tx
 have V:=J (λw' (h':qJ w' ma M)=>Yq (w:=w') y.1 h' hm Z)
 have U:=J (Q.keep (m.drew))
 have r:=Q.2.len
 have u:=y.2.1
 have I:=y.2.2
 rw[zf7]
 generalize Qp L q.tx=O at*
 clear h Y m hm Z Q
 go_enter Tryz.func127,Tryz.ntmps127
 go_wp2_with fail
 generalize ab:w.heap.size=n at*
 generalize (w.alloc (.cells (zn q).toArray 95)).alloc (.cells (zJ y6).toArray 103)=R at*
 refine wrLx [ff,ff,ff,ff,ff,ff,ff,ff,ff,ff] (λw'=>w'.cell? ⟨p,0,none⟩=some (.map (some ma))∧w'.rangeAt n 0 (zn q)∧qJ w' ma M) ?_ (λK hK=>?_)
 ·exact⟨(frN _).drew.cell W id,za G.o (frN _).drew id,T.o.keep (frN _).drew id⟩
 repeat((first|(refine zl rfl ?_;constructor;constructor;(focus(first|exact xB (ty:=41) rfl (λw h=>(zaT h.2.1 l.o).1) uH rH (by have:=QL.o;unfold zf at this;rw[this];exact yt)|exact λw' h=>zM (t:=133) rfl rfl rfl (V.o w' h.2.2)|exact λw' _=>vY (t:=129) (f:=0) rfl rfl (zjA v ia oa il ic O.length oc f s a w')|exact λw' _=>vY (t:=34) (f:=2) rfl rfl (znN v ia oa il ic O.length oc w')|(rintro w' ⟨s1,s2,s3⟩;exact goS))))|(refine zm rfl ?_));try simp only[Act.put,pA,pB,pC])
 refine zL (hK.out _ _ ?_)
 have H:R.drew.cell? ⟨n,32,none⟩=some (.int .u32 q.n):=by
  have:=(zaT (za G.o (frN R).drew id) l.o).2
  simpa using this
 have z:=J ((frN R).drew.obj j.o id)
 clear W G T V j
 by_cases A:q.n.toNat<O.length
 ·have i1:¬(O.length:Int)≤q.n:=by omega
  obtain⟨o,d⟩:∃o,O[q.n.toNat]? =some o:=⟨_,getElem?_eq_getElem A⟩
  obtain⟨b,off,aa,e,B,-⟩:=U.o.at_ d
  injection e with e1 e2 e3
  subst e1
  subst e3
  have OK:=J (U.o.1 o (mem_of_getElem? d))
  have c:=J (yz OK.o)
  obtain⟨k,hk⟩:∃k:Nat,q.n=(k:Int):=Int.eq_ofNat_of_zero_le u
  have D:=J d
  rw[hk] at i1 A B H I
  simp only[Int.toNat_natCast] at A B
  have i2:(k:Int)<IntKind.u64.wrap (O.length:Int):=by rw[Vb r];omega
  have R1:=J B
  clear B d u hk
  have⟨E,F⟩:=tZ2
  go_wp2_with ((first|((with_reducible refine zt ?_);clear E;with_reducible refine yv 31 ?_;refine zob rfl rfl rfl R1.o c.o ?_)|((with_reducible refine zv ?_);clear F;refine zi rfl (zK (ty:=103) (b:=n+1) (off:=0) (cs:=zJ o) rfl rfl rfl (by rw[c.o];exact zX z.o (Nat.le_of_eq yA.symm)) (by rw[c.o];exact yG) yf) ?_));go_frame)
  refine bodyPost_ret (ym (P:=prog) (fn:=Tryz.f127) rfl _ rfl (yx z.o (by rw[c.o];exact yA)) uO rO (by rw[c.o];exact yG) rfl) rfl ⟨by rw[D.o];rfl,?_⟩
  exact(S.o.drew).trans (zu _ _ _ _) (λi hi e=>by omega)
 ·have i1:(O.length:Int)≤q.n:=by omega
  have x:O[q.n.toNat]? =none:=List.getElem?_eq_none (by omega)
  have D:=J x
  have c:=J (yz Zn)
  clear x A
  have⟨E,F⟩:=tZ2
  go_wp2_with ((first|((with_reducible refine zt ?_);clear E;with_reducible refine yv 26 ?_;refine zg rfl (yk (t:=103) rfl rfl (zgR _)) ?_)|((with_reducible refine zv ?_);clear F;refine zi rfl (zK (ty:=103) (b:=n+1) (off:=0) (cs:=zJ y6) rfl rfl rfl (by rw[c.o];exact zX z.o (Nat.le_of_eq yA.symm)) (by rw[c.o];exact yG) yf) ?_));go_frame)
  refine bodyPost_ret (ym (P:=prog) (fn:=Tryz.f127) rfl _ rfl (yx z.o (by rw[c.o];exact yA)) uO rO (by rw[c.o];exact yG) rfl) rfl ⟨by rw[D.o];rfl,?_⟩
  exact(S.o.drew).trans (zu _ _ _ _) (λi hi e=>by omega)
end
theorem zie {L:List yd} {t:TxD} {q:zE} (h:(zZ t)[n]? =some q):(((zZ t).take (n+1)).filter λq=>(xm L q).isSome).map (·.tx)=(((zZ t).take n).filter λq=>(xm L q).isSome).map (·.tx)++(if(xm L q).isSome=true then[q.tx] else[]):=by
 rw[take_add_one,h]
 by_cases hs:(xm L q).isSome=true
 ·simp[filter_append,hs]
 ·simp[filter_append,hs]
def jb (L:List yd) (t:TxD) (n:Nat):List zd:=(((zZ t).take n).filter λq=>(xm L q).isSome).map (·.tx)
def zb8 (S:List zr) (L:List yd) (t:TxD) (n:Nat):List yI:=((zZ t).take n).map λq=>(qP S L q).getD y6
theorem zj3 (L:List yd) (t:TxD) (n:Nat):(jb L t n).length≤n:=by
 unfold jb
 rw[length_map]
 have a:=length_filter_le (λq=>(xm L q).isSome) ((zZ t).take n)
 have b:((zZ t).take n).length≤n:=by rw[length_take];omega
 omega
theorem zff (S:List zr) (L:List yd) (t:TxD) (h:n≤t.ins.length):(zb8 S L t n).length=n:=by
 unfold zb8
 rw[length_map,length_take,vM]
 omega
def zac (w:World) (S:List zr) (L:List yd) (t:TxD) (e:Ending) (w':World):Prop:=
 ∃ov pv,e=.returned (.tuple #[ov,pv,.int .i64 (J2 S L t)])∧Fr No w w'∧(J2 S L t=0→xu w' ov (xO S L t)∧w'.ownsRow w.heap.size 41 32 pv (xC L t).length ((xC L t).flatMap zf))
theorem zac.bad {w w':World} {S:List zr} {L:List yd} {t:TxD} {c:Int} (h:J2 S L t=c) (d:c≠0) (f:Fr No w w') (a b:Value):zac w S L t (.returned (.tuple #[a,b,.int .i64 c])) w':=
 ⟨a,b,by rw[h],f,λe=>absurd (h.symm.trans e) d⟩
theorem Yn {L:List yd} (h:∀e∈L,∀x∈e.tx.outs,x.ok) (q:zE):((xm L q).getD y6).ok:=by
 cases hf:xm L q with
 |none=>exact Zn
 |some o=>
  obtain⟨e,a,-,b⟩:=zbA hf
  exact h e a o (mem_of_getElem? b)
theorem yq.outs_ok {w0 w:World} {p ma ms g N:Nat} {VG X:Nat→Prop} {C:zd→List Value} {L:List yd} (h:yq w0 w p ma ms g VG X C L N):∀e∈L,∀x∈e.tx.outs,x.ok:=λe a=>by
 obtain⟨t,-,b⟩:=(h.data e a).now
 exact b.oks.2
section
variable {w0 w:World} {p ma ms g N:Nat} {VG X:Nat→Prop} {C:zd→List Value} {L:List yd}
theorem QV (h:yq w0 w p ma ms g VG X C L N) {w1:World} {pc:Nat} {VC:Nat→Prop} {S:List zr} {bs:List yB} {I:List zd} (hc:Cn w1 w pc VC S bs I) (hS:∀c∈S,c.ok) {t:TxD} (ht:TxQ w t cs) (hN:t.ins.length≤1000):
  Calls prog 86 #[.pointer (some ⟨p,0,none⟩),.pointer (some ⟨pc,0,none⟩),.agg cs.toArray] w (zac w S L t):=by
 obtain⟨dH,uH,rH⟩:=Zw
 have zo:=y9
 have zp:=vR
 have ai:=J (vM t)
 have aL:=@J (∀q∈zZ t,q.ok) (λq hq=>by obtain⟨x,hx,rfl⟩:=mem_map.1 hq;exact ht.oks.1 x hx)
 obtain⟨ia,ic,oa,oc,rfl⟩:=ht.form
 have F1:=J ((frN w).alloc (.cells #[.int .u32 t.ver,.slice ia t.ins.length ic,.slice oa t.outs.length oc] 34))
 have R0:=J (qW w t.ver (.slice ia t.ins.length ic) (.slice oa t.outs.length oc)).2.2.2
 have HP:=J (jd _ (ht.keep F1.o) hN)
 have bb:=J (λw' (f:Fr No w w') (q:zE) (hq:q.ok)=>zhf (h.fr0 f) hq)
 have a8:=J (λw' (f:Fr No w w') (q:zE) (hq:q.ok)=>zjy (h.fr0 f) hq)
 have a7:=J (λw' (f:Fr No w w') (q:zE) (hq:q.ok)=>zcP (hc.fr0 f) hq)
 have XP:=J (λq=>Yn h.outs_ok q)
 have XC:=J (λq=>vI hS q)
 clear h hc ht hS
 show Calls prog 86 #[.pointer (some ⟨p,0,none⟩),.pointer (some ⟨pc,0,none⟩),.agg #[.int .u32 t.ver,.slice ia t.ins.length ic,.slice oa t.outs.length oc]] w _
 go_enter Tryz.func86,Tryz.ntmps86
 have⟨K0,K1⟩:=tZ2
 go_wp2_with ((first|((with_reducible refine zt ?_);clear K0;refine zoa rfl rfl rfl R0.o rfl ?_)|(clear K1;go_at_call 33;refine HP.o.mono ?_;rintro e w2 ⟨v,rfl,ho,f2⟩;obtain⟨va,vc,hv⟩:=ho.slice.arg.form;subst hv;have F2:=J (F1.o.trans0 f2);have O2:=J ho;clear ho f2));go_frame)
 have aV:=@J (xL w2 (.slice va t.ins.length vc) (zZ t)) (⟨aL.o,by rw[ai.o];exact O2.o.slice.arg⟩)
 go_loopw [6,7,22] (λov pv iv wr=>∃n:Nat,ov=.slice none 0 0∧pv=.slice none 0 0∧iv=.int .i64 n∧n≤t.ins.length∧(∀q∈(zZ t).take n,qf L q=false)∧Fr No w2 wr) (λ_ _ iv _=>t.ins.length-(intOf iv).toNat)
 case atStart=>exact⟨0,rfl,rfl,rfl,zero_le _,by simp,Fr.refl _ _⟩
 case round=>
  obtain⟨n,rfl,rfl,rfl,hn,aE,fr⟩:=hrel
  have V:=J fr
  have AL:=J aE
  clear fr aE
  by_cases hlt:n<t.ins.length
  ·have i1:(n:Int)<(t.ins.length:Int):=by omega
   obtain⟨q,hx⟩:∃q,(zZ t)[n]? =some q:=⟨_,getElem?_eq_getElem (by rw[ai.o];exact hlt)⟩
   have HX:=J hx
   have M:=J (aL.o q (mem_of_getElem? hx))
   obtain⟨b,off,bg,e,hr,-⟩:=(aV.o.keep V.o).at_ hx
   injection e with e1 e2 e3
   subst e1
   have R1:=J hr
   have o:=J (z6 M.o)
   have RN:=J (zy wr (zn q) 95)
   have FA:=J (V.o.alloc (.cells (zn q).toArray 95))
   have aG:=J (bb.o _ (F2.o.trans0 FA.o) q M.o)
   clear hr hx e2 e3
   by_cases hs:qf L q=true
   ·have PE:=@J (J2 S L t=14) (by
     unfold J2
     rw[if_pos (any_eq_true.2 ⟨q,mem_of_getElem? HX.o,hs⟩)])
    rw[hs] at aG
    clear hs
    have⟨K0,K1,K2,K3⟩:=tZ4
    go_wp2_with ((first|((with_reducible refine zt ?_);first|(clear K0;refine zod rfl rfl rfl R1.o o.o ?_)|(clear K2;refine zod rfl rfl rfl RN.o o.o ?_))|((with_reducible refine zv ?_);clear K1;refine zi rfl (zj (w:=wr) (cs:=zn q) (ty:=95) rfl rfl rfl (by rw[o.o];rfl) (by rw[o.o];exact xK) yK) ?_)|(clear K3;go_at_call 75;refine aG.o.mono ?_;rintro e w4 ⟨rfl,f4⟩;have F4:=J f4;clear f4));go_frame)
    go_ret3
    exact zac.bad PE.o (by decide) ((F2.o.trans0 FA.o).trans0 F4.o) _ _
   ·have aR:qf L q=false:=by simpa using hs
    have ab:=@J (∀q∈(zZ t).take (n+1),qf L q=false) (λy l=>by
     rw[take_add_one,HX.o] at l
     rcases mem_append.1 l with l|l
     ·exact AL.o y l
     ·simp at l;subst l;exact aR)
    rw[aR] at aG
    clear hs aR
    have⟨K0,K1,K2,K3⟩:=tZ4
    go_wp2_with ((first|((with_reducible refine zt ?_);first|(clear K0;refine zod rfl rfl rfl R1.o o.o ?_)|(clear K2;refine zod rfl rfl rfl RN.o o.o ?_))|((with_reducible refine zv ?_);clear K1;refine zi rfl (zj (w:=wr) (cs:=zn q) (ty:=95) rfl rfl rfl (by rw[o.o];rfl) (by rw[o.o];exact xK) yK) ?_)|(clear K3;go_at_call 75;refine aG.o.mono ?_;rintro e w4 ⟨rfl,f4⟩;have F4:=J f4;clear f4));go_frame)
    go_roundw
    case rel=>exact⟨n+1,rfl,rfl,by go_num,by omega,ab.o,FA.o.trans0 F4.o⟩
    case measure=>simp[intOf];omega
  ·have ao:n=t.ins.length:=by omega
   have i1:¬(n:Int)<(t.ins.length:Int):=by omega
   have aT:=@J (∀q∈zZ t,qf L q=false) (λq hq=>AL.o q (by rw[ao,←ai.o,take_length];exact hq))
   have af:=J (F2.o.trans0 V.o)
   have ba:=J (aV.o.keep V.o)
   clear ao AL hlt hn
   go_wp2_with fail
   generalize wr=G at*
   go_loopw [6,7,32] (λov pv iv F=>∃n:Nat,iv=.int .i64 n∧n≤t.ins.length∧(∀q∈(zZ t).take n,(qP S L q).isSome=true)∧∃oa oc pa pc,ov=.slice oa n oc∧pv=.slice pa (jb L t n).length pc∧F.ownsRow G.heap.size 103 33 (.slice oa n oc) n ((zb8 S L t n).flatMap zJ)∧F.ownsRow G.heap.size 41 32 (.slice pa (jb L t n).length pc) (jb L t n).length ((jb L t n).flatMap zf)∧(∀j,(Value.slice oa n oc).ownBlock=some j→(Value.slice pa (jb L t n).length pc).ownBlock=some j→False)∧Fr No G F) (λ_ _ iv _=>t.ins.length-(intOf iv).toNat)
   case atStart=>exact⟨0,rfl,zero_le _,by simp,none,0,none,0,rfl,rfl,World.ownsRow_nil _ _ _ _,World.ownsRow_nil _ _ _ _,λj h _=>(by cases h),Fr.refl _ _⟩
   case round=>
    obtain⟨n,rfl,hn,aE,Q,R,pa,av,rfl,rfl,aY,aZ,aX,fr⟩:=hrel
    rename World=>F
    have V:=J fr
    have AL:=J aE
    have OO:=J aY
    have PP:=J aZ
    have DS:=J aX
    have aH:=J (zj3 L t n)
    clear fr aE aY aZ aX
    by_cases hlt:n<t.ins.length
    ·have i1:(n:Int)<(t.ins.length:Int):=by omega
     obtain⟨q,hx⟩:∃q,(zZ t)[n]? =some q:=⟨_,getElem?_eq_getElem (by rw[ai.o];exact hlt)⟩
     have HX:=J hx
     have M:=J (aL.o q (mem_of_getElem? hx))
     obtain⟨b,off,bg,e,hr,-⟩:=(ba.o.keep V.o).at_ hx
     injection e with e1 e2 e3
     subst e1
     have R1:=J hr
     have o:=J (z6 M.o)
     have HL:=J (zx M.o.1)
     have RN:=J (zy F (zn q) 95)
     have FA:=J ((frN F).alloc (.cells (zn q).toArray 95))
     have ag:=J (af.o.trans0 (V.o.trans0 FA.o))
     have Y:=J (a8.o _ ag.o q M.o)
     have m:=J (yz (XP.o q))
     have a:=J (yz (XC.o q))
     have aN:=J (zie (L:=L) HX.o)
     have aM:=@J (zb8 S L t (n+1)=zb8 S L t n++[(qP S L q).getD y6]) (by unfold zb8;rw[take_add_one,HX.o];simp)
     have aW:=J (zff S L t hn)
     have z:=J (λw' (f:Fr No w w')=>a7.o w' f q M.o)
     have LK:=@J (qP S L q=if xJ S q=true then some (yl S q) else xm L q) (rfl)
     clear hr hx e2 e3
     by_cases hm:(xm L q).isSome=true
     ·by_cases hk:xJ S q=true
      ·skip
       have HM:=J hm
       have HK:=J hk
       rw[hm] at Y
       rw[hk] at z
       clear hm hk
       have⟨K0,K1,K2,K3,K4,K5,K6,K7,K8,K9,aA,aB,aC,aK,bc,bd⟩:=tZ16
       go_wp2_with ((first|((with_reducible refine zt ?_);first|(clear K0;refine zod rfl rfl rfl R1.o o.o ?_)|(clear K2;refine zod rfl rfl rfl RN.o o.o ?_)|(clear K5;with_reducible refine yv 45 ?_;refine zg rfl (z7 (ty:=41) rfl rfl (zaT O.o M.o).1 uH rH (by have:=HL.o;unfold zf at this;rw[this];exact yt)) ?_)|(clear K6;refine zg rfl (zS (t:=38) rfl rfl xP qK rfl (by decide) (by decide) HL.o) ?_)|(clear K7;at_builtin;refine zQ rfl rfl rfl rfl A1.o ?_;have K:=@J (Fr No w w5) ((ag.o.trans0 (H.o.trans0 FB.o)).trans A3.o (λi hi e=>by have:=(NP.o _ e).2;have:=af.o.size;omega));have ah:=J (z.o _ K.o))|(clear K8;with_reducible refine yv 50 ?_;refine zod rfl rfl rfl aO.o o.o ?_)|(clear aB;with_reducible refine yv 55 ?_;refine zob rfl rfl rfl aD.o a.o ?_)|(clear aK;with_reducible refine yv 59 ?_;refine zob rfl rfl rfl RF.o a.o ?_)|(clear bc;refine zg rfl (zS (t:=22) rfl rfl qN Jp (by rw[←yA];rfl) (by decide) (by decide) a.o) ?_)|(clear bd;at_builtin;refine zQ rfl rfl rfl rfl B1.o ?_))|((with_reducible refine zv ?_);first|(clear K1;refine zi rfl (zj (w:=F) (cs:=zn q) (ty:=95) rfl rfl rfl (by rw[o.o];rfl) (by rw[o.o];exact xK) yK) ?_;generalize aq:F.heap.size=qb at*;generalize B:F.alloc (.cells (zn q).toArray 95)=wa at*)|(clear K4;refine zi rfl (zj (w:=u) (cs:=zJ ((xm L q).getD y6)) (ty:=103) rfl rfl rfl (by rw[m.o];rfl) (by rw[m.o];exact yG) yf) ?_;generalize ar:u.heap.size=r at*;generalize D:u.alloc (.cells (zJ ((xm L q).getD y6)).toArray 103)=w4 at*;have Z4:=@J (r<w4.heap.size) (by rw[←D,←ar];simp);have ZQ:=@J (qb<r) (by have:=ZA.o;have:=H.o.size;omega);clear D;obtain⟨v5,w5,a1,a2,a3,-,a5⟩:=yY (P:=prog) w4 G.heap.size 38 38 41 32 32 _ xP qm rfl (by decide) (zb PP.o k.o (λ_ _=>id)) (zf q.tx) HL.o zU (by have:=aH.o;omega) (by have:=aH.o;unfold maxLen;omega) (by have:=V.o.size;have:=k.o.size;omega);obtain⟨T,U,aS⟩:=a2.slice.arg.form;subst aS;have A1:=J a1;have A2:=J a2;have A3:=J a3;have A5:=J a5;clear a1 a2 a3 a5;have NP:=@J (∀j,(Value.slice pa (jb L t n).length av).ownBlock=some j→j<F.heap.size∧G.heap.size≤j) (λj d=>⟨(PP.o.lt j d).2,(PP.o.lt j d).1⟩);have aO:=J (za O.o A3.o (λe=>by have:=(NP.o _ e).1;omega));have aP:=J (za al.o A3.o (λe=>by have:=(NP.o _ e).1;have:=ZQ.o;omega));have aJ:=J (A3.o.obj BO.o (λe=>by have:=(NP.o _ e).1;have:=ZQ.o;omega)))|(clear aA;refine zi rfl (zj (w:=E) (cs:=zJ (yl S q)) (ty:=103) rfl rfl rfl (by rw[a.o];rfl) (by rw[a.o];exact yG) yf) ?_;generalize aQ:E.heap.size=qc at*;generalize au:E.alloc (.cells (zJ (yl S q)).toArray 103)=w7 at*;have aI:=J (za an.o A.o id);have ae:=J (A.o.obj ad.o id);have ZC:=@J (r<qc) (by have:=s.o.size;have:=Z4.o;have:=A3.o.size;omega);clear au;have F8:=J (zu r (zJ (yl S q)) 0 w7);have RF:=@J ((w7.setCells r 0 (zJ (yl S q))).rangeAt r 0 (zJ (yl S q))) (yx ae.o (by rw[a.o,size_toArray,m.o])))|(clear aC;refine zi rfl (zK (ty:=103) (b:=r) (off:=0) (cs:=zJ (yl S q)) rfl rfl rfl (by rw[a.o];exact zX ae.o (by rw[size_toArray,m.o];exact le_refl _)) (by rw[a.o];exact yG) yf) ?_;generalize bh:w7.setCells r 0 (zJ (yl S q))=w8 at*;have O7:=@J (w7.ownsRow G.heap.size 103 33 (.slice Q n R) n ((zb8 S L t n).flatMap zJ)) (zb (zb (zb OO.o k.o (λ_ _=>id)) A3.o (λj d e=>DS.o j d e)) (s.o.trans0 A.o) (λ_ _=>id));have P7:=@J (w7.ownsRow G.heap.size 41 32 (.slice T ((jb L t n).length+1) U) ((jb L t n).length+1) ((jb L t n).flatMap zf++zf q.tx)) (zb A2.o (s.o.trans0 A.o) (λ_ _=>id));have PB:=@J (∀j,(Value.slice T ((jb L t n).length+1) U).ownBlock=some j→j≠r∧((Value.slice Q n R).ownBlock=some j→False)) (λj d=>⟨λe=>by rcases A5.o j d with h|h;(have:=(NP.o j h).1;have:=ZQ.o;omega);(have:=Z4.o;omega),λe=>by rcases A5.o j d with h|h;exact DS.o j e h;(have:=(OO.o.lt j e).2;have:=k.o.size;omega)⟩);have O8:=J (zb O7.o F8.o (λj d e=>by have:=(OO.o.lt j d).2;have:=ZQ.o;omega));have P8:=J (zb P7.o F8.o (λj d e=>(PB.o j d).1 e));have a6:=@J (Fr No w _) (((K.o.trans0 s.o).trans0 A.o).trans F8.o (λi hi e=>by have:=ag.o.size;have:=ZA.o;have:=H.o.size;have:=ZQ.o;have:=af.o.size;have:=V.o.size;omega));have W:=@J (Fr No G _) ((((((V.o.trans0 k.o).trans A3.o (λi hi e=>by have:=(NP.o _ e).2;omega)).trans0 s.o).trans0 A.o)).trans F8.o (λi hi e=>by have:=ZQ.o;have:=V.o.size;omega));have az:=@J ((qP S L q).getD y6=yl S q) (by rw[LK.o,if_pos HK.o];rfl);have ay:=@J ((qP S L q).isSome=true) (by rw[LK.o,if_pos HK.o];rfl);obtain⟨v9,w9,b1,b2,b3,-,b5⟩:=yY (P:=prog) _ G.heap.size 22 22 103 33 40 _ qN JD (by rw[←yA];rfl) (by decide) O8.o (zJ (yl S q)) a.o yf (by omega) (by unfold maxLen;omega) W.o.size;obtain⟨Z,aa,aF⟩:=b2.slice.arg.form;subst aF;have B1:=J b1;have B2:=J b2;have B3:=J b3;have B5:=J b5;clear b1 b2 b3 b5;have NO:=@J (∀j,(Value.slice Q n R).ownBlock=some j→G.heap.size≤j∧j<F.heap.size) (λj d=>OO.o.lt j d);have P9:=J (zb P8.o B3.o (λj d e=>(PB.o j d).2 e));have ax:=J (W.o.trans B3.o (λi hi e=>by have:=(NO.o _ e).1;omega));have aw:=@J (∀j,(Value.slice Z (n+1) aa).ownBlock=some j→(Value.slice T ((jb L t n).length+1) U).ownBlock=some j→False) (λj ho hp=>by rcases B5.o j ho with h|h;exact(PB.o j hp).2 h;(have:=(P8.o.lt j hp).2;omega))))|(clear K3;go_at_call 127;refine Y.o.mono ?_;rintro e u ⟨rfl,f3⟩;have H:=J f3;clear f3;have ZA:=@J (qb<wa.heap.size) (by rw[←B,←aq];simp);clear B;have ak:=J (za RN.o H.o id);have al:=J (zy u (zJ ((xm L q).getD y6)) 103);have FB:=J ((frN u).alloc (.cells (zJ ((xm L q).getD y6)).toArray 103));have BO:=J (yj u (.cells (zJ ((xm L q).getD y6)).toArray 103));have O:=J (za ak.o FB.o id);have k:=J ((FA.o.trans0 H.o).trans0 FB.o))|(clear K9;go_at_call 126;refine ah.o.mono ?_;rintro e E ⟨rfl,f6⟩;have s:=J f6;clear f6;have an:=J (za aP.o s.o id);have ad:=J (s.o.obj aJ.o id);have aD:=J (zy E (zJ (yl S q)) 103);have A:=J ((frN E).alloc (.cells (zJ (yl S q)).toArray 103))));go_frame)
       have PT:=@J (jb L t (n+1)=jb L t n++[q.tx]) (by unfold jb;rw[aN.o,if_pos HM.o])
       have aj:=@J ((jb L t (n+1)).length=(jb L t n).length+1) (by rw[PT.o];simp)
       have ab:=@J (∀q∈(zZ t).take (n+1),(qP S L q).isSome=true) (λy l=>by
        rw[take_add_one,HX.o] at l
        rcases mem_append.1 l with l|l
        ·exact AL.o y l
        ·simp at l;subst l;exact ay.o)
       go_roundw
       case rel=>exact⟨n+1,by go_num,by omega,ab.o,Z,aa,T,U,rfl,by rw[aj.o],by rw[aM.o,az.o,flatMap_append];simpa using B2.o,by rw[aj.o,PT.o,flatMap_append];simpa using P9.o,by rw[aj.o];exact aw.o,ax.o⟩
       case measure=>simp[intOf];omega
      ·replace hk:xJ S q=false:=by simpa using hk
       have HM:=J hm
       have HK:=J hk
       rw[hm] at Y
       rw[hk] at z
       clear hm hk
       have⟨K0,K1,K2,K3,K4,K5,K6,K7,K8,K9,aA,aB,aC,aK⟩:=tZ14
       go_wp2_with ((first|((with_reducible refine zt ?_);first|(clear K0;refine zod rfl rfl rfl R1.o o.o ?_)|(clear K2;refine zod rfl rfl rfl RN.o o.o ?_)|(clear K5;with_reducible refine yv 45 ?_;refine zg rfl (z7 (ty:=41) rfl rfl (zaT O.o M.o).1 uH rH (by have:=HL.o;unfold zf at this;rw[this];exact yt)) ?_)|(clear K6;refine zg rfl (zS (t:=38) rfl rfl xP qK rfl (by decide) (by decide) HL.o) ?_)|(clear K7;at_builtin;refine zQ rfl rfl rfl rfl A1.o ?_;have K:=@J (Fr No w w5) ((ag.o.trans0 (H.o.trans0 FB.o)).trans A3.o (λi hi e=>by have:=(NP.o _ e).2;have:=af.o.size;omega));have ah:=J (z.o _ K.o))|(clear K8;with_reducible refine yv 50 ?_;refine zod rfl rfl rfl aO.o o.o ?_)|(clear aB;with_reducible refine yv 59 ?_;refine zob rfl rfl rfl RF.o m.o ?_)|(clear aC;refine zg rfl (zS (t:=22) rfl rfl qN Jp (by rw[←yA];rfl) (by decide) (by decide) m.o) ?_)|(clear aK;at_builtin;refine zQ rfl rfl rfl rfl B1.o ?_))|((with_reducible refine zv ?_);first|(clear K1;refine zi rfl (zj (w:=F) (cs:=zn q) (ty:=95) rfl rfl rfl (by rw[o.o];rfl) (by rw[o.o];exact xK) yK) ?_;generalize aq:F.heap.size=qb at*;generalize B:F.alloc (.cells (zn q).toArray 95)=wa at*)|(clear K4;refine zi rfl (zj (w:=u) (cs:=zJ ((xm L q).getD y6)) (ty:=103) rfl rfl rfl (by rw[m.o];rfl) (by rw[m.o];exact yG) yf) ?_;generalize ar:u.heap.size=r at*;generalize D:u.alloc (.cells (zJ ((xm L q).getD y6)).toArray 103)=w4 at*;have Z4:=@J (r<w4.heap.size) (by rw[←D,←ar];simp);have ZQ:=@J (qb<r) (by have:=ZA.o;have:=H.o.size;omega);clear D;obtain⟨v5,w5,a1,a2,a3,-,a5⟩:=yY (P:=prog) w4 G.heap.size 38 38 41 32 32 _ xP qm rfl (by decide) (zb PP.o k.o (λ_ _=>id)) (zf q.tx) HL.o zU (by have:=aH.o;omega) (by have:=aH.o;unfold maxLen;omega) (by have:=V.o.size;have:=k.o.size;omega);obtain⟨T,U,aS⟩:=a2.slice.arg.form;subst aS;have A1:=J a1;have A2:=J a2;have A3:=J a3;have A5:=J a5;clear a1 a2 a3 a5;have NP:=@J (∀j,(Value.slice pa (jb L t n).length av).ownBlock=some j→j<F.heap.size∧G.heap.size≤j) (λj d=>⟨(PP.o.lt j d).2,(PP.o.lt j d).1⟩);have aO:=J (za O.o A3.o (λe=>by have:=(NP.o _ e).1;omega));have aP:=J (za al.o A3.o (λe=>by have:=(NP.o _ e).1;have:=ZQ.o;omega));have aJ:=J (A3.o.obj BO.o (λe=>by have:=(NP.o _ e).1;have:=ZQ.o;omega)))|(clear aA;refine zi rfl (zj (w:=E) (cs:=zJ (yl S q)) (ty:=103) rfl rfl rfl (by rw[a.o];rfl) (by rw[a.o];exact yG) yf) ?_;generalize aQ:E.heap.size=qc at*;generalize au:E.alloc (.cells (zJ (yl S q)).toArray 103)=w7 at*;have aI:=J (za an.o A.o id);have ae:=J (A.o.obj ad.o id);have ZC:=@J (r<qc) (by have:=s.o.size;have:=Z4.o;have:=A3.o.size;omega);clear au;have O7:=@J (w7.ownsRow G.heap.size 103 33 (.slice Q n R) n ((zb8 S L t n).flatMap zJ)) (zb (zb (zb OO.o k.o (λ_ _=>id)) A3.o (λj d e=>DS.o j d e)) (s.o.trans0 A.o) (λ_ _=>id));have P7:=@J (w7.ownsRow G.heap.size 41 32 (.slice T ((jb L t n).length+1) U) ((jb L t n).length+1) ((jb L t n).flatMap zf++zf q.tx)) (zb A2.o (s.o.trans0 A.o) (λ_ _=>id));have PB:=@J (∀j,(Value.slice T ((jb L t n).length+1) U).ownBlock=some j→j≠r∧((Value.slice Q n R).ownBlock=some j→False)) (λj d=>⟨λe=>by rcases A5.o j d with h|h;(have:=(NP.o j h).1;have:=ZQ.o;omega);(have:=Z4.o;omega),λe=>by rcases A5.o j d with h|h;exact DS.o j e h;(have:=(OO.o.lt j e).2;have:=k.o.size;omega)⟩);have O8:=O7;have P8:=P7;have W:=@J (Fr No G _) (((((V.o.trans0 k.o).trans A3.o (λi hi e=>by have:=(NP.o _ e).2;omega)).trans0 s.o).trans0 A.o));have bj:w7=w7:=rfl;have RF:=aI;have az:=@J ((qP S L q).getD y6=(xm L q).getD y6) (by rw[LK.o,if_neg (by rw[HK.o];decide)]);have ay:=@J ((qP S L q).isSome=true) (by rw[LK.o,if_neg (by rw[HK.o];decide)];exact HM.o);obtain⟨v9,w9,b1,b2,b3,-,b5⟩:=yY (P:=prog) _ G.heap.size 22 22 103 33 40 _ qN JD (by rw[←yA];rfl) (by decide) O8.o (zJ ((xm L q).getD y6)) m.o yf (by omega) (by unfold maxLen;omega) W.o.size;obtain⟨Z,aa,aF⟩:=b2.slice.arg.form;subst aF;have B1:=J b1;have B2:=J b2;have B3:=J b3;have B5:=J b5;clear b1 b2 b3 b5;have NO:=@J (∀j,(Value.slice Q n R).ownBlock=some j→G.heap.size≤j∧j<F.heap.size) (λj d=>OO.o.lt j d);have P9:=J (zb P8.o B3.o (λj d e=>(PB.o j d).2 e));have ax:=J (W.o.trans B3.o (λi hi e=>by have:=(NO.o _ e).1;omega));have aw:=@J (∀j,(Value.slice Z (n+1) aa).ownBlock=some j→(Value.slice T ((jb L t n).length+1) U).ownBlock=some j→False) (λj ho hp=>by rcases B5.o j ho with h|h;exact(PB.o j hp).2 h;(have:=(P8.o.lt j hp).2;omega))))|(clear K3;go_at_call 127;refine Y.o.mono ?_;rintro e u ⟨rfl,f3⟩;have H:=J f3;clear f3;have ZA:=@J (qb<wa.heap.size) (by rw[←B,←aq];simp);clear B;have ak:=J (za RN.o H.o id);have al:=J (zy u (zJ ((xm L q).getD y6)) 103);have FB:=J ((frN u).alloc (.cells (zJ ((xm L q).getD y6)).toArray 103));have BO:=J (yj u (.cells (zJ ((xm L q).getD y6)).toArray 103));have O:=J (za ak.o FB.o id);have k:=J ((FA.o.trans0 H.o).trans0 FB.o))|(clear K9;go_at_call 126;refine ah.o.mono ?_;rintro e E ⟨rfl,f6⟩;have s:=J f6;clear f6;have an:=J (za aP.o s.o id);have ad:=J (s.o.obj aJ.o id);have aD:=J (zy E (zJ (yl S q)) 103);have A:=J ((frN E).alloc (.cells (zJ (yl S q)).toArray 103))));go_frame)
       have PT:=@J (jb L t (n+1)=jb L t n++[q.tx]) (by unfold jb;rw[aN.o,if_pos HM.o])
       have aj:=@J ((jb L t (n+1)).length=(jb L t n).length+1) (by rw[PT.o];simp)
       have ab:=@J (∀q∈(zZ t).take (n+1),(qP S L q).isSome=true) (λy l=>by
        rw[take_add_one,HX.o] at l
        rcases mem_append.1 l with l|l
        ·exact AL.o y l
        ·simp at l;subst l;exact ay.o)
       go_roundw
       case rel=>exact⟨n+1,by go_num,by omega,ab.o,Z,aa,T,U,rfl,by rw[aj.o],by rw[aM.o,az.o,flatMap_append];simpa using B2.o,by rw[aj.o,PT.o,flatMap_append];simpa using P9.o,by rw[aj.o];exact aw.o,ax.o⟩
       case measure=>simp[intOf];omega
     ·replace hm:(xm L q).isSome=false:=by simpa using hm
      by_cases hk:xJ S q=true
      ·skip
       have HM:=J hm
       have HK:=J hk
       rw[hm] at Y
       rw[hk] at z
       clear hm hk
       have⟨K0,K1,K2,K3,K4,K5,K6,K7,K8,K9,aA,aB,aC⟩:=tZ13
       go_wp2_with ((first|((with_reducible refine zt ?_);first|(clear K0;refine zod rfl rfl rfl R1.o o.o ?_)|(clear K2;refine zod rfl rfl rfl RN.o o.o ?_)|(clear K5;with_reducible refine yv 50 ?_;refine zod rfl rfl rfl O.o o.o ?_)|(clear K8;with_reducible refine yv 55 ?_;refine zob rfl rfl rfl aD.o a.o ?_)|(clear aA;with_reducible refine yv 59 ?_;refine zob rfl rfl rfl RF.o a.o ?_)|(clear aB;refine zg rfl (zS (t:=22) rfl rfl qN Jp (by rw[←yA];rfl) (by decide) (by decide) a.o) ?_)|(clear aC;at_builtin;refine zQ rfl rfl rfl rfl B1.o ?_))|((with_reducible refine zv ?_);first|(clear K1;refine zi rfl (zj (w:=F) (cs:=zn q) (ty:=95) rfl rfl rfl (by rw[o.o];rfl) (by rw[o.o];exact xK) yK) ?_;generalize aq:F.heap.size=qb at*;generalize B:F.alloc (.cells (zn q).toArray 95)=wa at*)|(clear K4;refine zi rfl (zj (w:=u) (cs:=zJ ((xm L q).getD y6)) (ty:=103) rfl rfl rfl (by rw[m.o];rfl) (by rw[m.o];exact yG) yf) ?_;generalize ar:u.heap.size=r at*;generalize D:u.alloc (.cells (zJ ((xm L q).getD y6)).toArray 103)=w4 at*;have Z4:=@J (r<w4.heap.size) (by rw[←D,←ar];simp);have ZQ:=@J (qb<r) (by have:=ZA.o;have:=H.o.size;omega);clear D;have K:=@J (Fr No w w4) (ag.o.trans0 (H.o.trans0 FB.o));have ah:=J (z.o _ K.o))|(clear K7;refine zi rfl (zj (w:=E) (cs:=zJ (yl S q)) (ty:=103) rfl rfl rfl (by rw[a.o];rfl) (by rw[a.o];exact yG) yf) ?_;generalize aQ:E.heap.size=qc at*;generalize au:E.alloc (.cells (zJ (yl S q)).toArray 103)=w7 at*;have aI:=J (za an.o A.o id);have ae:=J (A.o.obj ad.o id);have ZC:=@J (r<qc) (by have:=s.o.size;have:=Z4.o;omega);clear au;have F8:=J (zu r (zJ (yl S q)) 0 w7);have RF:=@J ((w7.setCells r 0 (zJ (yl S q))).rangeAt r 0 (zJ (yl S q))) (yx ae.o (by rw[a.o,size_toArray,m.o])))|(clear K9;refine zi rfl (zK (ty:=103) (b:=r) (off:=0) (cs:=zJ (yl S q)) rfl rfl rfl (by rw[a.o];exact zX ae.o (by rw[size_toArray,m.o];exact le_refl _)) (by rw[a.o];exact yG) yf) ?_;generalize bh:w7.setCells r 0 (zJ (yl S q))=w8 at*;have O7:=@J (w7.ownsRow G.heap.size 103 33 (.slice Q n R) n ((zb8 S L t n).flatMap zJ)) (zb (zb (zb OO.o k.o (λ_ _=>id)) (frN w4) (λ_ _=>id)) (s.o.trans0 A.o) (λ_ _=>id));have P7:=@J (w7.ownsRow G.heap.size 41 32 (.slice pa (jb L t n).length av) (jb L t n).length ((jb L t n).flatMap zf)) (zb (zb PP.o k.o (λ_ _=>id)) (s.o.trans0 A.o) (λ_ _=>id));have PB:=@J (∀j,(Value.slice pa (jb L t n).length av).ownBlock=some j→j≠r∧((Value.slice Q n R).ownBlock=some j→False)) (λj d=>⟨λe=>by have:=(PP.o.lt j d).2;have:=ZQ.o;omega,λe=>DS.o j e d⟩);have O8:=J (zb O7.o F8.o (λj d e=>by have:=(OO.o.lt j d).2;have:=ZQ.o;omega));have P8:=J (zb P7.o F8.o (λj d e=>(PB.o j d).1 e));have a6:=@J (Fr No w _) (((K.o.trans0 s.o).trans0 A.o).trans F8.o (λi hi e=>by have:=ag.o.size;have:=ZA.o;have:=H.o.size;have:=ZQ.o;have:=af.o.size;have:=V.o.size;omega));have W:=@J (Fr No G _) (((((V.o.trans0 k.o).trans0 s.o).trans0 A.o)).trans F8.o (λi hi e=>by have:=ZQ.o;have:=V.o.size;omega));have az:=@J ((qP S L q).getD y6=yl S q) (by rw[LK.o,if_pos HK.o];rfl);have ay:=@J ((qP S L q).isSome=true) (by rw[LK.o,if_pos HK.o];rfl);obtain⟨v9,w9,b1,b2,b3,-,b5⟩:=yY (P:=prog) _ G.heap.size 22 22 103 33 40 _ qN JD (by rw[←yA];rfl) (by decide) O8.o (zJ (yl S q)) a.o yf (by omega) (by unfold maxLen;omega) W.o.size;obtain⟨Z,aa,aF⟩:=b2.slice.arg.form;subst aF;have B1:=J b1;have B2:=J b2;have B3:=J b3;have B5:=J b5;clear b1 b2 b3 b5;have NO:=@J (∀j,(Value.slice Q n R).ownBlock=some j→G.heap.size≤j∧j<F.heap.size) (λj d=>OO.o.lt j d);have P9:=J (zb P8.o B3.o (λj d e=>(PB.o j d).2 e));have ax:=J (W.o.trans B3.o (λi hi e=>by have:=(NO.o _ e).1;omega));have aw:=@J (∀j,(Value.slice Z (n+1) aa).ownBlock=some j→(Value.slice pa (jb L t n).length av).ownBlock=some j→False) (λj ho hp=>by rcases B5.o j ho with h|h;exact(PB.o j hp).2 h;(have:=(P8.o.lt j hp).2;omega))))|(clear K3;go_at_call 127;refine Y.o.mono ?_;rintro e u ⟨rfl,f3⟩;have H:=J f3;clear f3;have ZA:=@J (qb<wa.heap.size) (by rw[←B,←aq];simp);clear B;have ak:=J (za RN.o H.o id);have al:=J (zy u (zJ ((xm L q).getD y6)) 103);have FB:=J ((frN u).alloc (.cells (zJ ((xm L q).getD y6)).toArray 103));have BO:=J (yj u (.cells (zJ ((xm L q).getD y6)).toArray 103));have O:=J (za ak.o FB.o id);have k:=J ((FA.o.trans0 H.o).trans0 FB.o))|(clear K6;go_at_call 126;refine ah.o.mono ?_;rintro e E ⟨rfl,f6⟩;have s:=J f6;clear f6;have an:=J (za al.o s.o id);have ad:=J (s.o.obj BO.o id);have aD:=J (zy E (zJ (yl S q)) 103);have A:=J ((frN E).alloc (.cells (zJ (yl S q)).toArray 103))));go_frame)
       have PT:=@J (jb L t (n+1)=jb L t n) (by unfold jb;rw[aN.o,if_neg (by rw[HM.o];decide),List.append_nil])
       have ab:=@J (∀q∈(zZ t).take (n+1),(qP S L q).isSome=true) (λy l=>by
        rw[take_add_one,HX.o] at l
        rcases mem_append.1 l with l|l
        ·exact AL.o y l
        ·simp at l;subst l;exact ay.o)
       go_roundw
       case rel=>exact⟨n+1,by go_num,by omega,ab.o,Z,aa,pa,av,rfl,by rw[PT.o],by rw[aM.o,az.o,flatMap_append];simpa using B2.o,by rw[PT.o];exact P9.o,by rw[PT.o];exact aw.o,ax.o⟩
       case measure=>simp[intOf];omega
      ·replace hk:xJ S q=false:=by simpa using hk
       have HM:=J hm
       have HK:=J hk
       rw[hm] at Y
       rw[hk] at z
       clear hm hk
       have PE:=@J (J2 S L t=15) (by
        unfold J2
        rw[if_neg (by rw[any_eq_true];rintro⟨y,l,hs⟩;rw[aT.o y l] at hs;cases hs),if_neg (by rw[all_eq_true];intro hh;have:=hh q (mem_of_getElem? HX.o);rw[LK.o,if_neg (by rw[HK.o];decide),HM.o] at this;cases this)])
       have⟨K0,K1,K2,K3,K4,K5,K6,K7⟩:=tZ8
       go_wp2_with ((first|((with_reducible refine zt ?_);first|(clear K0;refine zod rfl rfl rfl R1.o o.o ?_)|(clear K2;refine zod rfl rfl rfl RN.o o.o ?_)|(clear K5;with_reducible refine yv 50 ?_;refine zod rfl rfl rfl O.o o.o ?_))|((with_reducible refine zv ?_);first|(clear K1;refine zi rfl (zj (w:=F) (cs:=zn q) (ty:=95) rfl rfl rfl (by rw[o.o];rfl) (by rw[o.o];exact xK) yK) ?_;generalize aq:F.heap.size=qb at*;generalize B:F.alloc (.cells (zn q).toArray 95)=wa at*)|(clear K4;refine zi rfl (zj (w:=u) (cs:=zJ ((xm L q).getD y6)) (ty:=103) rfl rfl rfl (by rw[m.o];rfl) (by rw[m.o];exact yG) yf) ?_;generalize ar:u.heap.size=r at*;generalize D:u.alloc (.cells (zJ ((xm L q).getD y6)).toArray 103)=w4 at*;have Z4:=@J (r<w4.heap.size) (by rw[←D,←ar];simp);have ZQ:=@J (qb<r) (by have:=ZA.o;have:=H.o.size;omega);clear D;have K:=@J (Fr No w w4) (ag.o.trans0 (H.o.trans0 FB.o));have ah:=J (z.o _ K.o))|(clear K7;refine zi rfl (zj (w:=E) (cs:=zJ (yl S q)) (ty:=103) rfl rfl rfl (by rw[a.o];rfl) (by rw[a.o];exact yG) yf) ?_;generalize aQ:E.heap.size=qc at*;generalize au:E.alloc (.cells (zJ (yl S q)).toArray 103)=w7 at*;have aI:=J (za an.o A.o id);have ae:=J (A.o.obj ad.o id);have ZC:=@J (r<qc) (by have:=s.o.size;have:=Z4.o;omega);clear au))|(clear K3;go_at_call 127;refine Y.o.mono ?_;rintro e u ⟨rfl,f3⟩;have H:=J f3;clear f3;have ZA:=@J (qb<wa.heap.size) (by rw[←B,←aq];simp);clear B;have ak:=J (za RN.o H.o id);have al:=J (zy u (zJ ((xm L q).getD y6)) 103);have FB:=J ((frN u).alloc (.cells (zJ ((xm L q).getD y6)).toArray 103));have BO:=J (yj u (.cells (zJ ((xm L q).getD y6)).toArray 103));have O:=J (za ak.o FB.o id);have k:=J ((FA.o.trans0 H.o).trans0 FB.o))|(clear K6;go_at_call 126;refine ah.o.mono ?_;rintro e E ⟨rfl,f6⟩;have s:=J f6;clear f6;have an:=J (za al.o s.o id);have ad:=J (s.o.obj BO.o id);have aD:=J (zy E (zJ (yl S q)) 103);have A:=J ((frN E).alloc (.cells (zJ (yl S q)).toArray 103))));go_frame)
       go_ret3
       exact zac.bad PE.o (by decide) (K.o.trans0 (s.o.trans0 A.o)) _ _
    ·have ao:n=t.ins.length:=by omega
     have i1:¬(n:Int)<(t.ins.length:Int):=by omega
     have aU:=@J (∀q∈zZ t,(qP S L q).isSome=true) (λq hq=>AL.o q (by rw[ao,←ai.o,take_length];exact hq))
     have PE:=J (zfg.2 ⟨aT.o,aU.o⟩)
     have E1:=@J (zb8 S L t n=xO S L t) (by unfold zb8 xO;rw[ao,←ai.o,take_length])
     have E2:=@J (jb L t n=xC L t) (by unfold jb xC;rw[ao,←ai.o,take_length])
     have bf:=@J (∀x∈xO S L t,x.ok) (λx hx=>by
      obtain⟨q,hq,rfl⟩:=mem_map.1 hx
      unfold qP
      split
      ·exact XC.o q
      ·exact XP.o q)
     have aW:=J (zff S L t hn)
     clear ao
     go_wp2_with fail
     go_ret3
     exact⟨_,_,by rw[PE.o];rfl,af.o.trans0 V.o,λ_=>⟨⟨bf.o,by have:=OO.o.slice.arg;rw[E1.o] at this;rw[←E1.o,aW.o,E1.o];exact this⟩,by rw[←E2.o];exact yU PP.o af.o.size⟩⟩
end
section
open Go.Lib
theorem zav (x y:Nat) (c:x<18446744073709551616) (d:y<18446744073709551616) (w:World):
  Calls prog 159 #[.int .u64 x,.int .u64 y] w λe w'=>e=.returned (.tuple #[.int .u64 ((x*y / 18446744073709551616:Nat):Int),.int .u64 ((x*y % 18446744073709551616:Nat):Int)])∧w'=w:=by
 obtain⟨l,k,n,j⟩:=Lib.mul64_hi x y c d
 have o:=Lib.half_mul_le (a:=x / 4294967296) (b:=y / 4294967296) (by omega) (by omega)
 have p:=Lib.half_mul_le (a:=x / 4294967296) (b:=y % 4294967296) (by omega) (by omega)
 have q:=Lib.half_mul_le (a:=x % 4294967296) (b:=y / 4294967296) (by omega) (by omega)
 have f:x / 4294967296*(y / 4294967296)<18446744073709551616:=by omega
 have g:x / 4294967296*(y % 4294967296)<18446744073709551616:=by omega
 have h:x % 4294967296*(y / 4294967296)<18446744073709551616:=by omega
 have i:x / 4294967296*(y / 4294967296)+(x / 4294967296*(y % 4294967296)+x % 4294967296*(y % 4294967296) / 4294967296) / 4294967296<18446744073709551616:=by omega
 have m:x / 4294967296*(y / 4294967296)+(x / 4294967296*(y % 4294967296)+x % 4294967296*(y % 4294967296) / 4294967296) / 4294967296+((x / 4294967296*(y % 4294967296)+x % 4294967296*(y % 4294967296) / 4294967296) % 4294967296+x % 4294967296*(y / 4294967296)) / 4294967296<18446744073709551616:=by
  have:x*y / 18446744073709551616<18446744073709551616:=by
   have:=Nat.mul_le_mul (Nat.le_of_lt c) (Nat.le_of_lt d)
   have r:x*y<18446744073709551616*18446744073709551616:=Nat.mul_lt_mul'' c d
   omega
  omega
 go_enter Tryz.func159,Tryz.ntmps159
 go_wp2
 simp only[Mul64.maskN x c,Mul64.maskN y d,Mul64.divN,Mul64.mulN,Mul64.addN,Mul64.wrapN _ l,Mul64.wrapN _ g,Mul64.wrapN _ k,Mul64.maskN _ k,Mul64.wrapN _ h,Mul64.wrapN _ n,Mul64.wrapN _ f,Mul64.wrapN _ i,Mul64.wrapN _ m,Mul64.wrapM (x*y)]
 rw[j]
 go_ret2
 exact⟨rfl,rfl⟩
theorem zhI (lo:Nat) (c:lo<18446744073709551616) (w:World):
  Calls prog 160 #[.int .u64 0,.int .u64 lo,.int .u64 1000] w λe w'=>e=.returned (.tuple #[.int .u64 ((lo / 1000:Nat):Int),.int .u64 ((lo % 1000:Nat):Int)])∧Fr No w w':=by
 go_enter Tryz.func160,Tryz.ntmps160
 go_wp2
 refine wrLx [ff,ff,ff,ff,ff,ff,ff,ff] (λ_=>True) ?_ (λK hK=>?_)
 ·trivial
 repeat((first|(refine zl rfl ?_;constructor;constructor;(focus(first|(rintro w' -;exact goS))))|(refine zm rfl ?_));try simp only[Act.put,pA,pB,pC])
 refine zL (hK.out _ _ ?_)
 have a:=@J (IntKind.u64.wrap ((lo:Int) / 1000)=((lo / 1000:Nat):Int)) (by rw[IntKind.wrap_u64];omega)
 have b:=@J (((lo:Int).tmod 1000)=((lo % 1000:Nat):Int)) (rfl)
 go_wp2_with fail
 rw[a.o,b.o]
 go_ret2
 exact⟨rfl,(frN w).drew⟩
theorem zjR (n:Nat) (j:n≤1000000000000) (w:World):
  Calls prog 129 #[.int .u64 n,.int .u64 100] w λe w'=>e=.returned (.tuple #[.int .u64 (((n*100+999) / 1000:Nat):Int),.int .i64 0])∧Fr No w w':=by
 have M:=J (zav n 100 (by omega) (by omega) w)
 rw[show n*100 / 18446744073709551616=0 by omega,show n*100 % 18446744073709551616=n*100 by omega] at M
 have D:=J (zhI (n*100) (by omega) w)
 by_cases hr:n*100 % 1000=0
 ·have E:=@J ((n*100+999) / 1000=n*100 / 1000) (by omega)
  have g:(((n*100 % 1000:Nat):Int)==0)=true:=by rw[hr];rfl
  generalize n*100 / 1000=q at*
  generalize n*100 % 1000=r at*
  clear hr
  go_enter Tryz.func129,Tryz.ntmps129
  have⟨a,b⟩:=tZ2
  go_wp2_with ((first|(clear a;go_at_call 159;refine M.o.mono ?_;rintro e h ⟨rfl,d⟩;subst d)|(clear b;go_at_call 160;refine D.o.mono ?_;rintro e i ⟨rfl,c⟩));go_frame)
  go_ret2
  exact⟨by rw[E.o];rfl,c⟩
 ·have E:=@J ((n*100+999) / 1000=n*100 / 1000+1) (by omega)
  have g:(((n*100 % 1000:Nat):Int)==0)=false:=by rw[beq_eq_false_iff_ne];omega
  have k:((((n*100 / 1000:Nat):Int))==18446744073709551615)=false:=by rw[beq_eq_false_iff_ne];omega
  have f:n*100 / 1000≤1000000000000:=by omega
  generalize n*100 / 1000=q at*
  generalize n*100 % 1000=r at*
  clear hr
  go_enter Tryz.func129,Tryz.ntmps129
  have⟨a,b⟩:=tZ2
  go_wp2_with ((first|(clear a;go_at_call 159;refine M.o.mono ?_;rintro e h ⟨rfl,d⟩;subst d)|(clear b;go_at_call 160;refine D.o.mono ?_;rintro e i ⟨rfl,c⟩));go_frame)
  go_ret2
  exact⟨by rw[E.o];rfl,c⟩
theorem zcQ (s:Nat) (c:s≤1000000000000) (w:World):
  Calls prog 79 #[.int .i64 s] w λe w'=>e=.returned (.int .u64 (jJ s))∧Fr No w w':=by
 have N:=J (zjR s c w)
 have E:=@J (jJ (s:Int)=((s:Int)*100+999) / 1000) (by unfold jJ;omega)
 have d:max (s:Int) 0=(s:Int):=by omega
 go_enter Tryz.func79,Tryz.ntmps79
 have a:=tru
 go_wp2_with (clear a;go_at_call 129;refine N.o.mono ?_;rintro e f ⟨rfl,b⟩;go_frame)
 go_ret
 exact⟨by rw[E.o];rfl,b⟩
def zjd (x y:Nat):Int:=if x<y then -1 else if x=y then 0 else 1
theorem or_zero (x y:Nat) (b:x<18446744073709551616) (c:y<18446744073709551616):(bits .or .u64 (x:Int) (y:Int)==0)=(x==0 && y==0):=by
 rw[bits_or_u64_nat x y b c]
 rw[Bool.eq_iff_iff]
 simp only[beq_iff_eq,Bool.and_eq_true]
 constructor
 ·intro h
  have a:x|||y=0:=by omega
  exact Nat.or_eq_zero_iff.1 a
 ·rintro⟨rfl,rfl⟩
  rfl
theorem zkQ (a b c d:Nat) (B:a<18446744073709551616) (C:b<18446744073709551616) (D:c<18446744073709551616) (F:d<18446744073709551616) (w:World):
  Calls prog 161 #[.int .u64 a,.int .u64 b,.int .u64 c,.int .u64 d] w λe w'=>e=.returned (.int .i64 (zjd (a*b) (c*d)))∧w'=w:=by
 have s:=J (zav a b B C w)
 have t:=J (zav c d D F w)
 have T:a*b<18446744073709551616*18446744073709551616:=Nat.mul_lt_mul'' B C
 have U:c*d<18446744073709551616*18446744073709551616:=Nat.mul_lt_mul'' D F
 generalize a*b=X at*
 generalize c*d=Y at*
 obtain⟨h,K⟩:∃h,h=X / 18446744073709551616:=⟨_,rfl⟩
 obtain⟨l,L⟩:∃l,l=X % 18446744073709551616:=⟨_,rfl⟩
 obtain⟨i,hi⟩:∃i,i=Y / 18446744073709551616:=⟨_,rfl⟩
 obtain⟨m,M⟩:∃m,m=Y % 18446744073709551616:=⟨_,rfl⟩
 rw[←K,←L] at s
 rw[←hi,←M] at t
 have N:h<18446744073709551616:=by omega
 have O:l<18446744073709551616:=by omega
 have Q:i<18446744073709551616:=by omega
 have R:m<18446744073709551616:=by omega
 obtain⟨u,j⟩:∃u,u=(if l<m+0 then 1 else 0:Nat):=⟨_,rfl⟩
 have H:u≤1:=by rw[j];split<;>omega
 have p:=J (run_sub64 (P:=prog) l m 0 (by omega) w)
 have A:=J (run_sub64 (P:=prog) h i u H w)
 rw[←j] at p
 obtain⟨x,f⟩:∃x,x=(l+18446744073709551616-m-0) % 18446744073709551616:=⟨_,rfl⟩
 obtain⟨y,g⟩:∃y,y=(h+18446744073709551616-i-u) % 18446744073709551616:=⟨_,rfl⟩
 obtain⟨v,q⟩:∃v,v=(if h<i+u then 1 else 0:Nat):=⟨_,rfl⟩
 rw[←f] at p
 rw[←g,←q] at A
 have o:=J (or_zero y x (by omega) (by omega))
 have E:=@J (zjd X Y=if v≠0 then -1 else if y=0∧x=0 then 0 else 1) (by
  unfold zjd
  by_cases k:X<Y
  ·have V:v=1:=by rw[q,j];split<;>split<;>omega
   rw[if_pos k,V]
   rfl
  ·have G:v=0:=by rw[q,j];split<;>split<;>omega
   rw[if_neg k,G]
   by_cases n:X=Y
   ·have y0:y=0:=by subst n;rw[g,j];split<;>omega
    have Z:x=0:=by subst n;rw[f];omega
    rw[if_pos n,y0,Z]
    rfl
   ·rw[if_neg n]
    have:¬(y=0∧x=0):=by
     rintro⟨I,S⟩
     rw[f] at S
     rw[g,j] at I
     split at I<;>omega
    simp[this])
 have BV:v≤1:=by rw[q];split<;>omega
 clear q j f g K L hi M T U B C D F N O Q R H
 rw[show((0:Nat):Int)=0 from rfl] at p
 have r:(v==0)=true∨v=1:=by rcases Nat.lt_or_ge v 1 with h|h;exact .inl (by simp;omega);exact .inr (by omega)
 go_enter Tryz.func161,Tryz.ntmps161
 go_wp2_with (first|(go_at_call 159;have mk:=s.o;refine s.o.mono ?_;rintro e W ⟨rfl,k⟩;subst k;clear mk s)|(go_at_call 159;refine t.o.mono ?_;rintro e W ⟨rfl,k⟩;subst k;clear t))
 rw[run_callFunc_extern Tryz.func185 (by kernel_rfl) (by kernel_rfl) (by kernel_rfl) (e:=sub64Entry) (by kernel_rfl),p.o]
 simp only[Result.andThen]
 rw[Oper.upon_value]
 go_wp2
 rw[run_callFunc_extern Tryz.func185 (by kernel_rfl) (by kernel_rfl) (by kernel_rfl) (e:=sub64Entry) (by kernel_rfl),A.o]
 simp only[Result.andThen]
 rw[Oper.upon_value]
 clear p A
 rcases r with r|r
 ·have G:v=0:=by simpa using r
  subst G
  rw[if_neg (by simp)] at E
  by_cases hxy:y=0∧x=0
  ·rw[if_pos hxy] at E
   rw[hxy.1,hxy.2] at o⊢
   have z:=o.o
   rw[show((0:Nat):Int)=0 from rfl] at z
   clear o
   go_wp2
   go_ret
   exact⟨by rw[E.o];rfl,rfl⟩
  ·rw[if_neg hxy] at E
   have z:=o.o
   rw[show(y==0 && x==0)=false by simp only[Bool.and_eq_false_imp,beq_iff_eq];intro h;simp;intro n;exact hxy ⟨h,n⟩] at z
   clear o
   go_wp2
   go_ret
   exact⟨by rw[E.o];rfl,rfl⟩
 ·subst r
  rw[if_pos (by simp)] at E
  go_wp2
  go_ret
  exact⟨by rw[E.o];rfl,rfl⟩
def xy (x:Int×Int):List Value:=[.int .u64 x.1,.int .i64 x.2]
def WOk (x:Int×Int):Prop:=(0≤x.1∧x.1≤18446744073709551615)∧0≤x.2∧x.2≤1000000000000
theorem Vl:∃d,prog.underlying 127=some d∧d.isRow=true:=jf (by kernel_rfl)
theorem qn:(prog.info? 127).map (·.size)=some 2:=by kernel_rfl
theorem V3 {x:Int×Int}:∀u∈xy x,u.oneCell'=true:=by
 intro u a
 simp only[xy,mem_cons,not_mem_nil,or_false] at a
 rcases a with rfl|rfl<;>rfl
theorem zdk (f:Int) (s:Nat) (c:s≤1000000000000) (w:World):
  Calls prog 162 #[.agg #[.int .u64 f,.int .i64 s]] w λe w'=>e=.returned (.int .u64 ((max s 1:Nat):Int))∧Fr No w w':=by
 by_cases h:1≤s
 ·have m:max s 1=s:=by omega
  have g:max (s:Int) 1=s:=by omega
  have d:¬(s:Int)<1:=by omega
  rw[m]
  have a:=J ((frN w).alloc (.cells #[.int .u64 f,.int .i64 s] 127))
  go_enter Tryz.func162,Tryz.ntmps162
  go_wp2_with fail
  go_ret
  exact⟨rfl,a.o⟩
 ·have b:s=0:=by omega
  subst b
  have a:=J ((frN w).alloc (.cells #[.int .u64 f,.int .i64 ((0:Nat):Int)] 127))
  go_enter Tryz.func162,Tryz.ntmps162
  go_wp2_with fail
  go_ret
  exact⟨rfl,a.o⟩
theorem zms (a b s r:Nat):zjd (a*max r 1) (b*max s 1)=QG ((a:Int),(s:Int)) ((b:Int),(r:Int)):=by
 unfold zjd QG
 have c:(a:Int)*max (r:Int) 1=((a*max r 1:Nat):Int):=by rw[Int.natCast_mul];congr 1;omega
 have d:(b:Int)*max (s:Int) 1=((b*max s 1:Nat):Int):=by rw[Int.natCast_mul];congr 1;omega
 simp only
 rw[c,d]
 generalize a*max r 1=X
 generalize b*max s 1=Y
 by_cases h1:X<Y
 ·have c1:(X:Int)<(Y:Int):=by omega
  rw[if_pos h1,if_pos c1]
 ·have c1:¬(X:Int)<(Y:Int):=by omega
  rw[if_neg h1,if_neg c1]
  by_cases h2:X=Y
  ·have c2:(X:Int)=(Y:Int):=by omega
   rw[if_pos h2,if_pos c2]
  ·have c2:¬(X:Int)=(Y:Int):=by omega
   rw[if_neg h2,if_neg c2]
theorem zaK {x y:Int×Int} (O:WOk x) (P:WOk y) (w:World):
  Calls prog 130 #[.agg (xy x).toArray,.agg (xy y).toArray] w λe w'=>e=.returned (.int .i64 (QG x y))∧Fr No w w':=by
 obtain⟨R,C,B⟩:=Vl
 obtain⟨W,X⟩:=x
 obtain⟨Y,Z⟩:=y
 obtain⟨⟨j,u⟩,k,v⟩:=O
 obtain⟨⟨l,z⟩,m,A⟩:=P
 dsimp only at j u k v l z m A
 obtain⟨a,rfl⟩:=Int.eq_ofNat_of_zero_le j
 obtain⟨s,rfl⟩:=Int.eq_ofNat_of_zero_le k
 obtain⟨b,rfl⟩:=Int.eq_ofNat_of_zero_le l
 obtain⟨r,rfl⟩:=Int.eq_ofNat_of_zero_le m
 have E:=J (zms a b s r)
 have F:=J (((frN w).alloc (.cells (xy ((a:Int),(s:Int))).toArray 127)).alloc (.cells (xy ((b:Int),(r:Int))).toArray 127))
 have d:=J (za (zy w (xy ((a:Int),(s:Int))) 127) ((frN _).alloc (.cells (xy ((b:Int),(r:Int))).toArray 127)) id)
 have f:=@J (((w.alloc (.cells (xy ((a:Int),(s:Int))).toArray 127)).alloc (.cells (xy ((b:Int),(r:Int))).toArray 127)).rangeAt (w.heap.size+1) 0 (xy ((b:Int),(r:Int)))) (by
  have:=zy (w.alloc (.cells (xy ((a:Int),(s:Int))).toArray 127)) (xy ((b:Int),(r:Int))) 127
  simpa using this)
 have G:=J (λw=>zdk b r (by omega) w)
 have H:=J (λw=>zdk a s (by omega) w)
 have D:=J (λw=>zkQ a (max r 1) b (max s 1) (by omega) (by omega) (by omega) (by omega) w)
 clear j u k v l z m A
 unfold xy at*
 generalize max r 1=S at*
 generalize max s 1=ms at*
 go_enter Tryz.func130,Tryz.ntmps130
 go_wp2_with fail
 generalize N:w.heap.size=n at*
 generalize (w.alloc (.cells #[.int .u64 (a:Int),.int .i64 (s:Int)] 127)).alloc (.cells #[.int .u64 (b:Int),.int .i64 (r:Int)] 127)=Q at*
 have i:=J ((frN Q).drew)
 refine wrLx [ff,ff,ff,tt,ff,ff,ff,tt,tt,ff] (λw'=>w'.cell? ⟨n,0,none⟩=some (.int .u64 (a:Int))∧w'.rangeAt n 0 [.int .u64 (a:Int),.int .i64 (s:Int)]∧w'.cell? ⟨n+1,0,none⟩=some (.int .u64 (b:Int))∧w'.rangeAt (n+1) 0 [.int .u64 (b:Int),.int .i64 (r:Int)]) ?_ (λK hK=>?_)
 ·exact⟨za d.o i.o id 0 _ rfl,za d.o i.o id,za f.o i.o id 0 _ rfl,za f.o i.o id⟩
 repeat((first|(refine zl rfl ?_;constructor;constructor;(focus(first|exact xB (ty:=127) rfl (λw h=>h.2.2.2) C B qn|(rintro w' ⟨o,p,q,t⟩;exact goS))))|(refine zm rfl ?_));try simp only[Act.put,pA,pB,pC])
 (refine zF rfl (λK' hK'=>?_))
 go_simp
 refine(G.o _).mono ?_
 rintro e T ⟨rfl,I⟩
 have g:=J (i.o.trans0 I)
 refine nXt hK' ?_ λhS=>?_
 ·exact⟨za d.o g.o id 0 _ rfl,za d.o g.o id,za f.o g.o id 0 _ rfl,za f.o g.o id⟩
 try simp only[Act.put,pA,pB,pC]
 repeat((first|(refine zl rfl ?_;constructor;constructor;(focus(first|exact xB (ty:=127) rfl (λw h=>h.2.1) C B qn|(rintro w' ⟨o,p,q,t⟩;exact goS))))|(refine zm rfl ?_));try simp only[Act.put,pA,pB,pC])
 (refine zF rfl (λK' hK'=>?_))
 go_simp
 refine(H.o _).mono ?_
 rintro e U ⟨rfl,L⟩
 have c:=J (g.o.trans0 L)
 refine nXt hK' ?_ λhS=>?_
 ·exact⟨za d.o c.o id 0 _ rfl,za d.o c.o id,za f.o c.o id 0 _ rfl,za f.o c.o id⟩
 try simp only[Act.put,pA,pB,pC]
 repeat((first|(refine zl rfl ?_;constructor;constructor;(focus(first|(rintro w' ⟨o,p,q,t⟩;exact goS))))|(refine zm rfl ?_));try simp only[Act.put,pA,pB,pC])
 (refine zF rfl (λK' hK'=>?_))
 go_simp
 refine(D.o _).mono ?_
 rintro e V ⟨rfl,M⟩
 subst M
 refine nXt hK' ?_ λhS=>?_
 ·exact⟨za d.o c.o id 0 _ rfl,za d.o c.o id,za f.o c.o id 0 _ rfl,za f.o c.o id⟩
 try simp only[Act.put,pA,pB,pC]
 repeat((first|(refine zl rfl ?_;constructor;constructor;(focus(first|(rintro w' ⟨o,p,q,t⟩;exact goS))))|(refine zm rfl ?_));try simp only[Act.put,pA,pB,pC])
 refine zL (hK.out _ _ ?_)
 go_wp2_with fail
 go_ret
 exact⟨by rw[←E.o];rfl,F.o.trans0 c.o⟩
end
section
open Go.Lib
theorem zjN {x y:Int×Int} (d:WOk x) (f:WOk y) (w:World):
  Calls prog 90 #[.agg (xy x).toArray,.agg (xy y).toArray] w λe w'=>e=.returned (.bool (decide (QG x y<0)))∧Fr No w w':=by
 obtain⟨r,h,g⟩:=Vl
 have C:=J (λw=>zaK d f w)
 have i:=J (((frN w).alloc (.cells (xy x).toArray 127)).alloc (.cells (xy y).toArray 127))
 have o:=J (za (zy w (xy x) 127) ((frN _).alloc (.cells (xy y).toArray 127)) id)
 have p:=@J (((w.alloc (.cells (xy x).toArray 127)).alloc (.cells (xy y).toArray 127)).rangeAt (w.heap.size+1) 0 (xy y)) (by
  have:=zy (w.alloc (.cells (xy x).toArray 127)) (xy y) 127
  simpa using this)
 generalize QG x y=c at*
 generalize a:xy x=X at*
 generalize b:xy y=Y at*
 have m:=@J (X.length=2) (by rw[←a];rfl)
 have n:=@J (Y.length=2) (by rw[←b];rfl)
 clear a b d f
 go_enter Tryz.func90,Tryz.ntmps90
 have⟨j,k,l⟩:=tZ3
 go_wp2_with ((first|((with_reducible refine zt ?_);first|(clear j;with_reducible refine yv 5 ?_;refine zg rfl (z7 (ty:=127) rfl rfl o.o h g (by rw[m.o];exact qn)) ?_)|(clear k;with_reducible refine yv 6 ?_;refine zg rfl (z7 (ty:=127) rfl rfl p.o h g (by rw[n.o];exact qn)) ?_))|(clear l;go_at_call 130;refine(C.o _).mono ?_;rintro e s ⟨rfl,q⟩));go_frame)
 go_ret
 exact⟨rfl,i.o.trans0 q⟩
def Qx (w:World) (v:Value) (l:List (Int×Int)):Prop:=(∀x∈l,WOk x)∧xG w v l.length (l.flatMap xy)
theorem Qx.keep {l:List (Int×Int)} (h:Qx w v l) (f:Fr No w w'):Qx w' v l:=⟨h.1,h.2.keep f⟩
theorem Qx.at_ {l:List (Int×Int)} (h:Qx w v l) {i:Nat} {c:Int×Int} (d:l[i]? =some c):∃b off a,v=.slice (some ⟨b,off,none⟩) l.length a∧w.rangeAt b (off+i*2) (xy c)∧b<w.heap.size:=
 h.2.elem (k:=2) (by decide) (λ_ _=>rfl) d
def Zb (l:List (Int×Int)) (n:Nat):Int:=match Zc l n with
 |none=> -1
 |some k=>k
theorem ziK (w:World) {l:List (Int×Int)} (H:Qx w v l) (X:l.length≤100000):
  Calls prog 89 #[v] w λe w'=>e=.returned (.int .i64 (Zb l l.length))∧Fr No w w':=by
 obtain⟨W,g,f⟩:=Vl
 obtain⟨va,vc,rfl⟩:=H.2.form
 have s:=J H
 clear H
 go_enter Tryz.func89,Tryz.ntmps89
 go_wp2_with fail
 go_loopw [3,8] (λR N wr=>∃n:Nat,N=.int .i64 n∧n≤l.length∧R=.int .i64 (Zb l n)∧Fr No w wr) (λ_ N _=>l.length-(intOf N).toNat)
 case atStart=>exact⟨0,rfl,zero_le _,rfl,Fr.refl _ _⟩
 case round=>
  obtain⟨n,rfl,Z,rfl,fr⟩:=hrel
  have r:=J fr
  clear fr
  by_cases I:n<l.length
  ·have T:(n:Int)<(l.length:Int):=by omega
   obtain⟨x,q⟩:∃x,l[n]? =some x:=⟨_,getElem?_eq_getElem I⟩
   obtain⟨b,off,S,e,M,-⟩:=(s.o.keep r.o).at_ q
   cases e
   have D:=J (s.o.1 x (mem_of_getElem? q))
   have B:=J M
   have m:=J (zy wr (xy x) 127)
   have A:=J (r.o.alloc (.cells (xy x).toArray 127))
   cases hw:Zc l n with
   |none=>
    have a:=@J (Zb l n= -1∧Zb l (n+1)=n) (by unfold Zb;simp only[Zc,hw];exact⟨trivial,trivial⟩)
    rw[a.o.1]
    clear M q hw
    have⟨i,j⟩:=tZ2
    go_wp2_with ((first|((with_reducible refine zt ?_);clear i;refine zg rfl (z7 (ty:=127) rfl rfl B.o g f (show _=some (xy x).length from qn)) ?_)|((with_reducible refine zv ?_);clear j;refine zi rfl (zj (w:=wr) (cs:=xy x) (ty:=127) rfl rfl rfl rfl (show _=some (xy x).length from qn) V3) ?_));go_frame)
    refine wrLx [ff,ff,ff,ff,ff,ff,tt,ff,ff,ff,ff] (λw'=>w'.rangeAt wr.heap.size 0 (xy x)) ?_ (λK hK=>?_)
    ·exact za m.o (frN _).drew id
    repeat((first|(refine zl rfl ?_;constructor;constructor;(focus(first|(rintro w' z;exact goS))))|(refine zm rfl ?_));try simp only[Act.put,pA,pB,pC])
    refine zL (hK.out _ _ ?_)
    go_wp2_with fail
    go_roundw
    case rel=>exact⟨n+1,by simp,by omega,by rw[a.o.2],A.o.drew⟩
    case measure=>simp[intOf];omega
   |some k=>
    have Y:=zaF l n k hw
    obtain⟨y,u⟩:∃y,l[k]? =some y:=⟨_,getElem?_eq_getElem (by omega)⟩
    obtain⟨V,Q,P,o,p,-⟩:=(s.o.keep r.o).at_ u
    injection o with o e3 e4
    injection o with o
    injection o with e5 e6 e7
    subst e5
    subst e6
    have E:=J (s.o.1 y (mem_of_getElem? u))
    have t:=J (za p ((frN wr).alloc (.cells (xy x).toArray 127)) id)
    have C:=J (λw=>zaK D.o E.o w)
    have a:=@J (Zb l n=k∧Zb l (n+1)=if QG x y<0 then(n:Int) else(k:Int)) (by
     unfold Zb
     simp only[Zc,hw,q,u,Option.getD_some]
     refine⟨trivial,?_⟩
     by_cases G:QG x y<0
     ·simp[G]
     ·simp[G])
    rw[a.o.1]
    have i2:¬(k:Int)<0:=by omega
    have i3:(k:Int)<(l.length:Int):=by omega
    clear M p q u hw e4
    generalize G:QG x y=c at*
    by_cases hc0:c<0
    ·rw[if_pos hc0] at a
     have⟨i,j⟩:=tZ2
     go_wp2_with ((first|((with_reducible refine zt ?_);clear i;refine zg rfl (z7 (ty:=127) rfl rfl B.o g f (show _=some (xy x).length from qn)) ?_)|((with_reducible refine zv ?_);clear j;refine zi rfl (zj (w:=wr) (cs:=xy x) (ty:=127) rfl rfl rfl rfl (show _=some (xy x).length from qn) V3) ?_));go_frame)
     refine wrLx [ff,ff,ff,ff,ff,ff,ff,ff,tt,ff,ff] (λw'=>w'.rangeAt wr.heap.size 0 (xy x)∧w'.rangeAt b (off+k*2) (xy y)) ?_ (λK hK=>?_)
     ·exact⟨za m.o (frN _).drew id,za t.o (frN _).drew id⟩
     repeat((first|(refine zl rfl ?_;constructor;constructor;(focus(first|exact xB (ty:=127) rfl (λw h=>h.1) g f (show _=some (xy x).length from qn)|exact xB (ty:=127) rfl (λw h=>h.2) g f (show _=some (xy y).length from qn)|(rintro w' ⟨z,O⟩;exact goS))))|(refine zm rfl ?_));try simp only[Act.put,pA,pB,pC])
     (refine zF rfl (λK' hK'=>?_))
     go_simp
     refine(C.o _).mono ?_
     rintro e U ⟨rfl,F⟩
     have d:=J ((frN _).drew.trans0 F)
     refine nXt hK' ?_ λhS=>?_
     ·exact⟨za m.o d.o id,za t.o d.o id⟩
     try simp only[Act.put,pA,pB,pC]
     repeat((first|(refine zl rfl ?_;constructor;constructor;(focus(first|(rintro w' ⟨z,O⟩;exact goS))))|(refine zm rfl ?_));try simp only[Act.put,pA,pB,pC])
     refine zL (hK.out _ _ ?_)
     go_wp2_with fail
     go_roundw
     case rel=>exact⟨n+1,by simp,by omega,by rw[a.o.2],A.o.trans0 d.o⟩
     case measure=>simp[intOf];omega
    ·rw[if_neg hc0] at a
     have⟨i,j⟩:=tZ2
     go_wp2_with ((first|((with_reducible refine zt ?_);clear i;refine zg rfl (z7 (ty:=127) rfl rfl B.o g f (show _=some (xy x).length from qn)) ?_)|((with_reducible refine zv ?_);clear j;refine zi rfl (zj (w:=wr) (cs:=xy x) (ty:=127) rfl rfl rfl rfl (show _=some (xy x).length from qn) V3) ?_));go_frame)
     refine wrLx [ff,ff,ff,ff,ff,ff,ff,ff,tt,ff,ff] (λw'=>w'.rangeAt wr.heap.size 0 (xy x)∧w'.rangeAt b (off+k*2) (xy y)) ?_ (λK hK=>?_)
     ·exact⟨za m.o (frN _).drew id,za t.o (frN _).drew id⟩
     repeat((first|(refine zl rfl ?_;constructor;constructor;(focus(first|exact xB (ty:=127) rfl (λw h=>h.1) g f (show _=some (xy x).length from qn)|exact xB (ty:=127) rfl (λw h=>h.2) g f (show _=some (xy y).length from qn)|(rintro w' ⟨z,O⟩;exact goS))))|(refine zm rfl ?_));try simp only[Act.put,pA,pB,pC])
     (refine zF rfl (λK' hK'=>?_))
     go_simp
     refine(C.o _).mono ?_
     rintro e U ⟨rfl,F⟩
     have d:=J ((frN _).drew.trans0 F)
     refine nXt hK' ?_ λhS=>?_
     ·exact⟨za m.o d.o id,za t.o d.o id⟩
     try simp only[Act.put,pA,pB,pC]
     repeat((first|(refine zl rfl ?_;constructor;constructor;(focus(first|(rintro w' ⟨z,O⟩;exact goS))))|(refine zm rfl ?_));try simp only[Act.put,pA,pB,pC])
     refine zL (hK.out _ _ ?_)
     go_wp2_with fail
     go_roundw
     case rel=>exact⟨n+1,by simp,by omega,by rw[a.o.2],A.o.trans0 d.o⟩
     case measure=>simp[intOf];omega
  ·have L:n=l.length:=by omega
   have T:¬(n:Int)<(l.length:Int):=by omega
   subst L
   go_wp2_with fail
   go_ret
   exact⟨rfl,r.o⟩
def Z0 (l:List InD):Int:=(l.map λx=>(x.key.length:Int)).sum
theorem zgf {l:List InD} {x:InD} (h:l[n]? =some x):Z0 (l.take (n+1))=Z0 (l.take n)+(x.key.length:Int):=by
 rw[take_add_one,h]
 simp[Z0]
theorem zeP {l:List InD} (h:∀x∈l,x.key.length≤64):0≤Z0 l∧Z0 l≤64*(l.length:Int):=by
 induction l with
 |nil=>simp[Z0]
 |cons x r ih=>
  have b:=ih (λy a=>h y (.tail _ a))
  have c:=h x (.head _)
  have e:Z0 (x::r)=(x.key.length:Int)+Z0 r:=by simp[Z0]
  rw[e,List.length_cons]
  omega
theorem VR (w:World) {t:TxD} (K:TxQ w t cs) (a:qB t=true):
  Calls prog 78 #[.agg cs.toArray] w λe w'=>e=.returned (.tuple #[.int .i64 (qQ t),.int .i64 0])∧Fr No w w':=by
 have S:=J K
 obtain⟨g,h,k,m,rfl,y,hi,ho⟩:=K
 have zI:=Yb
 obtain⟨H,ab,ad⟩:=yZ.1 a
 have o:=J ((frN w).alloc (.cells #[.int .u32 t.ver,.slice g t.ins.length h,.slice k t.outs.length m] 34))
 obtain⟨-,c1,c2,L⟩:=qW w t.ver (.slice g t.ins.length h) (.slice k t.outs.length m)
 have M:=J c1
 have N:=J c2
 have R0:=J L
 have R:=J (hi.keep0 o.o)
 have s:=zbD (w.alloc (.cells #[.int .u32 t.ver,.slice g t.ins.length h,.slice k t.outs.length m] 34)) (S.o.keep o.o)
 rw[a] at s
 have Q:=J s
 have D:=J (λn=>zeP (l:=t.ins.take n) (λx f=>H x (List.mem_of_mem_take f)))
 have A:=@J (qQ t=6+37*(t.ins.length:Int)+40*(t.outs.length:Int)+Z0 t.ins) (rfl)
 clear hi ho y c1 c2 L H s a
 show Calls prog 78 #[.agg #[.int .u32 t.ver,.slice g t.ins.length h,.slice k t.outs.length m]] w _
 go_enter Tryz.func78,Tryz.ntmps78
 generalize ae:w.alloc (.cells #[.int .u32 t.ver,.slice g t.ins.length h,.slice k t.outs.length m] 34)=w1 at*
 obtain⟨B,r⟩:∃B:Int,B=6+37*(t.ins.length:Int)+40*(t.outs.length:Int):=⟨_,rfl⟩
 have Z:(37:Int)*(t.ins.length:Int)=37*(t.ins.length:Int):=rfl
 go_wp2_with (first|(refine zoa rfl rfl rfl R0.o rfl ?_)|(go_at_call 66;refine Q.o.mono ?_;rintro e w2 ⟨rfl,G⟩;have p:=J G;clear G;have d1:=p.o.cell M.o id;have d2:=p.o.cell N.o id))
 clear Z
 rw[←r]
 rw[←r] at A
 have P:=@J (6≤B∧B≤622) (by omega)
 have aa:=P.o
 clear r
 go_loopw [4,23] (λnv z wr=>∃n:Nat,z=.int .i64 n∧n≤t.ins.length∧nv=.int .i64 (B+Z0 (t.ins.take n))∧Fr No w1 wr) (λ_ z _=>t.ins.length-(intOf z).toNat)
 case atStart=>exact⟨0,rfl,zero_le _,by simp[Z0],p.o⟩
 case round=>
  obtain⟨n,rfl,hn,rfl,fr⟩:=hrel
  have q:=J fr
  have V:=D.o n
  rw[length_take] at V
  clear fr
  by_cases u:n<t.ins.length
  ·have i1:(n:Int)<(t.ins.length:Int):=by omega
   obtain⟨x,f⟩:∃x,t.ins[n]? =some x:=⟨_,getElem?_eq_getElem u⟩
   obtain⟨b,off,Y,cs,y,I,i,j,rfl,c,d⟩:=(R.o.keep0 q.o).at_ f
   cases y
   have W:=J I
   have C:=J (vC c (.slice i x.key.length j))
   have X:=(Xr wr (kv:=.slice i x.key.length j) c).2
   have O:=J (q.o.alloc (.cells (inC x.from_ (.slice i x.key.length j)).toArray 108))
   have F:=J (zgf f)
   have U:=D.o (n+1)
   rw[F.o,length_take] at U
   clear I d c f
   generalize Z0 (t.ins.take n)=T at*
   go_wp2_with (first|(refine zn9 rfl rfl rfl W.o C.o ?_)|(refine zoj (w:=wr) (cs:=inC x.from_ (.slice i x.key.length j)) rfl rfl rfl rfl C.o Jj ?_;generalize wr.alloc (.cells (inC x.from_ (.slice i x.key.length j)).toArray 108)=wA at*))
   go_roundw
   case rel=>exact⟨n+1,by go_num,by omega,by rw[F.o];go_num,O.o⟩
   case measure=>simp[intOf];omega
  ·have v:n=t.ins.length:=by omega
   have i1:¬(n:Int)<(t.ins.length:Int):=by omega
   have E:=A
   subst v
   go_wp2_with fail
   go_ret2
   exact⟨by rw[E.o];rfl,o.o.trans0 q.o⟩
end
end Go.Proofs.YtdkkjchclkjleaaGreatDoor
