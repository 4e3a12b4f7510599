/- kin: walk. -/
import Derived.Deep.LoopGhost
import Derived.Shelf.SlSortCmp.WholeK
import Derived.Test.YtdkkjchclkjleaaGreatDoorProg
import Derived.Shelf.SlSortCmp.NoneTotal
import Derived.Laws.MakeOwn
import Derived.Test.YtdkkjchclkjleaaGreatDoorSC6
import Derived.Test.YtdkkjchclkjleaaGreatDoorSC3
import Derived.Test.YtdkkjchclkjleaaGreatDoorSC1
import Derived.Test.YtdkkjchclkjleaaGreatDoorSC5
set_option linter.unusedVariables false
set_option linter.unusedSimpArgs false
set_option linter.unnecessarySimpa false
set_option linter.all false
set_option maxRecDepth 20000
set_option maxHeartbeats 16000000
namespace Go.Proofs.YtdkkjchclkjleaaGreatDoor
open Go Go.RowKit Go.Maps Go.MapKept
open Go.Proofs.Tryz(prog)
open List(mem_map getElem?_eq_getElem mem_append mem_of_getElem? mem_cons length_append length_map mem_singleton take_length mem_filter map_append nodup_cons map_cons nodup_append flatMap_append filter_eq_self size_toArray map_map map_congr_left filter_map)
open Nat(le_refl zero_le le_trans lt_of_lt_of_le)
def zaU (c:Int):Value:=.int .i64 c
abbrev JT (w:World) (b:Nat) (M:List (zd×Int)):=yD prog 41 xp zaU w b M
def jI (up:Bool) (G:List yW) (x:zd):List zd:=if up then par G x else kid G x
noncomputable def zdP (up:Bool) (G:List yW) (l:List zd):List zd:=if up then upS G l else vl G l
theorem zhY {G:List yW} (h:GOk G) {d:Bool} {l:List zd} {x:zd}:x∈zdP d G l↔∃a∈l,Rch (jI d G) (· ∈ids G) a x:=by
 cases d with
 |true=>exact zdH
 |false=>
  refine Yt.trans ⟨λ⟨a,b,c⟩=>⟨a,b,(zgF h).2 c⟩,λ⟨a,b,c⟩=>⟨a,b,(zgF h).1 c⟩⟩
theorem zeZ {G:List yW} (h:GOk G) (a:Bool) (x:zd):(jI a G x).length≤G.length:=by
 cases a
 ·exact za7 x
 ·exact zdL h x
structure WlK (w wr:World) (b:Nat) (tv:Value) (M:List (zd×Int)) (T vis:List zd) (up:Bool) (G:List yW) (l:List zd):Prop where
 own:wr.ownsRow w.heap.size 41 32 tv T.length (T.flatMap zf)
 ok:∀x∈T,zX x
 map:JT wr b M
 mem:∀k c,(k,c)∈M↔c=1∧k∈vis
 wl:Wl (jI up G) (· ∈ids G) l T vis
 cnt:M.length+T.length+wlW (jI up G) vis (ids G)≤l.length+G.length*G.length
 fr:Fr No w wr
 apart:∀j,tv.ownBlock=some j→j≠b
section
variable {w0 w:World} {p N:Nat} {V:Nat→Prop} {G:List yW}
theorem za8 {wr:World} {b:Nat} {M:List (zd×Int)} {vis:List zd} (a:JT wr b M) (d:∀k c,(k,c)∈M↔c=1∧k∈vis) {x:zd} (f:zX x):
  (Instr.lookup 120 (.map (some b)) (xp x) false).run prog wr=.ok (.int .i64 (if x∈vis then 1 else 0)) wr:=by
 by_cases h:x∈vis
 ·have:=a.look xT.keyed jo (λ_ _=>yY) zky (yq f) false (r:=some 1) (λv=>by
   rw[d];exact⟨λe=>⟨(Option.some.inj e).symm,h⟩,λe=>by rw[e.1]⟩)
  rw[if_pos h]
  simpa[zaU] using this
 ·have:=a.look xT.keyed jo (λ_ _=>yY) zky (yq f) false (r:=none) (λv=>by
   rw[d];exact⟨λe=>(by cases e),λe=>absurd e.2 h⟩)
  rw[if_neg h]
  simpa using this
theorem zbD {T:List zd} {x:zd} (h:∀y∈T++[x],zX y):((T++[x]).flatMap zf).take (T.length*32)=T.flatMap zf:=by
 have b:=Zj (l:=T) (λy a=>h y (by simp[a]))
 rw[flatMap_append,List.take_append_of_le_length (by omega),List.take_of_length_le (by omega)]
theorem WlK.own0 {w wr:World} {b g a:Nat} {M:List (zd×Int)} {T vis:List zd} {x:zd} {d:Bool} {l:List zd} (h:WlK w wr b (.slice (some ⟨g,0,none⟩) (T.length+1) a) M (T++[x]) vis d G l):wr.ownsRow w.heap.size 41 32 (.slice (some ⟨g,0,none⟩) (T.length+1) a) (T.length+1) ((T++[x]).flatMap zf):=by
 have c:=h.own
 rwa [show(T++[x]).length=T.length+1 by simp] at c
theorem WlK.pop {w wr wr':World} {b g e:Nat} {M:List (zd×Int)} {T vis:List zd} {x:zd} {i:Bool} {l:List zd} (h:WlK w wr b (.slice (some ⟨g,0,none⟩) (T.length+1) e) M (T++[x]) vis i G l) (f:Fr No wr wr') (o:¬x∈ids G∨x∈vis):WlK w wr' b (.slice (some ⟨g,0,none⟩) T.length e) M T vis i G l:=by
 have d:=h.own
 have a:(T++[x]).length=T.length+1:=by simp
 rw[a] at d
 have c:=Zs d (m:=T.length) (by omega)
 rw[zbD h.ok] at c
 have k:=h.cnt
 rw[a] at k
 exact⟨zb c f (λ_ _=>id),λy q=>h.ok y (by simp[q]),h.map.keep f id,h.mem,h.wl.skip o,by omega,h.fr.trans0 f,λj n=>h.apart j n⟩
theorem WlK.next {w wr wr':World} {b g C:Nat} {M M':List (zd×Int)} {T vis:List zd} {x:zd} {a:Bool} {l:List zd} {tv:Value} {U:Nat→Prop} (h:WlK w wr b (.slice (some ⟨g,0,none⟩) (T.length+1) C) M (T++[x]) vis a G l) (nd:(ids G).Nodup) (o:x∈ids G) (B:x∉vis) (r:Upd M x 1 M') (D:M'.length≤M.length+1) (v:JT wr' b M') (A:wr'.ownsRow w.heap.size 41 32 tv (T.length+(jI a G x).length) (T.flatMap zf++(jI a G x).flatMap zf)) (hok:∀y∈jI a G x,zX y) (z:∀j,tv.ownBlock=some j→j=g∨wr.heap.size≤j) (f:Fr U wr wr') (s:∀j,U j→w.heap.size≤j):WlK w wr' b tv M' (T++jI a G x) (x::vis) a G l:=by
 have d:(T++[x]).length=T.length+1:=by simp
 have t:=h.cnt
 rw[d] at t
 have F:=Qb (E:=jI a G) B nd o
 refine⟨by rw[length_append,flatMap_append];exact A,λy m=>?_,v,λk c=>?_,h.wl.visit o,by rw[length_append];omega,h.fr.trans f (λi hi e=>by have:=s i e;omega),λj u e=>?_⟩
 ·rcases mem_append.1 m with m|m
  ·exact h.ok y (by simp[m])
  ·exact hok y m
 ·rw[r,h.mem]
  constructor
  ·rintro(⟨rfl,rfl⟩|⟨_,n,q⟩)
   ·exact⟨rfl,by simp⟩
   ·exact⟨n,by simp[q]⟩
  ·rintro⟨rfl,n⟩
   by_cases e:k=x
   ·exact .inl ⟨e,rfl⟩
   ·exact .inr ⟨e,rfl,(mem_cons.1 n).elim (λh=>absurd h e) id⟩
 ·rcases z j u with rfl|h1
  ·exact h.apart j rfl e
  ·have:=h.map.lt
   omega
theorem zgx (h:GC w0 w p V G N) (hN:N≤1000) {v:Value} {l:List zd} (hl:y3 w v l) (aB:l.length≤1000) (F:Bool):
  Calls prog 93 #[.pointer (some ⟨p,0,none⟩),v,.bool F] w λe w'=>∃b M,e=.returned (.map (some b))∧JT w' b M∧(∀k c,(k,c)∈M↔c=1∧k∈zdP F G l)∧w.heap.size≤b∧Fr No w w':=by
 obtain⟨dK,uK,rK⟩:=Zx
 obtain⟨m,sq,L,hr,-,hG,aq,-⟩:=h.ex
 have GK:=J h.gok
 have GL:=J (le_trans h.len hN)
 have HI:=@J (ids G=L.map (·.id)) (by rw[←hG];simp[ids,Function.comp])
 have HP:=@J (∀r∈L,par G r.id=r.ps) (λr aw=>JC h.gok (n:=⟨r.id,r.ps⟩) (by rw[←hG];exact mem_map.2 ⟨r,aw,rfl⟩))
 have HK:=J aq
 have HR:=J hr
 have HL:=J hl
 have SQ:=@J (G.length*G.length≤1000*1000) (Nat.mul_le_mul GL.o GL.o)
 obtain⟨va,vc,rfl⟩:=hl.2.form
 have f1:Fr No w (w.alloc (.map #[] 0)):=(frN w).alloc _
 have HC:=J (YJ (w.alloc (.map #[] 0)) (hl.keep f1) (by omega))
 have ak:=@J (JT (w.alloc (.map #[] 0)) w.heap.size []) (yD.made w)
 have F1:=J f1
 have m1:=zaw
 have ae:=(Q0 hr.obj).1
 clear h hr hG aq hl f1
 go_enter Tryz.func93,Tryz.ntmps93
 go_wp2_with (go_at_call 42;refine HC.o.mono ?_;rintro e w2 ⟨ax,rfl,o2,f2⟩;have O2:=J o2;have F2:=J (F1.o.trans0 f2);have al:=J (ak.o.keep f2 id);clear o2 f2)
 have ST:WlK w w2 w.heap.size ax [] l [] F G l:=⟨⟨O2.o.1,O2.o.2.imp id (λ⟨g,cp,an,a1,a2,a3⟩=>⟨g,cp,an,a1,le_trans F1.o.size a2,a3⟩)⟩,HL.o.1,al.o,by simp,Wl.init l,by
  have:=zku (E:=jI F G) (vis:=[]) (l:=ids G) (k:=G.length) (λx _=>zeZ GK.o F x)
  rw[show(ids G).length=G.length by simp[ids]] at this
  simp only[List.length_nil];omega,F2.o,λj H e=>by
  have:=(O2.o.lt j H).1
  rw[e] at this
  simp at this
  omega⟩
 have au:=J ST
 clear m1 HC O2 ak al ST
 generalize ag:w.heap.size=b at*
 go_loopg [8] (l.length+wlW (jI F G) [] (ids G)) (λg tv wr=>∃(T vis:List zd) (M:List (zd×Int)),WlK w wr b tv M T vis F G l∧g=T.length+wlW (jI F G) vis (ids G))
 case atStart=>exact⟨l,[],[],au.o,rfl⟩
 case round=>
  obtain⟨T,vis,M,hk,ao⟩:=hrel
  have Q:=J hk
  obtain⟨ta,tc,e⟩:=hk.own.slice.arg.form
  subst e
  clear hk
  rcases List.eq_nil_or_concat T with rfl|⟨s,x,rfl⟩
  ·have DN:=J (λk c=>(Q.o.mem k c).trans (and_congr Iff.rfl ((Q.o.wl.done k).trans (zhY GK.o).symm)))
   go_wp2_with fail
   go_ret
   exact⟨b,M,by rfl,Q.o.map,DN.o,by rw[ag];exact le_refl _,Q.o.fr⟩
  ·rw[List.concat_eq_append] at*
   have u:(s++[x]).length=s.length+1:=by simp
   rw[u]
   have hT:s.length≤1001000:=by have:=Q.o.cnt;have:=SQ.o;rw[u] at*;omega
   have i1:(0:Int)<((s.length+1:Nat):Int):=by omega
   have hx:(s++[x])[s.length]? =some x:=by simp
   obtain⟨g,rfl⟩:∃g,ta=some ⟨g,0,none⟩:=by
    rcases Q.o.own.2 with⟨_,h0⟩|⟨g,cp,an,e,_⟩
    ·simp at h0
    ·injection e with e1;exact⟨g,e1⟩
   obtain⟨g',off,aA,hv,ai,av⟩:=(y3.own Q.o.own Q.o.ok).at_ hx
   cases hv
   rw[Nat.zero_add] at ai
   have R1:=J ai
   have B:=J (Q.o.ok x (by simp))
   have d:=J (zx B.o)
   have FA:=J ((frN wr).alloc (.cells (zf x).toArray 41))
   have RN:=J (zy wr (zf x) 41)
   have FD:=J ((Q.o.fr.trans0 FA.o).drew)
   have FE:=J (FA.o.drew)
   have KM:=J (λ(w':World) (f:Fr No w w')=>HR.o.keepM f)
   have a:=@J (WlK w wr b (.slice (some ⟨g,0,none⟩) (s.length+1) tc) M (s++[x]) vis F G l) (by have:=Q.o;rwa [u] at this)
   have az:gk=s.length+1+wlW (jI F G) vis (ids G):=by rw[ao,u]
   have ay:s.length+1≤tc:=y7.cap (n:=s.length+1) (by have:=a.o.own.slice.arg;rwa [u] at this)
   have i2:(s.length:Int)≤(tc:Int):=by omega
   clear ai av hx ao
   by_cases hin:x∈ids G
   ·have S:=hin
    rw[HI.o] at S
    obtain⟨r,hr,rfl⟩:=mem_map.1 S
    have K1:=J ((HR.o.run_look B.o false rfl).1 r hr rfl)
    have ND:=J (HR.o.node r hr)
    have RR:=J hr
    have IN:=J hin
    clear hin S hr
    unfold Qi at K1
    unfold xp at K1
    generalize ar:r.id=x at*
    by_cases hv:x∈vis
    ·have LI:=J (za8 (a.o.map.keep FE.o id) a.o.mem B.o)
     rw[if_pos hv] at LI
     unfold xp at LI
     have WZ:=J (a.o.pop FE.o (.inr hv))
     clear hv
     go_wp2_with (first|(refine zn3 rfl rfl rfl R1.o d.o ?_)|(refine zi rfl (zm (w:=wr) (cs:=zf x) (ty:=41) rfl rfl rfl (by rw[d.o];rfl) (by rw[d.o];exact yp) zS) ?_))
     generalize ah:wr.heap.size=q at*
     generalize wr.alloc (.cells (zf x).toArray 41)=w1 at*
     refine wrLx [ff,ff,ff,ff,ff,ff,ff] (λw'=>w'.cell? ⟨p,0,none⟩=some (.map (some m))∧w'.rangeAt q 0 (zf x)∧(∀M,qH w m M→qH w' m M)) ?_ (λK hK=>?_)
     ·exact⟨FD.o.cell ae id,za RN.o (frN _).drew id,KM.o _ FD.o⟩
     repeat((first|(refine zj rfl ?_;constructor;constructor;(focus(first|exact zn7 rfl (λw h=>h.2.1) d.o|exact λw' h=>zQ (t:=197) rfl rfl rfl (K1.o w' h.2.2)|(rintro w' ⟨s1,s2,s3⟩;go_simp;(try with_reducible rfl);done))))|(refine zl rfl ?_));try simp only[Act.put,pA,pB,pC])
     refine zL (hK.out _ _ ?_)
     have A:=J (za RN.o (frN w1).drew id)
     go_wp2_with (first|(refine qz (o:=⟨some 38,_,_,_,_,_⟩) rfl (zZ (ty:=41) rfl rfl A.o uK rK (by rw[d.o];exact yp)) ?_)|(refine qz (o:=⟨some 39,_,_,_,_,_⟩) rfl (zQ (t:=120) rfl rfl rfl LI.o) ?_))
     go_roundg (s.length+wlW (jI F G) vis (ids G))
     case measure=>omega
     case rel=>exact⟨s,vis,M,WZ.o,rfl⟩
    ·have LI:=J (za8 (a.o.map.keep FE.o id) a.o.mem B.o)
     rw[if_neg hv] at LI
     unfold xp at LI
     have NV:=J hv
     have RO:=@J (zX r.id∧(∀y∈r.ps,zX y)∧∀y∈r.ks,zX y) (HR.o.ok r RR.o)
     have NL:=J (zeZ GK.o F x)
     clear hv
     cases F with
     |true=>
      have NE:=@J (jI true G x=r.ps) (by rw[←ar];exact HP.o r RR.o)
      have PL:=@J (r.ps.length≤1000) (by rw[←NE.o];have:=NL.o;have:=GL.o;omega)
      go_wp2_with (first|(refine zn3 rfl rfl rfl R1.o d.o ?_)|(refine zi rfl (zm (w:=wr) (cs:=zf x) (ty:=41) rfl rfl rfl (by rw[d.o];rfl) (by rw[d.o];exact yp) zS) ?_))
      generalize ah:wr.heap.size=q at*
      generalize wr.alloc (.cells (zf x).toArray 41)=w1 at*
      refine wrLx [ff,ff,ff,ff,ff,ff,ff] (λw'=>w'.cell? ⟨p,0,none⟩=some (.map (some m))∧w'.rangeAt q 0 (zf x)∧(∀M,qH w m M→qH w' m M)) ?_ (λK hK=>?_)
      ·exact⟨FD.o.cell ae id,za RN.o (frN _).drew id,KM.o _ FD.o⟩
      repeat((first|(refine zj rfl ?_;constructor;constructor;(focus(first|exact zn7 rfl (λw h=>h.2.1) d.o|exact λw' h=>zQ (t:=197) rfl rfl rfl (K1.o w' h.2.2)|(rintro w' ⟨s1,s2,s3⟩;go_simp;(try with_reducible rfl);done))))|(refine zl rfl ?_));try simp only[Act.put,pA,pB,pC])
      refine zL (hK.out _ _ ?_)
      have A:=J (za RN.o (frN w1).drew id)
      obtain⟨w3,M',ad,X,z,ab,Y⟩:=(a.o.map.keep FE.o id).upd xT.keyed jo (λ_ _=>yY) (yq B.o) (show M.length<maxLen by unfold maxLen;have:=a.o.cnt;have:=SQ.o;omega) 1
      have F3:=@J (Fr (· =b) wr w3) ((FE.o.of0 (W:=(· =b))).trans ab.fr (λ_ _ h=>h))
      have I:=@J (Fr No w w3) (a.o.fr.trans F3.o (λi hi e=>by subst e;omega))
      obtain⟨xa,xc,D⟩:=ND.o.prow.slice.arg.form
      have NA:=J (ND.o.keep I.o (λ_ _=>id))
      have cx:=(Y7 NA.o.blk).2.1
      rw[D] at cx
      have C:=zb (Zs a.o.own0 (m:=s.length) (by omega)) F3.o (λj H=>a.o.apart j H)
      rw[zbD a.o.ok] at C
      obtain⟨aj,w4,R,aa,f4,Z⟩:=Xz (P:=prog) w3 w.heap.size 38 38 41 32 32 _ qi qI rfl (by decide) _ _ _ C (.slice xa _ xc) _ _ (by rw[←D];exact NA.o.prow.slice) (Zj RO.o.2.1) Zk (by have:=PL.o;omega) (by unfold maxLen;have:=PL.o;omega) (by rw[ag];have:=I.o.size;omega)
      have O:=J ad
      have af:=J R
      have WZ:=J (a.o.next (tv:=aj) (M':=M') (wr':=w4) (U:=λj=>j=b∨j=g) GK.o.nd IN.o NV.o z Y (X.keep f4 (λe=>a.o.apart b e rfl)) (by rw[NE.o];exact aa) (by rw[NE.o];exact RO.o.2.1) (λj H=>(Z j H).elim (λh=>.inl (by simpa[Value.ownBlock] using h.symm)) (λh=>.inr (by have:=F3.o.size;omega))) ((F3.o.mono (λ_ h=>.inl h)).trans f4 (λi _ h=>.inr (by simpa[Value.ownBlock] using h.symm))) (λj H=>H.elim (λe=>by omega) (λe=>by have:=(a.o.own0.lt g rfl).1;omega)))
      clear ad R z Y X ab D C aa f4 Z
      unfold xp zaU at O
      go_wp2_with (first|(refine qz (o:=⟨some 38,_,_,_,_,_⟩) rfl (zZ (ty:=41) rfl rfl A.o uK rK (by rw[d.o];exact yp)) ?_)|(refine qz (o:=⟨some 39,_,_,_,_,_⟩) rfl (zQ (t:=120) rfl rfl rfl LI.o) ?_)|(refine zn3 rfl rfl rfl A.o d.o ?_)|(refine zi rfl (y4 rfl rfl rfl rfl O.o) ?_)|(at_builtin;refine zR rfl rfl rfl rfl af.o ?_))
      go_roundg (s.length+(jI true G x).length+wlW (jI true G) (x::vis) (ids G))
      case measure=>have:=Qb (E:=jI true G) NV.o GK.o.nd IN.o;omega
      case rel=>exact⟨_,_,M',WZ.o,by rw[length_append]⟩
     |false=>
      have NE:=@J (jI false G x=r.ks) (by rw[←ar];exact(HK.o r RR.o).symm)
      have PL:=@J (r.ks.length≤1000) (by rw[←NE.o];have:=NL.o;have:=GL.o;omega)
      go_wp2_with (first|(refine zn3 rfl rfl rfl R1.o d.o ?_)|(refine zi rfl (zm (w:=wr) (cs:=zf x) (ty:=41) rfl rfl rfl (by rw[d.o];rfl) (by rw[d.o];exact yp) zS) ?_))
      generalize ah:wr.heap.size=q at*
      generalize wr.alloc (.cells (zf x).toArray 41)=w1 at*
      refine wrLx [ff,ff,ff,ff,ff,ff,ff] (λw'=>w'.cell? ⟨p,0,none⟩=some (.map (some m))∧w'.rangeAt q 0 (zf x)∧(∀M,qH w m M→qH w' m M)) ?_ (λK hK=>?_)
      ·exact⟨FD.o.cell ae id,za RN.o (frN _).drew id,KM.o _ FD.o⟩
      repeat((first|(refine zj rfl ?_;constructor;constructor;(focus(first|exact zn7 rfl (λw h=>h.2.1) d.o|exact λw' h=>zQ (t:=197) rfl rfl rfl (K1.o w' h.2.2)|(rintro w' ⟨s1,s2,s3⟩;go_simp;(try with_reducible rfl);done))))|(refine zl rfl ?_));try simp only[Act.put,pA,pB,pC])
      refine zL (hK.out _ _ ?_)
      have A:=J (za RN.o (frN w1).drew id)
      obtain⟨w3,M',ad,X,z,ab,Y⟩:=(a.o.map.keep FE.o id).upd xT.keyed jo (λ_ _=>yY) (yq B.o) (show M.length<maxLen by unfold maxLen;have:=a.o.cnt;have:=SQ.o;omega) 1
      have F3:=@J (Fr (· =b) wr w3) ((FE.o.of0 (W:=(· =b))).trans ab.fr (λ_ _ h=>h))
      have I:=@J (Fr No w w3) (a.o.fr.trans F3.o (λi hi e=>by subst e;omega))
      obtain⟨xa,xc,D⟩:=ND.o.crow.slice.arg.form
      have NA:=J (ND.o.keep I.o (λ_ _=>id))
      have cx:=(Y7 NA.o.blk).2.2
      rw[D] at cx
      have C:=zb (Zs a.o.own0 (m:=s.length) (by omega)) F3.o (λj H=>a.o.apart j H)
      rw[zbD a.o.ok] at C
      obtain⟨aj,w4,R,aa,f4,Z⟩:=Xz (P:=prog) w3 w.heap.size 38 38 41 32 32 _ qi qI rfl (by decide) _ _ _ C (.slice xa _ xc) _ _ (by rw[←D];exact NA.o.crow.slice) (Zj RO.o.2.2) Zk (by have:=PL.o;omega) (by unfold maxLen;have:=PL.o;omega) (by rw[ag];have:=I.o.size;omega)
      have O:=J ad
      have af:=J R
      have WZ:=J (a.o.next (tv:=aj) (M':=M') (wr':=w4) (U:=λj=>j=b∨j=g) GK.o.nd IN.o NV.o z Y (X.keep f4 (λe=>a.o.apart b e rfl)) (by rw[NE.o];exact aa) (by rw[NE.o];exact RO.o.2.2) (λj H=>(Z j H).elim (λh=>.inl (by simpa[Value.ownBlock] using h.symm)) (λh=>.inr (by have:=F3.o.size;omega))) ((F3.o.mono (λ_ h=>.inl h)).trans f4 (λi _ h=>.inr (by simpa[Value.ownBlock] using h.symm))) (λj H=>H.elim (λe=>by omega) (λe=>by have:=(a.o.own0.lt g rfl).1;omega)))
      clear ad R z Y X ab D C aa f4 Z
      unfold xp zaU at O
      go_wp2_with (first|(refine qz (o:=⟨some 38,_,_,_,_,_⟩) rfl (zZ (ty:=41) rfl rfl A.o uK rK (by rw[d.o];exact yp)) ?_)|(refine qz (o:=⟨some 39,_,_,_,_,_⟩) rfl (zQ (t:=120) rfl rfl rfl LI.o) ?_)|(refine zn3 rfl rfl rfl A.o d.o ?_)|(refine zi rfl (y4 rfl rfl rfl rfl O.o) ?_)|(at_builtin;refine zR rfl rfl rfl rfl af.o ?_))
      go_roundg (s.length+(jI false G x).length+wlW (jI false G) (x::vis) (ids G))
      case measure=>have:=Qb (E:=jI false G) NV.o GK.o.nd IN.o;omega
      case rel=>exact⟨_,_,M',WZ.o,by rw[length_append]⟩
   ·have K1:=J ((HR.o.run_look B.o false rfl).2 (by rw[←HI.o];exact hin))
    have WZ:=J (a.o.pop FE.o (.inl hin))
    clear hin
    unfold xp at K1
    go_wp2_with (first|(refine zn3 rfl rfl rfl R1.o d.o ?_)|(refine zi rfl (zm (w:=wr) (cs:=zf x) (ty:=41) rfl rfl rfl (by rw[d.o];rfl) (by rw[d.o];exact yp) zS) ?_))
    generalize ah:wr.heap.size=q at*
    generalize wr.alloc (.cells (zf x).toArray 41)=w1 at*
    refine wrLx [ff,ff,ff,ff,ff,ff,ff] (λw'=>w'.cell? ⟨p,0,none⟩=some (.map (some m))∧w'.rangeAt q 0 (zf x)∧(∀M,qH w m M→qH w' m M)) ?_ (λK hK=>?_)
    ·exact⟨FD.o.cell ae id,za RN.o (frN _).drew id,KM.o _ FD.o⟩
    repeat((first|(refine zj rfl ?_;constructor;constructor;(focus(first|exact zn7 rfl (λw h=>h.2.1) d.o|exact λw' h=>zQ (t:=197) rfl rfl rfl (K1.o w' h.2.2)|(rintro w' ⟨s1,s2,s3⟩;go_simp;(try with_reducible rfl);done))))|(refine zl rfl ?_));try simp only[Act.put,pA,pB,pC])
    refine zL (hK.out _ _ ?_)
    go_wp2_with fail
    go_roundg (s.length+wlW (jI F G) vis (ids G))
    case measure=>omega
    case rel=>exact⟨s,vis,M,WZ.o,rfl⟩
end
end Go.Proofs.YtdkkjchclkjleaaGreatDoor
namespace Go.Proofs
open Go.Shelf
def Tryz.laysK_ren:Go.Shelf.Ren:=⟨fun|6=>138|15=>168|14=>167|28=>194|29=>195|20=>186|21=>187|22=>188|23=>189|24=>190|25=>191|26=>192|27=>193|46=>203|47=>204|48=>205|49=>206|50=>207|57=>208|n=>n,fun|22=>38|24=>41|25=>258|3=>3|39=>245|0=>0|53=>31|55=>48|4=>4|46=>303|45=>302|50=>307|5=>5|9=>9|66=>319|70=>322|76=>324|77=>325|n=>n,fun|n=>n⟩
theorem Tryz.laysK:Go.Proofs.SlLaysF0.n6 Tryz.prog Tryz.laysK_ren:={
 mixed:=by kernel_rfl
 f6:=⟨Tryz.f138.name,by decide,Tryz.func138.trans (congrArg some (by kernel_rfl))⟩
 f14:=⟨Tryz.f167.name,by decide,Tryz.func167.trans (congrArg some (by kernel_rfl))⟩
 f15:=Tryz.func168.trans (congrArg some (by kernel_rfl))
 f20:=⟨Tryz.f186.name,by decide,Tryz.func186.trans (congrArg some (by kernel_rfl))⟩
 f21:=⟨Tryz.f187.name,by decide,Tryz.func187.trans (congrArg some (by kernel_rfl))⟩
 f22:=⟨Tryz.f188.name,by decide,Tryz.func188.trans (congrArg some (by kernel_rfl))⟩
 f23:=⟨Tryz.f189.name,by decide,Tryz.func189.trans (congrArg some (by kernel_rfl))⟩
 f24:=⟨Tryz.f190.name,by decide,Tryz.func190.trans (congrArg some (by kernel_rfl))⟩
 f25:=⟨Tryz.f191.name,by decide,Tryz.func191.trans (congrArg some (by kernel_rfl))⟩
 f26:=⟨Tryz.f192.name,by decide,Tryz.func192.trans (congrArg some (by kernel_rfl))⟩
 f27:=⟨Tryz.f193.name,by decide,Tryz.func193.trans (congrArg some (by kernel_rfl))⟩
 f28:=Tryz.func194.trans (congrArg some (by kernel_rfl))
 f29:=Tryz.func195.trans (congrArg some (by kernel_rfl))
 f46:=⟨Tryz.f203.name,by decide,Tryz.func203.trans (congrArg some (by kernel_rfl))⟩
 f47:=Tryz.func204.trans (congrArg some (by kernel_rfl))
 f48:=Tryz.func205.trans (congrArg some (by kernel_rfl))
 f49:=⟨Tryz.f206.name,by decide,Tryz.func206.trans (congrArg some (by kernel_rfl))⟩
 f50:=⟨Tryz.f207.name,by decide,Tryz.func207.trans (congrArg some (by kernel_rfl))⟩
 f57:=⟨Tryz.f208.name,by decide,Tryz.func208.trans (congrArg some (by kernel_rfl))⟩
 t0:=Tryz.underlying0
 a0:=Tryz.isAgg0
 z0:=Tryz.sizeOf0
 v0:=Tryz.zeroValue0
 t3:=Tryz.underlying3
 a3:=Tryz.isAgg3
 z3:=Tryz.sizeOf3
 v3:=Tryz.zeroValue3
 t4:=Tryz.underlying4
 a4:=Tryz.isAgg4
 z4:=Tryz.sizeOf4
 v4:=Tryz.zeroValue4
 t5:=Tryz.underlying5
 a5:=Tryz.isAgg5
 z5:=Tryz.sizeOf5
 v5:=Tryz.zeroValue5
 t9:=Tryz.underlying9
 a9:=Tryz.isAgg9
 z9:=Tryz.sizeOf9
 v9:=Tryz.zeroValue9
 t22:=Tryz.underlying38
 a22:=Tryz.isAgg38
 z22:=Tryz.sizeOf38
 v22:=Tryz.zeroValue38
 t25:=Tryz.underlying258
 a25:=Tryz.isAgg258
 z25:=Tryz.sizeOf258
 v25:=Tryz.zeroValue258
 t39:=Tryz.underlying245
 a39:=Tryz.isAgg245
 z39:=Tryz.sizeOf245
 v39:=Tryz.zeroValue245
 t45:=Tryz.underlying302
 a45:=Tryz.isAgg302
 z45:=Tryz.sizeOf302
 v45:=Tryz.zeroValue302
 t46:=Tryz.underlying303
 a46:=Tryz.isAgg303
 z46:=Tryz.sizeOf303
 v46:=Tryz.zeroValue303
 t50:=Tryz.underlying307
 a50:=Tryz.isAgg307
 z50:=Tryz.sizeOf307
 v50:=Tryz.zeroValue307
 t53:=Tryz.underlying31
 a53:=Tryz.isAgg31
 z53:=Tryz.sizeOf31
 v53:=Tryz.zeroValue31
 t55:=Tryz.underlying48
 a55:=Tryz.isAgg48
 z55:=Tryz.sizeOf48
 v55:=Tryz.zeroValue48
 t66:=Tryz.underlying319
 a66:=Tryz.isAgg319
 z66:=Tryz.sizeOf319
 v66:=Tryz.zeroValue319
 t70:=Tryz.underlying322
 a70:=Tryz.isAgg322
 z70:=Tryz.sizeOf322
 v70:=Tryz.zeroValue322
 t76:=Tryz.underlying324
 a76:=Tryz.isAgg324
 z76:=Tryz.sizeOf324
 v76:=Tryz.zeroValue324
 t77:=Tryz.underlying325
 a77:=Tryz.isAgg325
 z77:=Tryz.sizeOf325
 v77:=Tryz.zeroValue325}
end Go.Proofs
namespace Go.Proofs.YtdkkjchclkjleaaGreatDoor
open Go Go.RowKit Go.Maps Go.MapKept
open Go.Proofs.Tryz(prog)
open List(mem_map getElem?_eq_getElem mem_append mem_of_getElem? mem_cons length_append length_map mem_singleton take_length mem_filter map_append nodup_cons map_cons nodup_append flatMap_append filter_eq_self size_toArray map_map map_congr_left filter_map)
open Nat(le_refl zero_le le_trans lt_of_lt_of_le)
section
open Go.Sort
def zaX (L:List yJ) (x:zd):Int:=((L.find? λr=>decide (r.id=x)).map λr=>(r.seq:Int)).getD 0
theorem XV {L:List yJ} (b:(L.map (·.id)).Nodup) {r:yJ} (a:r∈L):zaX L r.id=r.seq:=by
 unfold zaX
 induction L with
 |nil=>cases a
 |cons y t ih=>
  obtain⟨c,d⟩:=nodup_cons.1 (by simpa using b:(y.id::t.map (·.id)).Nodup)
  rcases mem_cons.1 a with rfl|a
  ·simp
  ·have:y.id≠r.id:=λe=>c (by rw[e];exact mem_map.2 ⟨r,a,rfl⟩)
   rw[List.find?_cons_of_neg (by simpa using this)]
   exact ih d a
theorem zgm {L:List yJ} (c:(L.map (·.id)).Nodup) (d:L.Pairwise λa b=>a.seq<b.seq):(L.map (·.id)).Pairwise λa b=>zaX L a<zaX L b:=by
 rw[List.pairwise_map]
 refine(d.imp_of_mem fun {a b} ha hb h=>?_)
 rw[XV c ha,XV c hb]
 omega
def zaV {L:List yJ} (x:{h:zd // h∈L.map (·.id)}):List Value:=zf x.1
def zfM {L:List yJ} (x y:{h:zd // h∈L.map (·.id)}):Int:=zaX L x.1-zaX L y.1
theorem za9 {L:List yJ} (x y:{h:zd // h∈L.map (·.id)}):ltOf zfM x y=decide (zaX L x.1<zaX L y.1):=by
 unfold ltOf zfM
 by_cases h:zaX L x.1<zaX L y.1
 ·simp[h];omega
 ·simp[h];omega
theorem znZ {L:List yJ}:SWO (ltOf (zfM (L:=L))) where
 irrefl x:=by rw[za9];simp
 trans x y z h1 h2:=by rw[za9] at*;simp only[decide_eq_true_eq] at*;omega
 ntrans x y z h1 h2:=by rw[za9] at*;simp only[decide_eq_false_iff_not] at*;omega
section
variable {w0 w:World} {p m sq:Nat} {L:List yJ}
theorem zk9 (h:GR w0 w p m sq L) (g:sq≤1000) {W:World} {bx:Nat} (o:W.cell? ⟨bx,0,none⟩=some (.pointer (some ⟨p,0,none⟩))) (s:W.cell? ⟨p,0,none⟩=some (.map (some m))) (v:∀M,qH w m M→qH W m M) (k:∀r∈L,W.cell? ⟨r.b,0,none⟩=some (.int .i64 (r.seq:Int))) (x y:{h:zd // h∈L.map (·.id)}):
  Calls prog 139 #[.agg (zaV x).toArray,.agg (zaV y).toArray,.pointer (some ⟨bx,0,none⟩)] W λe w'=>e=.returned (.int .i64 (zfM x y))∧Ye W w':=by
 obtain⟨x,z⟩:=x
 obtain⟨y,A⟩:=y
 unfold zaV zfM
 dsimp only
 obtain⟨b,c,rfl⟩:=mem_map.1 z
 obtain⟨a,d,rfl⟩:=mem_map.1 A
 rw[XV h.idn c,XV h.idn d]
 have l:=J (h.ok b c).1
 have n:=J (h.ok a d).1
 have G:=J (zx l.o)
 have H:=J (zx n.o)
 have i:=J ((h.run_look l.o false rfl).1 b c rfl)
 have j:=J ((h.run_look n.o false rfl).1 a d rfl)
 unfold Qi at i j
 unfold xp at i j
 have B:=k b c
 have C:=k a d
 have Q:b.seq≤1000:=le_trans (h.top b c) g
 have R:a.seq≤1000:=le_trans (h.top a d) g
 have u:Fr No W ((W.alloc (.cells (zf b.id).toArray 41)).alloc (.cells (zf a.id).toArray 41)):=((frN W).alloc _).alloc _
 have E:=J ((((Ye.refl W).alloc (.cells (zf b.id).toArray 41)).alloc (.cells (zf a.id).toArray 41)).drew)
 have I:=J (za (zy W (zf b.id) 41) ((frN _).alloc (.cells (zf a.id).toArray 41)) id)
 have N:=@J (((W.alloc (.cells (zf b.id).toArray 41)).alloc (.cells (zf a.id).toArray 41)).rangeAt (W.heap.size+1) 0 (zf a.id)) (by
  have:=zy (W.alloc (.cells (zf b.id).toArray 41)) (zf a.id) 41
  simpa using this)
 have F:=J (λ(w':World) (f:Fr No W w')=>(⟨f.cell o id,f.cell s id,λM O=>(v M O).keep f id,f.cell B id,f.cell C id⟩:w'.cell? ⟨bx,0,none⟩=some (.pointer (some ⟨p,0,none⟩))∧w'.cell? ⟨p,0,none⟩=some (.map (some m))∧(∀M,qH w m M→qH w' m M)∧w'.cell? ⟨b.b,0,none⟩=some (.int .i64 (b.seq:Int))∧w'.cell? ⟨a.b,0,none⟩=some (.int .i64 (a.seq:Int))))
 have D:=J u
 clear h z A c d k v o s B C u g
 have P:IntKind.i64.wrap ((b.seq:Int)-(a.seq:Int))=(b.seq:Int)-(a.seq:Int):=by
  simp[IntKind.wrap,IntKind.bits,IntKind.signed]
  omega
 go_enter Tryz.func139,Tryz.ntmps139
 go_wp2_with fail
 generalize S:W.heap.size=q at*
 generalize (W.alloc (.cells (zf b.id).toArray 41)).alloc (.cells (zf a.id).toArray 41)=w1 at*
 refine wrLx [ff,ff,ff,ff,ff,ff,ff,ff,ff,ff,ff,ff,ff,ff,ff,ff,ff,ff,ff,ff] (λw'=>(w'.cell? ⟨bx,0,none⟩=some (.pointer (some ⟨p,0,none⟩))∧w'.cell? ⟨p,0,none⟩=some (.map (some m))∧(∀M,qH w m M→qH w' m M)∧w'.cell? ⟨b.b,0,none⟩=some (.int .i64 (b.seq:Int))∧w'.cell? ⟨a.b,0,none⟩=some (.int .i64 (a.seq:Int)))∧w'.rangeAt q 0 (zf b.id)∧w'.rangeAt (q+1) 0 (zf a.id)) ?_ (λK hK=>?_)
 ·exact⟨F.o _ D.o.drew,za I.o (frN _).drew id,za N.o (frN _).drew id⟩
 repeat((first|(refine zj rfl ?_;constructor;constructor;(focus(first|exact zn7 rfl (λw h=>h.2.1) G.o|exact zn7 rfl (λw h=>h.2.2) H.o|exact λw' h=>zQ (t:=197) rfl rfl rfl (i.o w' h.1.2.2.1)|exact λw' h=>zQ (t:=197) rfl rfl rfl (j.o w' h.1.2.2.1)|(rintro w' ⟨⟨T,U,V,X,Y⟩,Z,s7⟩;go_simp;(try with_reducible rfl);done))))|(refine zl rfl ?_));try simp only[Act.put,pA,pB,pC])
 refine zL (hK.out _ _ ?_)
 go_wp2_with fail
 go_ret
 exact⟨by(try rw[P]);rfl,E.o⟩
theorem zhQ:∀w,(isAgg (Tryz.laysK_ren.t 24)).run prog w=.ok true w:=λw=>by kernel_rfl
theorem zir:∀w,(Go.sizeOf (Tryz.laysK_ren.t 24)).run prog w=.ok 32 w:=λw=>by kernel_rfl
theorem zmZ (h:GR w0 w p m sq L) (Y:sq≤1000) {bx B:Nat} (cb:w.cell? ⟨bx,0,none⟩=some (.pointer (some ⟨p,0,none⟩))) {v:Value} {H S:List zd} (s:w.ownsRow B 41 32 v H.length (H.flatMap zf)) (hv:∀j,v.ownBlock=some j→j≠bx∧j∉yQ p m L) (V:S.Perm H) (O:S.Sublist (L.map (·.id))) (hN:H.length≤100000):
  Calls prog 138 #[v,.func (.func 139) #[] #[.pointer (some ⟨bx,0,none⟩)]] w λe w'=>e=.returned (.tuple #[])∧w'.ownsRow B 41 32 v H.length (S.flatMap zf)∧Fr (λj=>v.ownBlock=some j) w w':=by
 by_cases h0:H=[]
 ·subst h0
  have hS:S=[]:=V.eq_nil
  subst hS
  obtain⟨va,vc,rfl⟩:=s.slice.arg.form
  refine(AnyF.slices_SortFunc_none Tryz.laysK va vc (.func (.func 139) #[] #[.pointer (some ⟨bx,0,none⟩)]) w).mono ?_
  rintro e w' ⟨rfl,rfl⟩
  exact⟨rfl,s,Fr.refl _ _⟩
 ·have U:H.length≠0:=λe=>h0 (List.eq_nil_of_length_eq_zero e)
  obtain⟨g,c,rfl⟩:∃g c,v=.slice (some ⟨g,0,none⟩) H.length c:=by
   rcases s.2 with⟨_,e⟩|⟨g,c,aa,e,_⟩
   ·exact absurd e U
   ·exact⟨g,c,e⟩
  obtain⟨l,P⟩:=zcV (q:=λh=>h∈L.map (·.id)) H (λx hx=>O.subset (V.mem_iff.2 hx))
  subst P
  obtain⟨x0,hx0⟩:∃x,x∈l:=by
   cases l with
   |nil=>exact absurd rfl h0
   |cons a t=>exact⟨a,by simp⟩
  haveI:Inhabited {h:zd // h∈L.map (·.id)}:=⟨x0⟩
  have hf:(l.map Subtype.val).flatMap zf=l.flatMap zaV:=by rw[List.flatMap_map];rfl
  rw[hf,length_map] at s
  rw[length_map] at hN hv⊢
  have eg:∀args w,(callFunc 139 args).run prog w=.ok (.enter 139 args) w:=enters_of Tryz.func139 (by kernel_rfl) rfl
  have K:∀x:{h:zd // h∈L.map (·.id)},(zaV x).length=32:=λx=>by
   obtain⟨r,N,e⟩:=mem_map.1 x.2
   unfold zaV
   rw[←e]
   exact zx (h.ok r N).1
  have hg:=hv g rfl
  have Q:CmpLays prog 139 #[.pointer (some ⟨bx,0,none⟩)] zaV 32 zfM g 0 l.toArray.size w:=λm' os dk R x y=>by
   obtain⟨-,f⟩:=zca zaV 32 K s (d':=dk) (by rw[R,size_toArray]) m' os
   have u:∀j∈yQ p m L,¬j=g:=λj k e=>hg.2 (e▸k)
   refine(zk9 h Y (f.cell cb (λe=>hg.1 e.symm)) (f.cell (Q0 h.obj).1 (u p (by simp[yQ]))) (λM hM=>hM.keep f (u m (by simp[yQ]))) (λr N=>f.cell (Y7 (h.node r N).blk).1 (u r.b (by simp only[yQ,mem_cons,List.mem_flatMap];exact .inr (.inr ⟨r,N,by simp[yJ.blks]⟩)))) x y).mono λ_ _ ⟨he,hq⟩=>⟨he,hq⟩
  have o:=AnyQ.slices_SortFunc Tryz.laysK 32 zhQ zir zaV K (λx=>zS) zfM znZ 139 #[.pointer (some ⟨bx,0,none⟩)] g 0 c l.toArray w eg Q (zcM zaV 32 K s) (s.lt g rfl).2 (by rw[size_toArray];omega)
  rw[size_toArray] at o
  refine o.mono ?_
  rintro e w' ⟨rfl,d',n,os,F,X,rfl⟩
  have W:=(zgm h.idn h.seqs).sublist O
  have hd:d'.toList.map Subtype.val=S:=sorted_perm Subtype.val (r:=λa b=>decide (zaX L a<zaX L b)) za9 (d:=l.toArray) (by rw[size_toArray];exact F) (by rw[size_toArray];exact X) V
   (W.imp (fun {a b} h=>by simp;omega))
   (λa ha b hb h1 h2=>by
    simp only[decide_eq_false_iff_not] at h1 h2
    obtain⟨r1,G,rfl⟩:=mem_map.1 (O.subset ha)
    obtain⟨r2,I,rfl⟩:=mem_map.1 (O.subset hb)
    rw[XV h.idn G,XV h.idn I] at h1 h2
    obtain⟨i,hi⟩:=List.mem_iff_getElem?.1 G
    obtain⟨j,k⟩:=List.mem_iff_getElem?.1 I
    have E:=List.pairwise_iff_getElem.1 h.seqs
    obtain⟨z,A⟩:=List.getElem?_eq_some_iff.1 hi
    obtain⟨C,D⟩:=List.getElem?_eq_some_iff.1 k
    have:i=j:=by
     rcases Nat.lt_trichotomy i j with e|e|e
     ·have:=E i j z C e;rw[A,D] at this;omega
     ·exact e
     ·have:=E j i C z e;rw[A,D] at this;omega
    subst this
    rw[hi] at k
    injection k with k
    rw[k])
  have Z:d'.size=l.length:=by have:=F.1;rw[size_toArray] at this;exact this
  obtain⟨ho,fo⟩:=zca zaV 32 K s Z n os
  have T:d'.toList.flatMap zaV=S.flatMap zf:=by rw[←hd,List.flatMap_map];rfl
  rw[T] at ho
  exact⟨rfl,ho,fo.mono (λj k=>by rw[k];rfl)⟩
end
end
section
open Go.Sort
abbrev ziL (w:World) (r b:Nat) (M R:List (zd×Int)):=j5 prog 41 xp zaU w r b M R
theorem keys_perm {M:List (zd×Int)} {S:List zd} (b:(M.map (·.1)).Nodup) (a:∀k c,(k,c)∈M↔c=1∧k∈S) (hS:S.Nodup):S.Perm (M.map (·.1)):=by
 refine(List.perm_ext_iff_of_nodup hS b).2 (λx=>?_)
 constructor
 ·intro h
  exact mem_map.2 ⟨(x,1),(a x 1).2 ⟨rfl,h⟩,rfl⟩
 ·intro h
  obtain⟨⟨y,c⟩,d,rfl⟩:=mem_map.1 h
  exact((a y c).1 d).2
theorem zdJ {w:World} {B k n:Nat} {e:TypeId} {v:Value} {xs:List Value} {r b:Nat} {M R:List (zd×Int)} (h:w.ownsRow B e k v n xs) (l:ziL w r b M R):∀j,v.ownBlock=some j→j≠r:=by
 obtain⟨es,f,seen,-,-,-,-,-,-,c,-⟩:=l
 rcases h.2 with⟨rfl,_⟩|⟨g,d,i,rfl,_,m,_⟩
 ·intro j a;cases a
 ·intro j a e
  simp[Value.ownBlock] at a
  subst a e
  rw[m] at c
  cases c
theorem zbR {w:World} {B n k bx:Nat} {v:Value} {xs:List Value} {c:Array Value} (h:w.ownsRow B 41 k v n xs) (a:w.heap[bx]? =some (.cells c 135 (0,0))):∀j,v.ownBlock=some j→j≠bx:=by
 rcases h.2 with⟨rfl,_⟩|⟨g,d,f,rfl,_,i,_⟩
 ·intro j b;cases b
 ·intro j b e
  simp[Value.ownBlock] at b
  subst b e
  rw[i] at a
  injection a with a
  injection a with _ a
  revert a
  decide
section
variable {w0 w:World} {p N:Nat} {V:Nat→Prop} {G:List yW}
theorem zb9 (h:GC w0 w p V G N) (hN:N≤1000) {b:Nat} {M:List (zd×Int)} {S:List zd} (E:JT w b M) (hs:∀k c,(k,c)∈M↔c=1∧k∈S) (f:S.Sublist (ids G)):
  Calls prog 100 #[.pointer (some ⟨p,0,none⟩),.map (some b)] w λe w'=>∃v,e=.returned v∧w'.ownsRow w.heap.size 41 32 v S.length (S.flatMap zf)∧Fr No w w':=by
 have X:S.Nodup:=h.gok.nd.sublist f
 have aG:S.length≤1000:=by
  have:=f.length_le
  have:=h.len
  simp only[ids,length_map] at*
  omega
 have LM:=@J (M.length=S.length) (by rw[(keys_perm E.nodup hs X).length_eq,length_map])
 have f1:Fr No w (w.alloc (.cells #[.pointer (some ⟨p,0,none⟩)] 135)):=(frN w).alloc _
 have aC:=(zaR (ye w (.cells #[.pointer (some ⟨p,0,none⟩)] 135))).1
 have Z:=E.keep f1 id
 have LR:=J (λty=>Z.lenRun jo ty)
 obtain⟨iK,hi,hz,al,ae⟩:=info_parts qI
 obtain⟨w2,aE,aj,af⟩:=run_makeSlice_owned (P:=prog) (w:=w.alloc (.cells #[.pointer (some ⟨p,0,none⟩)] 135)) w.heap.size 38 41 iK _ 32 qi hi hz al .i64 .i64 M.length (by rw[LM.o];omega) (by rw[ae,LM.o];omega) (by rw[LM.o];unfold maxLen;omega) (by simp)
 have f2:Fr No (w.alloc (.cells #[.pointer (some ⟨p,0,none⟩)] 135)) w2:=Fr.of_grown af (λk e=>by cases e)
 have ah:=Z.keep f2 id
 obtain⟨d,Q,hit⟩:=ah.rangeI jo
 have HS:=J hs
 have ax:=J X
 have az:=@J (∀x∈M,zX x.1) (λx hx=>h.okId x.1 (f.subset ((hs x.1 x.2).1 hx).2))
 have au:=J E.nodup
 have aq:=J hit
 have F0:=J ((f1.trans0 f2).alloc (.mapIter (some b) d #[] d))
 have CB:=J ((f2.alloc (.mapIter (some b) d #[] d)).obj (ye w (.cells #[.pointer (some ⟨p,0,none⟩)] 135)) id)
 have av:=@J ((w2.alloc (.mapIter (some b) d #[] d)).ownsRow w.heap.size 41 32 (.slice (some ⟨w.heap.size+1,0,none⟩) 0 M.length) 0 []) (by have:=aj.alloc (.mapIter (some b) d #[] d);simpa using this)
 have HB:=@J (w.heap.size<w2.heap.size) (by have:=f2.size;simp at this;omega)
 have HC:=J h
 have ay:=J E.lt
 have aA:=J f
 have zh:=yR
 clear h E Z hs f hi hz al ae aj af f2 hit f1 aC X ah
 go_enter Tryz.func100,Tryz.ntmps100
 go_wp2_with (first|(refine zg rfl (jb rfl rfl (LR.o _)) ?_)|(refine jU rfl rfl rfl Q ?_))
 generalize hq:w2.heap.size=r at*
 generalize w2.alloc (.mapIter (some b) d #[] d)=W at*
 clear Q aE LR
 try simp only[Act.put,pA,pB,pC]
 generalize aD:w.heap.size=bx at*
 go_loopg [5] M.length (λn l wr=>∃(D R:List (zd×Int)),(D++R).Perm M∧R.length=n∧ziL wr r b M R∧wr.ownsRow bx 41 32 l D.length ((D.map (·.1)).flatMap zf)∧wr.heap[bx]? =some (.cells #[.pointer (some ⟨p,0,none⟩)] 135 (0,0))∧Fr No w wr)
 case atStart=>exact⟨[],M,List.Perm.refl _,rfl,aq.o,av.o,CB.o,F0.o⟩
 case round=>
  obtain⟨D,R,a,E,hI,u,s,y⟩:=hrel
  cases R with
  |nil=>
   have F:=hI.stop
   rw[List.append_nil] at a
   have hp:=keys_perm au.o HS.o ax.o
   have g:S.Perm (D.map (·.1)):=hp.trans (a.symm.map _)
   have q:D.length=S.length:=by rw[g.length_eq,length_map]
   obtain⟨m,sq,L,hr,-,hG,-,aF⟩:=HC.o.ex
   have I:ids G=L.map (·.id):=by rw[←hG];simp[ids,Function.comp]
   have o:=zmZ (hr.fr0 y) (by omega) (bx:=bx) (B:=bx) (zaR s).1 (H:=D.map (·.1)) (by rw[length_map];exact u) (λj hj=>⟨zbR u s j hj,λe=>by have:=(u.lt j hj).1;have:=hr.hi j e;omega⟩) g (by rw[←I];exact aA.o) (by rw[length_map,q];omega)
   rw[length_map,q] at o
   have T:=J o
   have FR:=J y
   have HO:=J u
   obtain⟨la,lc,ag⟩:=u.slice.arg.form
   rw[q] at ag
   subst ag
   clear hI u a E y hp g o q s hr hG aF I
   go_wp2_with (first|(refine xH rfl rfl rfl (F _) ?_)|(go_at_call 138;refine T.o.mono ?_;rintro e w5 ⟨rfl,z,f5⟩))
   go_ret
   exact⟨.slice la S.length lc,by rfl,by rw[aD];exact z,FR.o.trans f5 (λi hi e=>by have:=(HO.o.lt i e).1;omega)⟩
  |cons x0 R0=>
   obtain⟨A,x,B,w3,C,F,ab,f3,O⟩:=hI.step (by simp) 0
   have hx:x∈M:=a.subset (by rw[C];simp)
   have aB:=J (az.o x hx)
   have HX:=J (zx aB.o)
   have g:((D++[x])++(A++B)).Perm M:=by
    refine List.Perm.trans ?_ a
    rw[C,List.append_assoc]
    exact List.Perm.append_left _ (show(x::(A++B)).Perm (A++x::B) from List.perm_middle.symm)
   have q:D.length≤100000:=by have:=g.length_eq;have:=LM.o;simp at this⊢;simp at*;omega
   have aa:=zdJ u hI
   have ai:=zbR u s
   have t5:Fr No w3 (w3.alloc (.cells (zf x.1).toArray 41)):=(frN w3).alloc _
   have ak:=zb (zb u f3 (λj e e'=>aa j e e')) t5 (λ_ _=>id)
   have K:=t5.obj (f3.obj s (λe=>by have:=HB.o;omega)) id
   have Y:=λj e=>u.lt j e
   have U:Fr No w (w3.alloc (.cells (zf x.1).toArray 41)):=(y.trans f3 (λi hi e=>by have:=HB.o;omega)).trans0 t5
   obtain⟨v5,w5,ad,z,f5,-,-⟩:=yX (P:=prog) _ bx 38 38 41 32 32 _ qi qI rfl (by decide) ak (zf x.1) HX.o zS (by omega) (by unfold maxLen;omega) (by have:=U.size;omega)
   have aw:=@J (w5.ownsRow bx 41 32 v5 (D++[x]).length (((D++[x]).map (·.1)).flatMap zf)) (by simpa using z)
   have ar:=J ((ab.keep t5 id id).keep f5 (λe=>by have:=(Y b e).1;have:=ay.o;omega) (λe=>aa r e rfl))
   have F5:=J (U.trans f5 (λi hi e=>by have:=(Y i e).1;omega))
   have an:=J (f5.obj K (λe=>ai bx e rfl))
   obtain⟨la,lc,rfl⟩:=u.slice.arg.form
   obtain⟨a5,c5,rfl⟩:=z.slice.arg.form
   have ao:=J ad
   have HP:=J g
   have HR:=@J ((A++B).length<gk) (by rw[←E,C];simp)
   have RN:=J (zy w3 (zf x.1) 41)
   clear hI ab u ak z y U hx g q t5 ad f5 C a E f3 aa Y s K ai
   unfold xp zaU at F O
   go_wp2_with (first|refine xH rfl rfl rfl F ?_|refine vN rfl rfl rfl O ?_|(refine zi rfl (zm (w:=w3) (cs:=zf x.1) (ty:=41) rfl rfl rfl (by rw[HX.o];rfl) (by rw[HX.o];exact yp) zS) ?_)|(refine zn3 rfl rfl rfl RN.o HX.o ?_)|(refine zg rfl (zU (t:=38) rfl rfl qi vU rfl (by decide) (by decide) HX.o) ?_)|(at_builtin;refine zR rfl rfl rfl rfl ao.o ?_))
   go_roundg (A++B).length
   case measure=>exact HR.o
   case rel=>exact⟨D++[x],A++B,HP.o,rfl,ar.o,aw.o,an.o,F5.o⟩
end
end
section
open Go.Sort
theorem Xq {w:World} {B b k n:Nat} {e:TypeId} {v:Value} {xs:List Value} (h:w.ownsRow B e k v n xs) (j:b≤B):w.ownsRow b e k v n xs:=
 ⟨h.1,h.2.imp id λ⟨g,i,a,c,d,f⟩=>⟨g,i,a,c,le_trans j d,f⟩⟩
def RowK (w w':World) (v:Value) (S:List zd):Prop:=w'.ownsRow w.heap.size 41 32 v S.length (S.flatMap zf)∧Fr No w w'
section
variable {w0 w:World} {p N:Nat} {V:Nat→Prop} {G:List yW}
theorem Qk (a:Bool) (l:List zd):(zdP a G l).Sublist (ids G):=by
 cases a
 ·exact vm l
 ·exact jL l
theorem zm3 (h:GC w0 w p V G N) (i:N≤1000) {v:Value} {l:List zd} (j:y3 w v l) (c:l.length≤1000):
  Calls prog 87 #[.pointer (some ⟨p,0,none⟩),v] w λe w'=>∃o,e=.returned o∧RowK w w' o (upS G l):=by
 have d:=J h
 have r:=J j
 clear h j
 go_enter Tryz.func87,Tryz.ntmps87
 go_wp2_with (first|(go_at_call 93;refine(zgx d.o i r.o c true).mono ?_;rintro e z ⟨b,M,rfl,k,m,x,f⟩;have s:=J k;have t:=J m;have a:=J f;clear k m f)|(go_at_call 100;refine(zb9 (d.o.fr0 a.o) i s.o t.o (Qk true l)).mono ?_;rintro e A ⟨y,rfl,n,g⟩;have u:=J (Xq n a.o.size);have q:=J (a.o.trans0 g);clear n g))
 go_ret
 exact⟨_,rfl,u.o,q.o⟩
theorem zmu (h:GC w0 w p V G N) (i:N≤1000) {v:Value} {l:List zd} (j:y3 w v l) (c:l.length≤1000):
  Calls prog 131 #[.pointer (some ⟨p,0,none⟩),v] w λe w'=>∃o,e=.returned o∧RowK w w' o (vl G l):=by
 have d:=J h
 have r:=J j
 clear h j
 go_enter Tryz.func131,Tryz.ntmps131
 go_wp2_with (first|(go_at_call 93;refine(zgx d.o i r.o c false).mono ?_;rintro e z ⟨b,M,rfl,k,m,x,f⟩;have s:=J k;have t:=J m;have a:=J f;clear k m f)|(go_at_call 100;refine(zb9 (d.o.fr0 a.o) i s.o t.o (Qk false l)).mono ?_;rintro e A ⟨y,rfl,n,g⟩;have u:=J (Xq n a.o.size);have q:=J (a.o.trans0 g);clear n g))
 go_ret
 exact⟨_,rfl,u.o,q.o⟩
theorem ziT (h:GC w0 w p V G N) (hN:N≤1000):
  Calls prog 55 #[.pointer (some ⟨p,0,none⟩)] w λe w'=>∃v',e=.returned v'∧RowK w w' v' (ids G):=by
 obtain⟨m,sq,L,hr,-,hG,-,-⟩:=h.ex
 have s:ids G=L.map (·.id):=by rw[←hG];simp[ids,Function.comp]
 obtain⟨j,hM,E⟩:=hr.map
 have Y:Fr No w (w.alloc (.map #[] 0)):=(frN w).alloc _
 have S:=hM.keep Y id
 obtain⟨g,v,hit⟩:=S.rangeI J7
 have c1:=Y.cell (Q0 hr.obj).1 id
 have d:=(show JT (w.alloc (.map #[] 0)) w.heap.size [] from yD.made w)
 have f2:Fr No (w.alloc (.map #[] 0)) ((w.alloc (.map #[] 0)).alloc (.mapIter (some m) g #[] g)):=(frN _).alloc _
 have aa:=@J (j5 prog 41 xp Qi ((w.alloc (.map #[] 0)).alloc (.mapIter (some m) g #[] g)) (w.heap.size+1) m j j) (by rw[show w.heap.size+1=(w.alloc (.map #[] 0)).heap.size by simp];exact hit)
 have ae:=J (d.keep f2 id)
 have F0:=J (Y.trans0 f2)
 have m1:=zaw
 have KS:=@J (∀k,k∈j.map (·.1)↔k∈ids G) (λk=>by
  rw[s]
  constructor
  ·intro hk
   obtain⟨⟨k',b'⟩,z,rfl⟩:=mem_map.1 hk
   obtain⟨r,H,e,-⟩:=(E k' b').1 z
   exact mem_map.2 ⟨r,H,e⟩
  ·intro hk
   obtain⟨r,H,rfl⟩:=mem_map.1 hk
   exact mem_map.2 ⟨(r.id,r.b),(E _ _).2 ⟨r,H,rfl,rfl⟩,rfl⟩)
 have LN:=@J (j.length≤1000) (by
  have:=qy (m:=ids G) hM.nodup (λx z=>(KS.o x).1 z)
  have Z:=h.len
  simp only[ids,length_map] at this
  omega)
 have ah:=@J (∀x∈j,zX x.1) (λx z=>h.okId x.1 ((KS.o x.1).1 (mem_map.2 ⟨x,z,rfl⟩)))
 have HC:=J h
 have MB:=J hM.lt
 have zh:=yR
 clear h hr hG s hM E S hit d Y f2
 go_enter Tryz.func55,Tryz.ntmps55
 go_wp2_with (refine jU rfl rfl rfl v ?_)
 rw[show(w.alloc (.map #[] 0)).heap.size=w.heap.size+1 by simp]
 generalize (w.alloc (.map #[] 0)).alloc (.mapIter (some m) g #[] g)=W at*
 generalize hb:w.heap.size=b at*
 clear v m1 c1
 try simp only[Act.put,pA,pB,pC]
 go_loopg [] j.length (λn wr=>∃(D R:List (zd×Nat)) (K:List (zd×Int)),(D++R).Perm j∧R.length=n∧j5 prog 41 xp Qi wr (b+1) m j R∧JT wr b K∧(∀k c,(k,c)∈K↔c=1∧k∈D.map (·.1))∧K.length≤D.length∧Fr No w wr)
 case atStart=>exact⟨[],j,[],List.Perm.refl _,rfl,aa.o,ae.o,by simp,le_refl _,F0.o⟩
 case round=>
  obtain⟨D,R,K,a,hm,hI,d,f,T,o⟩:=hrel
  cases R with
  |nil=>
   have q:=hI.stop
   rw[List.append_nil] at a
   have FR:=J o
   have HM:=J d
   have HS:=@J (∀k c,(k,c)∈K↔c=1∧k∈ids G) (λk c=>by
    rw[f,←KS.o,(a.map (·.1)).mem_iff])
   clear hI a hm o d f T
   go_wp2_with (first|(refine xH rfl rfl rfl (q _) ?_)|(go_at_call 100;refine(zb9 (HC.o.fr0 FR.o) hN HM.o HS.o (List.Sublist.refl _)).mono ?_;rintro e O ⟨v3,rfl,o3,M⟩;have O3:=J (Xq o3 FR.o.size);have F3:=J (FR.o.trans0 M);clear o3 M))
   go_ret
   exact⟨_,rfl,O3.o,F3.o⟩
  |cons x0 R0=>
   obtain⟨A,x,B,O,l,q,Q,M,t⟩:=hI.step (by simp) 0
   have z:x∈j:=a.subset (by rw[l];simp)
   have P:=J (ah.o x z)
   have HX:=J (zx P.o)
   have F:((D++[x])++(A++B)).Perm j:=by
    refine List.Perm.trans ?_ a
    rw[l,List.append_assoc]
    exact List.Perm.append_left _ (show(x::(A++B)).Perm (A++x::B) from List.perm_middle.symm)
   have ai:D.length≤1000:=by have:=F.length_eq;have:=LN.o;simp at this⊢;simp at*;omega
   have t5:Fr No O (O.alloc (.cells (zf x.1).toArray 41)):=(frN O).alloc _
   have aj:=d.lt
   obtain⟨w4,C,X,u,y,I,U⟩:=((d.keep M (by omega)).keep t5 id).upd xT.keyed jo (λ_ _=>yY) (yq P.o) (show K.length<maxLen by unfold maxLen;omega) 1
   have f4:Fr No w w4:=((o.trans M (λi hi e=>by omega)).trans0 t5).trans I.fr (λi hi e=>by omega)
   have ab:=J ((Q.keep t5 id id).keep I.fr (by have:=MB.o;omega) (by omega))
   have af:=J u
   have ag:=@J (∀k c,(k,c)∈C↔c=1∧k∈(D++[x]).map (·.1)) (λk c=>by
    rw[y,f,map_append,mem_append]
    constructor
    ·rintro(⟨rfl,rfl⟩|⟨_,Z,h3⟩)
     ·exact⟨rfl,.inr (by simp)⟩
     ·exact⟨Z,.inl h3⟩
    ·rintro⟨rfl,Z⟩
     by_cases e:k=x.1
     ·exact .inl ⟨e,rfl⟩
     ·exact .inr ⟨e,rfl,Z.elim id (λh=>absurd (by simpa using h) e)⟩)
   have ad:=@J (C.length≤(D++[x]).length) (by simp;omega)
   have F4:=J f4
   have HP:=J F
   have HR:=@J ((A++B).length<gk) (by rw[←hm,l];simp)
   have RN:=J (zy O (zf x.1) 41)
   clear hI Q o z F ai t5 l a hm M aj d f T u y I U f4
   unfold xp Qi at q t
   unfold xp zaU at X
   go_wp2_with (first|refine xH rfl rfl rfl q ?_|refine vN rfl rfl rfl t ?_|(refine zi rfl (zm (w:=O) (cs:=zf x.1) (ty:=41) rfl rfl rfl (by rw[HX.o];rfl) (by rw[HX.o];exact yp) zS) ?_)|(refine zn3 rfl rfl rfl RN.o HX.o ?_)|(refine zi rfl (y4 rfl rfl rfl rfl X) ?_))
   go_roundg (A++B).length
   case measure=>exact HR.o
   case rel=>exact⟨D++[x],A++B,C,HP.o,rfl,ab.o,af.o,ag.o,ad.o,F4.o⟩
end
end
abbrev Tri:=zd×List zd×List zd
def yJ.t3 (r:yJ):Tri:=(r.id,r.ps,r.ks)
def JE (G:List yW):List Tri:=G.map λn=>(n.id,n.ps,kid G n.id)
theorem J5 (G:List yW):(JE G).map (·.1)=ids G:=by simp[JE,ids,Function.comp]
theorem step_map {T:List Tri} (h:(T.map (·.1)).Nodup) {f g:Tri→Tri} (o:∀t,(f t).1=t.1) {q:zd} {A B:List yJ} {r j:yJ} (d:(A++r::B).map yJ.t3=T.map f) (v:r.id=q) (u:∀t∈T,t.1=q→f t=r.t3→g t=j.t3) (a:∀t∈T,t.1≠q→g t=f t):(A++j::B).map yJ.t3=T.map g:=by
 rw[map_append,map_cons] at d⊢
 obtain⟨C,T2,rfl,l,k⟩:=List.map_eq_append_iff.1 d.symm
 obtain⟨t,D,rfl,i,n⟩:=List.map_eq_cons_iff.1 k
 have c:t.1=q:=by rw[←o t,i];exact v
 rw[map_append,map_cons] at h
 obtain⟨E,x,y⟩:=nodup_append.1 h
 obtain⟨z,F⟩:=nodup_cons.1 x
 rw[map_append,map_cons,←l,←n]
 congr 1
 ·refine map_congr_left λs b=>(a s (by simp[b]) λe=>?_).symm
  exact y s.1 (mem_map.2 ⟨s,b,rfl⟩) t.1 (by simp) (by rw[e,c])
 ·congr 1
  ·exact(u t (by simp) c i).symm
  ·refine map_congr_left λs b=>(a s (by simp[b]) λe=>?_).symm
   exact z (by rw[c,←e];exact mem_map.2 ⟨s,b,rfl⟩)
theorem Vj {T:List Tri} {f:Tri→Tri} (d:∀t,(f t).1=t.1) {L:List yJ} (c:L.map yJ.t3=T.map f) {q:zd} (g:q∈T.map (·.1)):∃A r B,L=A++r::B∧r.id=q∧∃t∈T,t.1=q∧f t=r.t3:=by
 obtain⟨t,a,rfl⟩:=mem_map.1 g
 have b:f t∈L.map yJ.t3:=by rw[c];exact mem_map.2 ⟨t,a,rfl⟩
 obtain⟨r,h,e⟩:=mem_map.1 b
 obtain⟨A,B,rfl⟩:=List.append_of_mem h
 refine⟨A,r,B,rfl,?_,t,a,rfl,e.symm⟩
 have:=congrArg Prod.fst e
 rw[d] at this
 exact this
section
variable {w0 w:World} {p m sq:Nat} {A B:List yJ} {r:yJ}
theorem GR.blks_nodup (h:GR w0 w p m sq (A++r::B)):r.blks.Nodup:=by
 have:=h.apart
 rw[xF] at this
 exact(nodup_append.1 (nodup_append.1 this).2.1).1
theorem vp {j:Nat}:j∈r.blks↔j=r.b∨r.pv.ownBlock=some j∨r.cv.ownBlock=some j:=by
 unfold yJ.blks
 simp only[mem_cons,mem_append,Option.mem_toList]
theorem Qt (h:r.blks.Nodup):(r.pv.ownBlock≠some r.b)∧(r.cv.ownBlock≠some r.b)∧∀j,r.pv.ownBlock=some j→r.cv.ownBlock≠some j:=by
 unfold yJ.blks at h
 obtain⟨a,d⟩:=nodup_cons.1 h
 obtain⟨g,i,f⟩:=nodup_append.1 d
 refine⟨λe=>a (by simp[e]),λe=>a (by simp[e]),λj b c=>f j (by simp[b]) j (by simp[c]) rfl⟩
theorem zdp {b:Nat} {f d:Value} (k:f.ownBlock≠some b) (l:d.ownBlock≠some b) (n:∀j,f.ownBlock=some j→d.ownBlock≠some j):(b::(f.ownBlock.toList++d.ownBlock.toList)).Nodup:=by
 refine nodup_cons.2 ⟨λh=>?_,nodup_append.2 ⟨?_,?_,λa g c i e=>?_⟩⟩
 ·simp only[mem_append,Option.mem_toList] at h
  exact h.elim k l
 ·cases f.ownBlock<;>simp
 ·cases d.ownBlock<;>simp
 ·rw[Option.mem_toList] at g i
  exact n a g (by rw[e];exact i)
theorem GR.setc (h:GR w0 w p m sq (A++r::B)) {c:World} {a:Value} {b:List zd} (f:Fr (λj=>r.cv.ownBlock=some j) w c) (z:c.ownsRow w0.heap.size 41 32 a b.length (b.flatMap zf)) (k:∀j,a.ownBlock=some j→r.cv.ownBlock=some j∨w.heap.size≤j) (ok:∀x∈b,zX x):
  GR w0 (c.setCell ⟨r.b,2,none⟩ a) p m sq (A++{r with ks:=b,cv:=a}::B)∧Fr (λj=>j∈r.blks) w (c.setCell ⟨r.b,2,none⟩ a):=by
 have l:=h.blks_nodup
 obtain⟨o,q,s⟩:=Qt l
 have i:=h.node r (by simp)
 have y:=yG i.blk
 have t:Fr (λj=>j∈r.blks) w (c.setCell ⟨r.b,2,none⟩ a):=(f.mono (λj e=>vp.2 (.inr (.inr e)))).setCell ⟨r.b,2,none⟩ (.inr (vp.2 (.inl rfl))) a
 have u:Fr (λj=>j=r.b) c (c.setCell ⟨r.b,2,none⟩ a):=(Fr.refl (λj=>j=r.b) c).setCell ⟨r.b,2,none⟩ (.inr rfl) a
 have v:a.ownBlock≠some r.b:=λe=>(k _ e).elim q (λe=>by omega)
 have n:=λj e=>(i.prow.lt j e).2
 refine⟨h.turn t (λ_ h=>h) ⟨?_,?_,?_⟩ rfl rfl rfl (λj d=>?_) ?_ ⟨(h.ok r (by simp)).1,(h.ok r (by simp)).2.1,ok⟩,t⟩
 ·have:=heap_setCell_same c r.b 2 _ _ a (f.obj i.blk q)
  simpa using this
 ·exact zb (zb i.prow f (λj e=>s j e)) u (λj e g=>o (by rw[e,g]))
 ·exact zb z u (λj e g=>v (by rw[e,g]))
 ·rw[vp] at d⊢
  rcases d with d|d|d
  ·exact .inl (.inl d)
  ·exact .inl (.inr (.inl d))
  ·exact(k j d).imp (λe=>.inr (.inr e)) id
 ·refine zdp o v λj e g=>?_
  rcases k j g with h1|h1
  ·exact s j e h1
  ·have:=n j e;omega
theorem GR.setp (h:GR w0 w p m sq (A++r::B)) {c:World} {a:Value} {b:List zd} (f:Fr (λj=>r.pv.ownBlock=some j) w c) (C:c.ownsRow w0.heap.size 41 32 a b.length (b.flatMap zf)) (l:∀j,a.ownBlock=some j→r.pv.ownBlock=some j∨w.heap.size≤j) (ok:∀x∈b,zX x):
  GR w0 (c.setCell ⟨r.b,1,none⟩ a) p m sq (A++{r with ps:=b,pv:=a}::B)∧Fr (λj=>j∈r.blks) w (c.setCell ⟨r.b,1,none⟩ a):=by
 have n:=h.blks_nodup
 obtain⟨o,q,s⟩:=Qt n
 have i:=h.node r (by simp)
 have z:=yG i.blk
 have t:Fr (λj=>j∈r.blks) w (c.setCell ⟨r.b,1,none⟩ a):=(f.mono (λj e=>vp.2 (.inr (.inl e)))).setCell ⟨r.b,1,none⟩ (.inr (vp.2 (.inl rfl))) a
 have u:Fr (λj=>j=r.b) c (c.setCell ⟨r.b,1,none⟩ a):=(Fr.refl (λj=>j=r.b) c).setCell ⟨r.b,1,none⟩ (.inr rfl) a
 have v:a.ownBlock≠some r.b:=λe=>(l _ e).elim o (λe=>by omega)
 have k:=λj e=>(i.crow.lt j e).2
 refine⟨h.turn t (λ_ h=>h) ⟨?_,?_,?_⟩ rfl rfl rfl (λj d=>?_) ?_ ⟨(h.ok r (by simp)).1,ok,(h.ok r (by simp)).2.2⟩,t⟩
 ·have:=heap_setCell_same c r.b 1 _ _ a (f.obj i.blk o)
  simpa using this
 ·exact zb C u (λj e g=>v (by rw[e,g]))
 ·exact zb (zb i.crow f (λj e y=>s j y e)) u (λj e g=>q (by rw[e,g]))
 ·rw[vp] at d⊢
  rcases d with d|d|d
  ·exact .inl (.inl d)
  ·exact(l j d).imp (λe=>.inr (.inl e)) id
  ·exact .inl (.inr (.inr d))
 ·refine zdp v q λj e g=>?_
  rcases l j e with h1|h1
  ·exact s j h1 g
  ·have:=k j g;omega
end
theorem GC.tri {w0 w:World} {p N:Nat} {V:Nat→Prop} {G:List yW} (h:GC w0 w p V G N):∃m sq L,GR w0 w p m sq L∧V=(λj=>j∈yQ p m L)∧L.map yJ.t3=JE G∧sq≤N:=by
 obtain⟨m,sq,L,e,f,d,a,c⟩:=h.ex
 refine⟨m,sq,L,e,f,?_,c⟩
 rw[JE]
 conv=>rhs;rw[←d]
 rw[map_map]
 refine map_congr_left λr b=>?_
 simp only[yJ.t3,Function.comp,a r b,d]
theorem GC.of_tri {w0 w:World} {p m sq N:Nat} {G:List yW} {L:List yJ} (g:GR w0 w p m sq L) (c:L.map yJ.t3=JE G) (b:sq≤N) (ok:GOk G) (f:G.length≤N):GC w0 w p (λj=>j∈yQ p m L) G N:=by
 refine⟨⟨m,sq,L,g,rfl,?_,λr a=>?_,b⟩,ok,f⟩
 ·have:=congrArg (List.map λt:Tri=>(⟨t.1,t.2.1⟩:yW)) c
  rw[map_map,JE,map_map] at this
  refine this.trans ?_
  conv=>rhs;rw[←List.map_id G]
  rfl
 ·have d:r.t3∈JE G:=by rw[←c];exact mem_map.2 ⟨r,a,rfl⟩
  obtain⟨n,h,e⟩:=mem_map.1 d
  unfold yJ.t3 at e
  injection e with e1 e2
  injection e2 with e2 e3
  rw[←e3,e1]
def zcl (x:zd) (done:List zd) (t:Tri):Tri:=(t.1,t.2.1,if t.1∈done then t.2.2.filter (λy=>decide (y≠x)) else t.2.2)
def zaS (x:zd) (ps done:List zd) (t:Tri):Tri:=(t.1,if t.1∈done then t.2.1.filter (λy=>decide (y≠x)) else t.2.1,if t.1∈ps then t.2.2.filter (λy=>decide (y≠x)) else t.2.2)
theorem zcI {x:zd} {l:List zd} (h:x∉l):l.filter (λy=>decide (y≠x))=l:=filter_eq_self.2 λy a=>by simp;rintro rfl;exact h a
theorem zkO {G:List yW} (ok:GOk G) (x:zd):JE (Qx G x)=((JE G).map (zaS x (par G x) (kid G x))).filter λt=>decide (t.1≠x):=by
 have j:∀y,kid (Qx G x) y=if y=x then[] else(kid G y).filter λz=>decide (z≠x):=by
  intro y
  by_cases e:y=x
  ·subst e
   rw[if_pos rfl]
   refine List.eq_nil_iff_forall_not_mem.2 λz l=>?_
   obtain⟨n,c,-,k⟩:=zba.1 l
   unfold Qx at c
   obtain⟨o,-,rfl⟩:=mem_map.1 c
   simp at k
  ·rw[if_neg e]
   unfold kid Qx
   rw[filter_map,map_map,List.filter_filter,filter_map,List.filter_filter]
   congr 1
   refine List.filter_congr λn _=>?_
   simp only[Function.comp,mem_filter,ne_eq,e,decide_not]
   rw[Bool.and_comm]
   simp
 unfold JE
 conv=>lhs;unfold Qx
 rw[map_map,map_map,filter_map]
 have a:G.filter ((λt:Tri=>decide (t.1≠x))∘(zaS x (par G x) (kid G x)∘λn=>(n.id,n.ps,kid G n.id)))=G.filter λn=>decide (n.id≠x):=rfl
 rw[a]
 refine map_congr_left λn c=>?_
 obtain⟨f,b⟩:=mem_filter.1 c
 simp only[decide_eq_true_eq] at b
 simp only[Function.comp,zaS]
 refine Prod.ext rfl (Prod.ext ?_ ?_)
 ·show n.ps.filter (λy=>decide (y≠x))=if n.id∈kid G x then n.ps.filter (λy=>decide (y≠x)) else n.ps
  by_cases h:n.id∈kid G x
  ·rw[if_pos h]
  ·rw[if_neg h]
   exact zcI λg=>h (zba.2 ⟨n,f,rfl,g⟩)
 ·show kid (Qx G x) n.id=if n.id∈par G x then(kid G n.id).filter (λy=>decide (y≠x)) else kid G n.id
  rw[j,if_neg b]
  by_cases h:n.id∈par G x
  ·rw[if_pos h]
  ·rw[if_neg h]
   refine zcI λg=>h ?_
   obtain⟨o,d,rfl,i⟩:=zba.1 g
   rw[JC ok d]
   exact i
def zng (w0 w:World) (p:Nat) (V:Nat→Prop) (G:List yW) (N:Nat) (x:zd) (e:Ending) (w':World):Prop:=
 e=.returned (.tuple #[])∧∃V',GC w0 w' p V' (Qx G x) N∧Fr V w w'∧∀j,V' j→V j
structure zaD (w0 w wr:World) (p m sq:Nat) (L L':List yJ) (T:List Tri) (r0:yJ):Prop where
 gr:GR w0 wr p m sq L'
 tri:L'.map yJ.t3=T
 r0:r0∈L'
 sub:∀j∈yQ p m L',j∈yQ p m L
 fr:Fr (λj=>j∈yQ p m L) w wr
section
variable {w0 w:World} {p m sq:Nat}
theorem zeq {wr e:World} {L A B:List yJ} {r d a:yJ} {T g:List Tri} (h:zaD w0 w wr p m sq L (A++r::B) T d) (l:GR w0 e p m sq (A++a::B)) (f:Fr (λj=>j∈r.blks) wr e) (n:∀j∈a.blks,j∈r.blks) (c:d.id≠r.id) (k:(A++a::B).map yJ.t3=g):zaD w0 w e p m sq L (A++a::B) g d:=by
 refine⟨l,k,?_,λj b=>h.sub j ?_,h.fr.trans f λi _ hi=>h.sub i ?_⟩
 ·rcases mem_append.1 h.r0 with h1|h1
  ·exact mem_append.2 (.inl h1)
  ·rcases mem_cons.1 h1 with rfl|h1
   ·exact absurd rfl c
   ·exact mem_append.2 (.inr (List.mem_cons_of_mem _ h1))
 ·rw[xF] at b⊢
  simp only[mem_append] at b⊢
  exact b.imp id (λh=>h.imp (n j) id)
 ·rw[xF]
  simp[hi]
end
section
variable {w0 w:World} {p m sq:Nat}
theorem zaD.fr0 {wr c:World} {L a:List yJ} {T:List Tri} {b:yJ} (h:zaD w0 w wr p m sq L a T b) (f:Fr No wr c):zaD w0 w c p m sq L a T b:=
 ⟨h.gr.fr0 f,h.tri,h.r0,h.sub,h.fr.trans0 f⟩
theorem GR.lookR {L:List yJ} (h:GR w0 w p m sq L) {r:yJ} (a:r∈L) (w':World) (b:∀M,qH w m M→qH w' m M):(Instr.lookup 197 (.map (some m)) (.agg (zf r.id).toArray) false).run prog w'=.ok (.pointer (some ⟨r.b,0,none⟩)) w':=
 (h.run_look (h.ok r a).1 false rfl).1 r a rfl w' b
theorem GR.dis {A B:List yJ} {r:yJ} (h:GR w0 w p m sq (A++r::B)) {j:Nat} (d:r.pv.ownBlock=some j∨r.cv.ownBlock=some j):j≠p∧j≠m∧j≠r.b∧j<w.heap.size:=by
 have a:=h.apart
 rw[xF] at a
 have b:j∈r.blks:=vp.2 (.inr d)
 have c:=(nodup_append.1 a).2.2
 refine⟨λe=>c p (by simp) j (by simp[b]) e.symm,λe=>c m (by simp) j (by simp[b]) e.symm,λe=>?_,(h.node r (by simp)).hi j b⟩
 obtain⟨f,g,-⟩:=Qt h.blks_nodup
 subst e
 exact d.elim f g
end
theorem YB {ps:List zd} {n:Nat} {q:zd} (h:ps[n]? =some q):ps.take (n+1)=ps.take n++[q]:=by rw[List.take_add_one,h];rfl
theorem X6 {ps:List zd} {n:Nat} {q:zd} (c:ps.Nodup) (h:ps[n]? =some q):q∉ps.take n:=by
 intro b
 obtain⟨i,hi⟩:=List.mem_iff_getElem?.1 b
 have a:=(List.getElem?_eq_some_iff.1 hi).1
 simp only[List.length_take] at a
 rw[List.getElem?_take_of_lt (by omega)] at hi
 have:=(List.getElem?_inj (List.getElem?_eq_some_iff.1 hi).1 c).1 (hi.trans h.symm)
 omega
section
variable {w0 w:World} {p N:Nat} {V:Nat→Prop} {G:List yW}
theorem znq (h:GC w0 w p V G N) (hN:N≤1000) {x:zd} (hx:zX x) (aq:x∈ids G):
  Calls prog 132 #[.pointer (some ⟨p,0,none⟩),.agg (zf x).toArray] w (zng w0 w p V G N x):=by
 obtain⟨m,sq,L,hr,rfl,Q,aW⟩:=h.tri
 obtain⟨A0,a,B0,aP,ao,t0,bg,bd,bb⟩:=Vj (f:=id) (λ_=>rfl) (by rw[Q,List.map_id]) (q:=x) (by rw[J5];exact aq)
 have ag:a∈L:=by rw[aP];simp
 obtain⟨n0,aU,e0⟩:=mem_map.1 (show a.t3∈JE G by rw[←Q];exact mem_map.2 ⟨a,ag,rfl⟩)
 have O:a.ps=par G x:=by
  unfold yJ.t3 at e0
  injection e0 with k C
  injection C with C e3
  rw[←C,←ao,←k,JC h.gok aU]
 have T:a.ks=kid G x:=by
  unfold yJ.t3 at e0
  injection e0 with k C
  injection C with C e3
  rw[←e3,←ao,←k]
 have a8:=@J (a.ps.Nodup) (by rw[O];obtain⟨n1,ae,k⟩:=Ji.1 aq;rw[←k,JC h.gok ae];exact h.gok.pn n1 ae)
 have a1:=@J (a.ks.Nodup) (by rw[T];exact zhV h.gok x)
 have a7:=@J (∀q∈a.ps,q∈ids G) (λq s=>zdM h.gok (x:=x) (by rw[←O];exact s))
 have aZ:=@J (∀q∈a.ks,q∈ids G) (λq s=>((Vn h.gok (x:=x)).1 (by rw[←T];exact s)).1)
 have aK:=@J (∀q∈a.ps,x≠q) (λq s e=>by
  rw[O,←e] at s
  have:=zct h.gok (x:=x) (y:=x)
  obtain⟨n1,ae,k⟩:=Ji.1 aq
  obtain⟨A,B,C⟩:=List.append_of_mem ae
  rw[←k,JC h.gok ae] at s
  have h1:=h.gok.top A n1 B C _ s
  have h2:=h.gok.nd
  rw[C] at h2
  simp only[ids,map_append,map_cons] at h1 h2
  exact(nodup_append.1 h2).2.2 _ h1 n1.id (by simp) rfl)
 have a6:=@J (∀q∈a.ks,x≠q) (λq s e=>by
  rw[T,←e] at s
  exact aK.o x (by rw[O];exact((Vn h.gok).1 s).2) rfl)
 have PL:=@J (a.ps.length≤1000) (by rw[O];have:=zdL h.gok x;have:=h.len;omega)
 have KL:=@J (a.ks.length≤1000) (by rw[T];have:=za7 (G:=G) x;have:=h.len;omega)
 have an:=@J (zX a.id∧(∀y∈a.ps,zX y)∧∀y∈a.ks,zX y) (hr.ok a ag)
 have TN:=@J (((JE G).map (·.1)).Nodup) (by rw[J5];exact h.gok.nd)
 have aY:=@J (JE (Qx G x)=((JE G).map (zaS x a.ps a.ks)).filter λt=>decide (t.1≠x)) (by rw[O,T];exact zkO h.gok x)
 have aO:=@J (∀t∈JE G,t.2.1.length≤1000∧t.2.2.length≤1000) (λt P=>by
  obtain⟨n,hn,rfl⟩:=mem_map.1 P
  have h1:=zdL h.gok n.id
  rw[JC h.gok hn] at h1
  have h2:=za7 (G:=G) n.id
  have:=h.len
  exact⟨le_trans h1 (by omega),le_trans h2 (by omega)⟩)
 have aG:=J (zdu h.gok [x])
 rw[←zjc] at aG
 have aX:=@J ((Qx G x).length≤N) (by unfold Qx;rw[length_map];exact le_trans (List.length_filter_le _ _) h.len)
 have aB:=J hx
 have HX:=J (zx hx)
 have f1:Fr No w (w.alloc (.cells (zf x).toArray 41)):=(frN w).alloc _
 have RX:=J (zy w (zf x) 41)
 have c0:=f1.cell (Q0 hr.obj).1 id
 have HW:=J hr.hi
 have aw:=hr.fr0 f1
 have ay:=J (aw.lookR ag)
 rw[ao] at ay
 have aN:=@J (zaD w0 w (w.alloc (.cells (zf x).toArray 41)) p m sq L L ((JE G).map (zcl x (a.ps.take 0))) a) (⟨aw,by
  rw[Q]
  conv=>lhs;rw[←List.map_id (JE G)]
  exact map_congr_left λt _=>by simp[zcl],ag,λ_ h=>h,f1.of0⟩)
 have SQ:=J aW
 have R:=J ao
 clear h hr Q aP bg bd bb aU e0 O T aq hx aW aw ag
 go_enter Tryz.func132,Tryz.ntmps132
 go_wp2_with fail
 have HB:=@J (w.heap.size<(w.alloc (.cells (zf x).toArray 41)).heap.size) (by simp)
 generalize bj:w.heap.size=bx at*
 generalize w.alloc (.cells (zf x).toArray 41)=w1 at*
 refine wrLx [ff,ff,ff,ff,ff,ff,ff] (λw'=>w'.cell? ⟨p,0,none⟩=some (.map (some m))∧w'.rangeAt bx 0 (zf x)∧(∀M,qH w1 m M→qH w' m M)) ?_ (λK hK=>?_)
 ·exact⟨(frN _).drew.cell c0 id,za RX.o (frN _).drew id,λM hM=>hM.keep (frN _).drew id⟩
 repeat((first|(refine zj rfl ?_;constructor;constructor;(focus(first|exact zn7 rfl (λw h=>h.2.1) HX.o|exact λw' h=>zQ (t:=197) rfl rfl rfl (ay.o w' h.2.2)|(rintro w' ⟨s1,s2,s3⟩;go_simp;(try with_reducible rfl);done))))|(refine zl rfl ?_));try simp only[Act.put,pA,pB,pC])
 refine zL (hK.out _ _ ?_)
 have F:=J (aN.o.fr0 (frN _).drew)
 have aL:=J (za RX.o (frN _).drew id)
 have aH:=@J (bx<w1.drew.heap.size) (HB.o)
 clear c0 ay aN RX HB
 generalize w1.drew=w2 at*
 obtain⟨pa,pc,aD⟩:=(F.o.gr.node a F.o.r0).prow.slice.arg.form
 obtain⟨ca,cc,aS⟩:=(F.o.gr.node a F.o.r0).crow.slice.arg.form
 have cp:=(Y7 (F.o.gr.node a F.o.r0).blk).2.1
 rw[aD] at cp
 have PV:=J aD
 have CV:=J aS
 clear aD aS
 go_wp2_with fail
 go_loopw [22] (λiv wr=>∃(n:Nat) (L':List yJ),iv=.int .i64 n∧n≤a.ps.length∧zaD w0 w wr p m sq L L' ((JE G).map (zcl x (a.ps.take n))) a∧wr.rangeAt bx 0 (zf x)∧bx<wr.heap.size) (λiv _=>a.ps.length-(intOf iv).toNat)
 case atStart=>exact⟨0,L,rfl,zero_le _,F.o,aL.o,aH.o⟩
 case round=>
  obtain⟨n,L',rfl,hn,b,D,u⟩:=hrel
  by_cases h:n<a.ps.length
  ·have i1:(n:Int)<(a.ps.length:Int):=by omega
   obtain⟨q,s⟩:∃q,a.ps[n]? =some q:=⟨_,getElem?_eq_getElem h⟩
   have QM:=J (mem_of_getElem? s)
   obtain⟨A,r,B,rfl,ah,t,P,ak,aj⟩:=Vj (f:=zcl x (a.ps.take n)) (λ_=>rfl) b.tri (q:=q) (by rw[J5];exact a7.o q QM.o)
   have H:=(b.gr.node a b.r0).prow
   rw[PV.o] at H
   obtain⟨bq,oq,cq,aF,ai,-⟩:=(y3.own H an.o.2.1).at_ s
   cases aF
   have az:=J (an.o.2.1 q QM.o)
   have Y:=J (zx az.o)
   have R1:=J ai
   have FA:=J ((frN wr).alloc (.cells (zf q).toArray 41))
   have RN:=J (zy wr (zf q) 41)
   have c:=J (b.fr0 FA.o)
   have ab:=J (za D FA.o id)
   have X:=J (lt_of_lt_of_le u FA.o.size)
   have av:=J u
   have QT:=J (YB s)
   have QN:=J (X6 a8.o s)
   have QX:=J (aK.o q QM.o)
   have bc:=PL.o
   have ax:=@J (r.ks.length≤1000) (by
    have h1:=aO.o t P
    have k:=congrArg (λz:Tri=>z.2.2) aj
    simp only[zcl,yJ.t3] at k
    rw[ak,if_neg QN.o] at k
    rw[←k]
    exact h1.2)
   clear b D u s ai H aj P ak
   subst ah
   go_wp2_with (first|(refine zn3 rfl rfl rfl R1.o Y.o ?_)|(refine zi rfl (zm (w:=wr) (cs:=zf r.id) (ty:=41) rfl rfl rfl (by rw[Y.o];rfl) (by rw[Y.o];exact yp) zS) ?_))
   generalize bf:wr.heap.size=q4 at*
   generalize wr.alloc (.cells (zf r.id).toArray 41)=E at*
   have RM:=@J (r∈A++r::B) (by simp)
   have ND:=J (c.o.gr.node r RM.o)
   have aa:=@J (zX r.id∧(∀y∈r.ps,zX y)∧∀y∈r.ks,zX y) (c.o.gr.ok r RM.o)
   have o:=J (λj (d:r.cv.ownBlock=some j)=>c.o.gr.dis (A:=A) (B:=B) (j:=j) (.inr d))
   have U:=@J (∀j∈r.blks,j<bx) (λj d=>HW.o j (c.o.sub j (by rw[xF];simp[d])))
   have Z:=@J (∀j,r.cv.ownBlock=some j→j<bx) (λj d=>U.o j (vp.2 (.inr (.inr d))))
   have LK:=J (c.o.gr.lookR RM.o)
   have KP:=J (λ(w':World) (f:Fr (λj=>r.cv.ownBlock=some j) E w')=>(⟨f.cell (Q0 c.o.gr.obj).1 (λe=>(o.o _ e).1 rfl),za RN.o f (λe=>by have:=Z.o _ e;have:=av.o;omega),λM hM=>hM.keep f (λe=>(o.o _ e).2.1 rfl),f.cell (Y7 ND.o.blk).2.2.1 (λe=>(o.o _ e).2.2.1 rfl)⟩:w'.cell? ⟨p,0,none⟩=some (.map (some m))∧w'.rangeAt q4 0 (zf r.id)∧(∀M,qH E m M→qH w' m M)∧w'.cell? ⟨r.b,2,none⟩=some r.cv))
   have FZ:=J (λ(w':World) (f:Fr (λj=>r.cv.ownBlock=some j) E w')=>(⟨(Y7 (f.obj ND.o.blk (λe=>(o.o _ e).2.2.1 rfl))).2.2.1,(Y7 (f.obj ND.o.blk (λe=>(o.o _ e).2.2.1 rfl))).2.2.2.2.2⟩:w'.cell? ⟨r.b,2,none⟩=some r.cv∧w'.frozen? ⟨r.b,2,none⟩=false))
   refine ym [ff,ff,ff,ff,ff,ff,ff,ff,ff,ff,ff,ff,ff,ff,ff,ff,tt,ff,ff,tt] (λw'=>w'.cell? ⟨p,0,none⟩=some (.map (some m))∧w'.rangeAt q4 0 (zf r.id)∧(∀M,qH E m M→qH w' m M)∧w'.cell? ⟨r.b,2,none⟩=some r.cv) (by kernel_rfl) (by kernel_rfl) 19 (by kernel_rfl) (by kernel_rfl) ?_ (λK hK=>?_)
   ·exact KP.o _ (frN _).drew.of0
   repeat((first|(refine z7 rfl ?_;constructor;constructor;(focus(first|exact zn7 rfl (λw h=>h.2.1) Y.o|exact λw' h=>zQ (t:=197) rfl rfl rfl (LK.o w' h.2.2.1)|(rintro w' ⟨s1,s2,s3,s4⟩;go_simp;(try with_reducible rfl);done))))|(refine ya rfl ?_));try simp only[Act.put,pA,pB,pC])
   (refine z6 rfl (λK' hK'=>?_))
   go_simp
   refine(Xj (w:=E.drew) (B:=w0.heap.size) (v:=r.cv) (l:=r.ks) (zb ND.o.crow ((frN E).drew) (λ_ _=>id)) aa.o.2.2 (by have:=ax.o;omega) (za ab.o ((frN E).drew) id) aB.o (λj d e=>by have:=Z.o j d;omega) X.o).mono ?_
   rintro e w4 ⟨v4,rfl,I,ad,af⟩
   obtain⟨a4,c4,al⟩:=I.slice.arg.form
   generalize aV:List.length _=bh at al
   subst al
   have F4:=@J (Fr (λj=>r.cv.ownBlock=some j) E w4) (((frN E).drew.of0 (W:=λj=>r.cv.ownBlock=some j)).trans ad (λ_ _ h=>h))
   have O4:=J I
   have N4:=J af
   clear I ad af
   refine hK'.out _ _ (λ_=>?_) (λhS=>?_)
   ·exact KP.o _ F4.o
   try simp only[Act.put,pA,pB,pC]
   repeat((first|(refine z7 rfl ?_;constructor;constructor;(focus(first|exact zn7 rfl (λw h=>h.2.1) Y.o|exact λw' h=>zQ (t:=197) rfl rfl rfl (LK.o w' h.2.2.1)|(rintro w' ⟨s1,s2,s3,s4⟩;go_simp;(try with_reducible rfl);done))))|(refine ya rfl ?_));try simp only[Act.put,pA,pB,pC])
   obtain⟨z1,z2⟩:=FZ.o _ F4.o
   (refine z6 rfl (λK' hK'=>?_))
   go_simp
   refine hK'.out _ _ (λh=>absurd rfl h) (λhS=>?_)
   refine xD (hK.out _ _ ?_)
   obtain⟨g5,f5⟩:=c.o.gr.setc F4.o O4.o (λj d=>.inl (N4.o j d)) (λy hy=>aa.o.2.2 y (mem_filter.1 hy).1)
   have F5:=J f5
   have aA:=J (zeq c.o g5 f5 (λj d=>by
    rw[vp] at d⊢
    exact d.imp id (λh=>h.imp id (N4.o j))) (by rw[R.o];exact QX.o) (step_map (f:=zcl x (a.ps.take n)) (g:=zcl x (a.ps.take (n+1))) TN.o (λ_=>rfl) c.o.tri rfl (λt P k C=>by
    simp only[yJ.t3,zcl] at C⊢
    rw[k,if_neg QN.o] at C
    rw[k,QT.o,if_pos (by simp)]
    injection C with C e3
    injection e3 with e3 e4
    rw[e3,e4]) (λt P k=>by
    simp only[zcl,QT.o,mem_append,mem_singleton,k,or_false])))
   clear g5 f5 z1 z2
   go_wp2_with fail
   go_roundw
   case rel=>exact⟨n+1,_,by simp,by omega,aA.o,za ab.o F5.o (λe=>by have:=U.o _ e;omega),lt_of_lt_of_le X.o F5.o.size⟩
   case measure=>show a.ps.length-(n+1)<a.ps.length-n;omega
  ·have i1:¬(n:Int)<(a.ps.length:Int):=by omega
   have aC:n=a.ps.length:=by omega
   subst aC
   rw[take_length] at b
   have ck:=(Y7 (b.gr.node a b.r0).blk).2.2.1
   rw[CV.o] at ck
   have S:=J b
   have aM:=J D
   have aI:=J u
   clear b D u F aL aH
   go_wp2_with fail
   go_loopw [51] (λiv wr=>∃(n:Nat) (L':List yJ),iv=.int .i64 n∧n≤a.ks.length∧zaD w0 w wr p m sq L L' ((JE G).map (zaS x a.ps (a.ks.take n))) a∧wr.rangeAt bx 0 (zf x)∧bx<wr.heap.size) (λiv _=>a.ks.length-(intOf iv).toNat)
   case atStart=>exact⟨0,_,rfl,zero_le _,⟨S.o.gr,S.o.tri.trans (map_congr_left λt _=>by simp[zcl,zaS]),S.o.r0,S.o.sub,S.o.fr⟩,aM.o,aI.o⟩
   case round=>
    obtain⟨n,L',rfl,hn,b,D,u⟩:=hrel
    by_cases h:n<a.ks.length
    ·have i1:(n:Int)<(a.ks.length:Int):=by omega
     obtain⟨q,s⟩:∃q,a.ks[n]? =some q:=⟨_,getElem?_eq_getElem h⟩
     have QM:=J (mem_of_getElem? s)
     obtain⟨A,r,B,rfl,ah,t,P,ak,aj⟩:=Vj (f:=zaS x a.ps (a.ks.take n)) (λ_=>rfl) b.tri (q:=q) (by rw[J5];exact aZ.o q QM.o)
     have H:=(b.gr.node a b.r0).crow
     rw[CV.o] at H
     obtain⟨bq,oq,cq,aF,ai,-⟩:=(y3.own H an.o.2.2).at_ s
     cases aF
     have az:=J (an.o.2.2 q QM.o)
     have Y:=J (zx az.o)
     have R1:=J ai
     have FA:=J ((frN wr).alloc (.cells (zf q).toArray 41))
     have RN:=J (zy wr (zf q) 41)
     have c:=J (b.fr0 FA.o)
     have ab:=J (za D FA.o id)
     have X:=J (lt_of_lt_of_le u FA.o.size)
     have av:=J u
     have QT:=J (YB s)
     have QN:=J (X6 a1.o s)
     have QX:=J (a6.o q QM.o)
     have bc:=KL.o
     have ax:=@J (r.ps.length≤1000) (by
      have h1:=aO.o t P
      have k:=congrArg (λz:Tri=>z.2.1) aj
      simp only[zaS,yJ.t3] at k
      rw[ak,if_neg QN.o] at k
      rw[←k]
      exact h1.1)
     clear b D u s ai H aj P ak
     subst ah
     go_wp2_with (first|(refine zn3 rfl rfl rfl R1.o Y.o ?_)|(refine zi rfl (zm (w:=wr) (cs:=zf r.id) (ty:=41) rfl rfl rfl (by rw[Y.o];rfl) (by rw[Y.o];exact yp) zS) ?_))
     generalize bf:wr.heap.size=q4 at*
     generalize wr.alloc (.cells (zf r.id).toArray 41)=E at*
     have RM:=@J (r∈A++r::B) (by simp)
     have ND:=J (c.o.gr.node r RM.o)
     have aa:=@J (zX r.id∧(∀y∈r.ps,zX y)∧∀y∈r.ks,zX y) (c.o.gr.ok r RM.o)
     have o:=J (λj (d:r.pv.ownBlock=some j)=>c.o.gr.dis (A:=A) (B:=B) (j:=j) (.inl d))
     have U:=@J (∀j∈r.blks,j<bx) (λj d=>HW.o j (c.o.sub j (by rw[xF];simp[d])))
     have Z:=@J (∀j,r.pv.ownBlock=some j→j<bx) (λj d=>U.o j (vp.2 (.inr (.inl d))))
     have LK:=J (c.o.gr.lookR RM.o)
     have KP:=J (λ(w':World) (f:Fr (λj=>r.pv.ownBlock=some j) E w')=>(⟨f.cell (Q0 c.o.gr.obj).1 (λe=>(o.o _ e).1 rfl),za RN.o f (λe=>by have:=Z.o _ e;have:=av.o;omega),λM hM=>hM.keep f (λe=>(o.o _ e).2.1 rfl),f.cell (Y7 ND.o.blk).2.1 (λe=>(o.o _ e).2.2.1 rfl)⟩:w'.cell? ⟨p,0,none⟩=some (.map (some m))∧w'.rangeAt q4 0 (zf r.id)∧(∀M,qH E m M→qH w' m M)∧w'.cell? ⟨r.b,1,none⟩=some r.pv))
     have FZ:=J (λ(w':World) (f:Fr (λj=>r.pv.ownBlock=some j) E w')=>(⟨(Y7 (f.obj ND.o.blk (λe=>(o.o _ e).2.2.1 rfl))).2.1,(Y7 (f.obj ND.o.blk (λe=>(o.o _ e).2.2.1 rfl))).2.2.2.2.1⟩:w'.cell? ⟨r.b,1,none⟩=some r.pv∧w'.frozen? ⟨r.b,1,none⟩=false))
     refine ym [ff,ff,ff,ff,ff,ff,ff,ff,ff,ff,ff,ff,ff,ff,ff,ff,tt,ff,ff,tt] (λw'=>w'.cell? ⟨p,0,none⟩=some (.map (some m))∧w'.rangeAt q4 0 (zf r.id)∧(∀M,qH E m M→qH w' m M)∧w'.cell? ⟨r.b,1,none⟩=some r.pv) (by kernel_rfl) (by kernel_rfl) 19 (by kernel_rfl) (by kernel_rfl) ?_ (λK hK=>?_)
     ·exact KP.o _ (frN _).drew.of0
     repeat((first|(refine z7 rfl ?_;constructor;constructor;(focus(first|exact zn7 rfl (λw h=>h.2.1) Y.o|exact λw' h=>zQ (t:=197) rfl rfl rfl (LK.o w' h.2.2.1)|(rintro w' ⟨s1,s2,s3,s4⟩;go_simp;(try with_reducible rfl);done))))|(refine ya rfl ?_));try simp only[Act.put,pA,pB,pC])
     (refine z6 rfl (λK' hK'=>?_))
     go_simp
     refine(Xj (w:=E.drew) (B:=w0.heap.size) (v:=r.pv) (l:=r.ps) (zb ND.o.prow ((frN E).drew) (λ_ _=>id)) aa.o.2.1 (by have:=ax.o;omega) (za ab.o ((frN E).drew) id) aB.o (λj d e=>by have:=Z.o j d;omega) X.o).mono ?_
     rintro e w4 ⟨v4,rfl,I,ad,af⟩
     obtain⟨a4,c4,al⟩:=I.slice.arg.form
     generalize aV:List.length _=bh at al
     subst al
     have F4:=@J (Fr (λj=>r.pv.ownBlock=some j) E w4) (((frN E).drew.of0 (W:=λj=>r.pv.ownBlock=some j)).trans ad (λ_ _ h=>h))
     have O4:=J I
     have N4:=J af
     clear I ad af
     refine hK'.out _ _ (λ_=>?_) (λhS=>?_)
     ·exact KP.o _ F4.o
     try simp only[Act.put,pA,pB,pC]
     repeat((first|(refine z7 rfl ?_;constructor;constructor;(focus(first|exact zn7 rfl (λw h=>h.2.1) Y.o|exact λw' h=>zQ (t:=197) rfl rfl rfl (LK.o w' h.2.2.1)|(rintro w' ⟨s1,s2,s3,s4⟩;go_simp;(try with_reducible rfl);done))))|(refine ya rfl ?_));try simp only[Act.put,pA,pB,pC])
     obtain⟨z1,z2⟩:=FZ.o _ F4.o
     (refine z6 rfl (λK' hK'=>?_))
     go_simp
     refine hK'.out _ _ (λh=>absurd rfl h) (λhS=>?_)
     refine xD (hK.out _ _ ?_)
     obtain⟨g5,f5⟩:=c.o.gr.setp F4.o O4.o (λj d=>.inl (N4.o j d)) (λy hy=>aa.o.2.1 y (mem_filter.1 hy).1)
     have F5:=J f5
     have aA:=J (zeq c.o g5 f5 (λj d=>by
      rw[vp] at d⊢
      exact d.imp id (λh=>h.imp (N4.o j) id)) (by rw[R.o];exact QX.o) (step_map (f:=zaS x a.ps (a.ks.take n)) (g:=zaS x a.ps (a.ks.take (n+1))) TN.o (λ_=>rfl) c.o.tri rfl (λt P k C=>by
      simp only[yJ.t3,zaS] at C⊢
      rw[k,if_neg QN.o] at C
      rw[k,QT.o,if_pos (by simp)]
      injection C with C e3
      injection e3 with e3 e4
      rw[e3,e4]) (λt P k=>by
      simp only[zaS,QT.o,mem_append,mem_singleton,k,or_false])))
     clear g5 f5 z1 z2
     go_wp2_with fail
     go_roundw
     case rel=>exact⟨n+1,_,by simp,by omega,aA.o,za ab.o F5.o (λe=>by have:=U.o _ e;omega),lt_of_lt_of_le X.o F5.o.size⟩
     case measure=>show a.ks.length-(n+1)<a.ks.length-n;omega
    ·have i1:¬(n:Int)<(a.ks.length:Int):=by omega
     have aC:n=a.ks.length:=by omega
     subst aC
     rw[take_length] at b
     obtain⟨M,hM,aR⟩:=b.gr.map
     obtain⟨w5,M',aT,aQ,ar,aE,-⟩:=(hM.keep (frN wr).drew id).del xT.keyed J7 (λ_ _=>yY) (yq aB.o) 0 41
     obtain⟨A,B,rfl⟩:=List.append_of_mem b.r0
     have G5:=J (b.gr.del aR aQ (by rw[R.o];exact ar) (((frN wr).drew.of0 (W:=λj=>j=m)).trans aE.fr (λ_ _ h=>h)))
     have F5:=@J (Fr (λj=>j∈yQ p m L) w w5) (b.fr.trans (((frN wr).drew.of0 (W:=λj=>j=m)).trans aE.fr (λ_ _ h=>h)) (λi _ e=>b.sub i (by rw[e];simp[yQ])))
     have T5:=@J ((A++B).map yJ.t3=JE (Qx G x)) (by
      rw[aY.o,←b.tri,map_append (l₁:=A) (l₂:=a::B),map_cons,List.filter_append,List.filter_cons_of_neg (by simp[yJ.t3,R.o]),map_append]
      have au:=b.gr.idn
      rw[map_append,map_cons] at au
      obtain⟨i1,i2,i3⟩:=nodup_append.1 au
      congr 1
      ·refine(filter_eq_self.2 λt P=>?_).symm
       obtain⟨r,hr,rfl⟩:=mem_map.1 P
       exact decide_eq_true λ(e:r.id=x)=>i3 r.id (mem_map.2 ⟨r,hr,rfl⟩) a.id (by simp) (by rw[e,R.o])
      ·refine(filter_eq_self.2 λt P=>?_).symm
       obtain⟨r,hr,rfl⟩:=mem_map.1 P
       exact decide_eq_true λ(e:r.id=x)=>(nodup_cons.1 i2).1 (by rw[R.o,←e];exact mem_map.2 ⟨r,hr,rfl⟩))
     have SB:=@J (∀j∈yQ p m (A++B),j∈yQ p m L) (λj d=>b.sub j (by
      rw[xF]
      simp only[yQ,flatMap_append,mem_cons,mem_append] at d⊢
      rcases d with h|h|h|h
      ·exact .inl (.inl h)
      ·exact .inl (.inr (.inl h))
      ·exact .inl (.inr (.inr h))
      ·exact .inr (.inr h)))
     have c0:=(Q0 b.gr.obj).1
     have ba:=J D
     have aJ:=J aT
     clear b D u hM aR aT aQ ar aE S aM aI
     unfold xp at aJ
     go_wp2_with fail
     refine ym [ff,ff,ff,ff,ff,tt] (λw'=>w'.cell? ⟨p,0,none⟩=some (.map (some m))∧w'.rangeAt bx 0 (zf x)) (by kernel_rfl) (by kernel_rfl) 5 (by kernel_rfl) (by kernel_rfl) ?_ (λK hK=>?_)
     ·exact⟨(frN _).drew.cell c0 id,za ba.o (frN _).drew id⟩
     repeat((first|(refine z7 rfl ?_;constructor;constructor;(focus(first|exact zn7 rfl (λw h=>h.2) HX.o|(rintro w' ⟨s1,s2⟩;go_simp;(try with_reducible rfl);done))))|(refine ya rfl ?_));try simp only[Act.put,pA,pB,pC])
     (refine z6 rfl (λK' hK'=>?_))
     refine yj (jE rfl rfl rfl aJ.o) ?_
     refine hK'.out _ _ (λh=>absurd rfl h) (λhS=>?_)
     refine xD (hK.out _ _ ?_)
     go_wp2_with fail
     (try simp only[Exit.inBlock,Exit.then])
     refine bodyPost_ret (results_none rfl _ _ _) rfl ?_
     exact⟨rfl,_,GC.of_tri G5.o T5.o SQ.o aG.o aX.o,F5.o,SB.o⟩
end
theorem zjv (w:World) {x:zd} (d:zX x):y3 (w.alloc (.cells (zf x).toArray 41)) (.slice (some ⟨w.heap.size,0,none⟩) 1 1) [x]:=by
 refine⟨λc b=>by rw[mem_singleton.1 b];exact d,.inl (.inr ⟨w.heap.size,0,1,rfl,le_refl _,by unfold maxLen;omega,λj u a=>?_,by simp⟩)⟩
 rw[List.flatMap_cons,List.flatMap_nil,List.append_nil] at a
 exact zy w (zf x) 41 j u a
theorem zhF {G:List yW} {x:zd} (h:x∉ids G):vl G [x]=[]:=by
 refine List.eq_nil_iff_forall_not_mem.2 λy d=>?_
 obtain⟨a,c,b⟩:=Yt.1 d
 rw[mem_singleton.1 c] at b
 exact h b.right
theorem zkN {G:List yW} {l:List zd} {n:Nat} {q:zd} (a:l.Nodup) (b:∀y∈l,y∈ids G) (h:l[n]? =some q):q∈ids (ZU G (l.take n)):=
 JY.2 ⟨b q (mem_of_getElem? h),X6 a h⟩
def ziJ (w0 w:World) (p:Nat) (V:Nat→Prop) (G:List yW) (N:Nat) (x:zd) (e:Ending) (w':World):Prop:=
 ∃v,e=.returned (.tuple #[v,.int .i64 (if x∈ids G then 0 else 9)])∧∃V',GC w0 w' p V' (ZU G (vl G [x])) N∧Fr V w w'∧(∀j,V' j→V j)∧w'.ownsRow w.heap.size 41 32 v (vl G [x]).length ((vl G [x]).flatMap zf)
section
variable {w0 w:World} {p N:Nat} {V:Nat→Prop} {G:List yW}
theorem zmv (h:GC w0 w p V G N) (L:N≤1000) {x:zd} (hx:zX x):Calls prog 91 #[.pointer (some ⟨p,0,none⟩),.agg (zf x).toArray] w (ziJ w0 w p V G N x):=by
 have Y:=J (zx hx)
 have I:Fr No w (w.alloc (.cells (zf x).toArray 41)):=(frN w).alloc _
 have Z:=J (zy w (zf x) 41)
 have T:=J I
 have g:=J h
 have E:=@J ((w.alloc (.cells (zf x).toArray 41)).heap.size=w.heap.size+1) (by simp)
 have DL:=J (le_trans (zjk (G:=G) [x]) (le_trans h.len L))
 have b:=λ(w1:World) (f:Fr No w w1)=>zmu (h.fr0 (f.trans0 ((frN w1).alloc (.cells (zf x).toArray 41)))) L (zjv w1 hx) (by simp)
 have M:=b _ I
 rw[E.o] at M
 have X:=J M
 have DN:=@J ((vl G [x]).Nodup) (h.gok.nd.sublist (vm [x]))
 have C:=J (zjl (G:=G) [x])
 have d:(x∈ids G∧¬((vl G [x]).length:Int)=0)∨(x∉ids G∧((vl G [x]).length:Int)=0):=by
  by_cases a:x∈ids G
  ·obtain⟨r,hr⟩:=zhE h.gok a
   exact .inl ⟨a,by rw[hr];simp;omega⟩
  ·exact .inr ⟨a,by rw[zhF a];rfl⟩
 clear h I b M
 unfold ziJ
 generalize vl G [x]=D at*
 go_enter Tryz.func91,Tryz.ntmps91
 go_wp2_with (first|(refine zn3 rfl rfl rfl Z.o Y.o ?_)|(refine zg rfl (zU (t:=38) rfl rfl qi vU rfl (by decide) (by decide) Y.o) ?_))
 refine X.o.mono ?_
 rintro e w2 ⟨v2,rfl,S,f2⟩
 obtain⟨va,vc,rfl⟩:=S.slice.arg.form
 have u:=J ((T.o.alloc (.cells (zf x).toArray 41)).trans0 f2)
 have O2:=J (Xq S (show w.heap.size≤_ from(T.o.alloc (.cells (zf x).toArray 41)).size))
 have VW:=@J (∀j,V j→j<w.heap.size) (g.o.hi)
 clear S f2 X Z
 rcases d with⟨a,K⟩|⟨a,K⟩
 ·go_wp2_with fail
  rw[show((D.length:Int)==0)=false from by simpa using K]
  have c:=J a
  clear K a
  go_loopw [20] (λR wr=>∃(n:Nat) (V':Nat→Prop),R=.int .i64 n∧n≤D.length∧GC w0 wr p V' (ZU G (D.take n)) N∧Fr V w wr∧(∀j,V' j→V j)∧wr.ownsRow w.heap.size 41 32 (.slice va D.length vc) D.length (D.flatMap zf)) (λR _=>D.length-(intOf R).toNat)
  case atStart=>exact⟨0,V,rfl,zero_le _,by rw[List.take_zero,zbr];exact g.o.fr0 u.o,u.o.of0,λ_ h=>h,O2.o⟩
  case round=>
   obtain⟨n,V',rfl,hn,l,A,B,m⟩:=hrel
   by_cases h:n<D.length
   ·have i1:(n:Int)<(D.length:Int):=by omega
    obtain⟨q,o⟩:∃q,D[n]? =some q:=⟨_,getElem?_eq_getElem h⟩
    have QI:=J (zkN DN.o C.o o)
    have QT:=@J (ZU G (D.take (n+1))=Qx (ZU G (D.take n)) q) (by rw[YB o,zcB])
    have i:=J (g.o.okId q (C.o q (mem_of_getElem? o)))
    have v:=J (zx i.o)
    obtain⟨bq,oq,cq,Q,s,-⟩:=(y3.own m (λy hy=>g.o.okId y (C.o y hy))).at_ o
    cases Q
    have R1:=J s
    have W:=J ((frN wr).alloc (.cells (zf q).toArray 41))
    have RN:=J (zy wr (zf q) 41)
    have H:=J l
    have F:=J A
    have k:=J B
    have z:=J m
    have aa:=DL.o
    clear l A B m o s
    go_wp2_with (first|(refine zn3 rfl rfl rfl R1.o v.o ?_)|(refine zi rfl (zm (w:=wr) (cs:=zf q) (ty:=41) rfl rfl rfl (by rw[v.o];rfl) (by rw[v.o];exact yp) zS) ?_)|(refine zn3 rfl rfl rfl RN.o v.o ?_)|(go_at_call 132;refine(znq (H.o.fr0 W.o) L i.o QI.o).mono ?_;rintro e w5 ⟨rfl,V5,g5,f5,s5⟩;have G5:=J g5;have U:=J (W.o.of0.trans f5 (λ_ _ h=>h));have S5:=J s5;clear g5 f5 s5))
    go_roundw
    case rel=>exact⟨n+1,V5,by simp,by omega,by rw[QT.o];exact G5.o,F.o.trans U.o (λ_ _ h=>k.o _ h),λj O=>k.o j (S5.o j O),zb z.o U.o (λj O e=>by have:=(z.o.lt j O).1;have:=VW.o j (k.o j e);omega)⟩
    case measure=>show D.length-(n+1)<D.length-n;omega
   ·have i1:¬(n:Int)<(D.length:Int):=by omega
    have P:n=D.length:=by omega
    subst P
    rw[take_length] at l
    have H:=J l
    have F:=J A
    have k:=J B
    have z:=J m
    clear l A B m
    go_wp2_with fail
    go_ret2
    exact⟨.slice va D.length vc,by first|rfl|(rw[if_pos c.o];rfl),V',H.o,F.o,k.o,z.o⟩
 ·have h1:D=[]:=List.eq_nil_of_length_eq_zero (by omega)
  subst h1
  have h2:(([]:List zd).length:Int)=0:=rfl
  have c:=J a
  clear a
  go_wp2_with fail
  go_ret2
  exact⟨.slice none 0 0,by first|rfl|(rw[if_neg c.o];rfl),V,by rw[zbr];exact g.o.fr0 u.o,u.o.of0,λ_ h=>h,World.ownsRow_nil _ _ _ _⟩
end
theorem zfF {G:List yW} {x:zd} {l:List zd} (h:x∈ids G):zbm G x l=10:=by unfold zbm;rw[if_pos h]
theorem zhm {G:List yW} {x:zd} {l:List zd} (h:x∉ids G) (a:∃p∈l,p∉ids G):zbm G x l=9:=by unfold zbm;rw[if_neg h,if_pos a]
theorem ziQ {G:List yW} {x:zd} {l:List zd} (h:x∉ids G) (a:∀p∈l,p∈ids G) (b:¬(upS G l).length<6):zbm G x l=16:=by
 unfold zbm;rw[if_neg h,if_neg (λ⟨p,d,c⟩=>c (a p d)),if_neg b]
theorem zgD {G:List yW} {x:zd} {l:List zd} (h:x∉ids G) (a:∀p∈l,p∈ids G) (b:(upS G l).length<6):zbm G x l=0:=by
 unfold zbm;rw[if_neg h,if_neg (λ⟨p,d,c⟩=>c (a p d)),if_pos b]
def zbn (x:zd) (done:List zd) (t:Tri):Tri:=(t.1,t.2.1,if t.1∈done then t.2.2++[x] else t.2.2)
theorem zkB {G:List yW} (ok:GOk G) {x:zd} {l:List zd} (c:x∉ids G) (d:∀p∈l,p∈ids G):JE (Qc G x l)=(JE G).map (zbn x (dedup l))++[(x,dedup l,[])]:=by
 have b:∀y,kid (Qc G x l) y=kid G y++(if y∈dedup l then[x] else[]):=by
  intro y
  unfold kid Qc
  rw[List.filter_append,map_append]
  congr 1
  by_cases h:y∈dedup l
  ·rw[if_pos h,List.filter_cons_of_pos (by simpa using h)];rfl
  ·rw[if_neg h,List.filter_cons_of_neg (by simpa using h)];rfl
 have a:kid (Qc G x l) x=[]:=by
  rw[b,if_neg (λh=>c (d x (Jq.1 h))),List.append_nil]
  refine List.eq_nil_iff_forall_not_mem.2 λz e=>?_
  exact c (zdM ok ((Vn ok).1 e).2)
 unfold JE
 conv=>lhs;unfold Qc
 rw[map_append,map_map]
 congr 1
 ·refine map_congr_left λn f=>?_
  simp only[Function.comp,zbn]
  refine Prod.ext rfl (Prod.ext rfl ?_)
  show kid (Qc G x l) n.id=if n.id∈dedup l then kid G n.id++[x] else kid G n.id
  rw[b]
  split<;>simp
 ·show[(x,dedup l,kid (Qc G x l) x)]=_
  rw[a]
def zcr (w0 w:World) (p:Nat) (V:Nat→Prop) (G:List yW) (N:Nat) (x:zd) (l:List zd) (e:Ending) (w':World):Prop:=
 e=.returned (.int .i64 (zbm G x l))∧∃V',GC w0 w' p V' (if zbm G x l=0 then Qc G x l else G) (N+1)∧Fr V w w'∧∀j,V' j→V j∨w.heap.size≤j
theorem zcr.no {w0 w w':World} {p N:Nat} {V:Nat→Prop} {G:List yW} {x:zd} {l:List zd} {c:Int} (h:GC w0 w p V G N) (f:Fr No w w') (e:zbm G x l=c) (a:c≠0):zcr w0 w p V G N x l (.returned (.int .i64 c)) w':=
 ⟨by rw[e],V,by rw[if_neg (by rw[e];exact a)];exact(h.fr0 f).mono (by omega),f.of0,λ_ h=>.inl h⟩
theorem zaO {w:World} {B n k bx:Nat} {v:Value} {xs:List Value} {c:Array Value} (h:w.ownsRow B 41 k v n xs) (a:w.heap[bx]? =some (.cells c 201 (0,0))):∀j,v.ownBlock=some j→j≠bx:=by
 rcases h.2 with⟨rfl,_⟩|⟨g,d,f,rfl,_,i,_⟩
 ·intro j b;cases b
 ·intro j b e
  simp[Value.ownBlock] at b
  subst b e
  rw[i] at a
  injection a with a
  injection a with _ a
  revert a
  decide
structure zhi (w wr:World) (G:List yW) (sq nb bx:Nat) (x:zd) (l:List zd) (n:Nat) (nv:Value):Prop where
 le:n≤l.length
 sub:∀y∈l.take n,y∈ids G
 blk:wr.heap[nb]? =some (.cells #[.int .i64 ((sq:Int)+1),nv,.slice none 0 0] 201 (0,0))
 row:wr.ownsRow nb 41 32 nv (dedup (l.take n)).length ((dedup (l.take n)).flatMap zf)
 fr:Fr No w wr
 rx:wr.rangeAt bx 0 (zf x)
theorem zhi.keep {w wr d:World} {G:List yW} {c a bx n:Nat} {x:zd} {l:List zd} {b:Value} (h:zhi w wr G c a bx x l n b) (f:Fr No wr d):zhi w d G c a bx x l n b:=
 ⟨h.le,h.sub,f.obj h.blk id,zb h.row f (λ_ _=>id),h.fr.trans0 f,za h.rx f id⟩
structure zea (w0 w wr:World) (p m sq nb bx:Nat) (x:zd) (L L':List yJ) (T:List Tri) (nv:Value) (D:List zd):Prop where
 gr:GR w0 wr p m sq L'
 tri:L'.map yJ.t3=T
 sub:∀j∈yQ p m L',j∈yQ p m L∨(w.heap.size≤j∧j≠nb∧nv.ownBlock≠some j∧j≠bx)
 blk:wr.heap[nb]? =some (.cells #[.int .i64 ((sq:Int)+1),nv,.slice none 0 0] 201 (0,0))
 row:wr.ownsRow nb 41 32 nv D.length (D.flatMap zf)
 fr:Fr (λj=>j∈yQ p m L) w wr
 rx:wr.rangeAt bx 0 (zf x)
theorem zea.keep {w0 w wr e:World} {p m d b bx:Nat} {x:zd} {L a:List yJ} {T:List Tri} {c:Value} {D:List zd} (h:zea w0 w wr p m d b bx x L a T c D) (f:Fr No wr e):zea w0 w e p m d b bx x L a T c D:=
 ⟨h.gr.fr0 f,h.tri,h.sub,f.obj h.blk id,zb h.row f (λ_ _=>id),h.fr.trans0 f,za h.rx f id⟩
theorem zea.step {w0 w wr o:World} {p m n d bx:Nat} {x:zd} {L A B:List yJ} {r k:yJ} {T q:List Tri} {g:Value} {D:List zd} (h:zea w0 w wr p m n d bx x L (A++r::B) T g D) (y:GR w0 o p m n (A++k::B)) (f:Fr (λj=>j∈r.blks) wr o) (z:∀j∈k.blks,j∈r.blks∨wr.heap.size≤j) (u:(A++k::B).map yJ.t3=q) (l:∀j∈yQ p m L,j<w.heap.size) (v:bx<wr.heap.size) (C:w.heap.size≤bx∧bx≠d∧g.ownBlock≠some bx) (E:w.heap.size≤d):zea w0 w o p m n d bx x L (A++k::B) q g D:=by
 have c:∀j∈r.blks,j∈yQ p m (A++r::B):=λj a=>by rw[xF];simp[a]
 have b:∀j∈r.blks,j≠d∧g.ownBlock≠some j∧j≠bx:=λj a=>by
  rcases h.sub j (c j a) with h1|h1
  ·have:=l j h1
   refine⟨by omega,λe=>?_,by omega⟩
   have:=(h.row.lt j e).1
   omega
  ·exact h1.2
 refine⟨y,u,λj a=>?_,f.obj h.blk (λe=>(b _ e).1 rfl),zb h.row f (λj e t=>(b j t).2.1 e),h.fr.trans f (λi hi e=>?_),za h.rx f (λe=>(b _ e).2.2 rfl)⟩
 ·rw[xF] at a
  simp only[mem_append] at a
  have s:∀j,j∈(p::m::A.flatMap yJ.blks)∨j∈r.blks∨j∈B.flatMap yJ.blks→j∈yQ p m (A++r::B):=λj a=>by rw[xF];simp only[mem_append];exact a
  rcases a with a|a|a
  ·exact h.sub j (s j (.inl a))
  ·rcases z j a with h3|h3
   ·exact h.sub j (c j h3)
   ·refine .inr ⟨by have:=h.fr.size;omega,λe=>by have:=yG h.blk;omega,λe=>by have:=(h.row.lt j e).2;omega,by omega⟩
  ·exact h.sub j (s j (.inr (.inr a)))
 ·rcases h.sub i (c i e) with h1|h1
  ·exact h1
  ·omega
section
variable {w0 w:World} {p N:Nat} {V:Nat→Prop} {G:List yW}
theorem znn (h:GC w0 w p V G N) (hN:N≤900) {x:zd} (hx:zX x) {v:Value} {l:List zd} (hl:y3 w v l) (bp:l.length≤500):
  Calls prog 50 #[.pointer (some ⟨p,0,none⟩),.agg (zf x).toArray,v] w (zcr w0 w p V G N x l):=by
 obtain⟨m,C,L,hr,hV,an,aV⟩:=h.tri
 obtain⟨va,vc,rfl⟩:=hl.2.form
 have HX:=J (zx hx)
 have ay:=J hx
 have HL:=J hl
 have f1:Fr No w (w.alloc (.cells (zf x).toArray 41)):=(frN w).alloc _
 have RB:=J (zy w (zf x) 41)
 have c0:=(Q0 (f1.obj hr.obj id)).1
 have c1:=(Q0 (f1.obj hr.obj id)).2.1
 obtain⟨k1,k2⟩:=hr.run_look hx false rfl
 have KM:=J (λ(w':World) (f:Fr No (w.alloc (.cells (zf x).toArray 41)) w')=>hr.keepM (f1.trans0 f))
 have F1:=J f1
 have HI:=@J (ids G=L.map (·.id)) (by
  have:=congrArg (List.map Prod.fst) an
  rw[J5,map_map] at this
  exact this.symm)
 have HC:=J h
 have HR:=J hr
 have HV:=J hV
 have HT:=J an
 have SQ:=J aV
 clear h hr f1 hx hl hV an aV
 by_cases hin:x∈ids G
 ·have D:=J (zfF (l:=l) hin)
  rw[HI.o] at hin
  obtain⟨r,hr,rfl⟩:=mem_map.1 hin
  have K1:=J (k1 r hr rfl)
  clear k1 k2 hin hr c1
  unfold Qi at K1
  unfold xp at K1
  go_enter Tryz.func50,Tryz.ntmps50
  go_wp2_with fail
  generalize hq:w.heap.size=q at*
  generalize w.alloc (.cells (zf r.id).toArray 41)=w1 at*
  refine wrLx [ff,ff,ff,ff,ff,ff,ff] (λw'=>w'.cell? ⟨p,0,none⟩=some (.map (some m))∧w'.rangeAt q 0 (zf r.id)∧(∀M,qH w m M→qH w' m M)) ?_ (λK hK=>?_)
  ·exact⟨(frN _).drew.cell c0 id,za RB.o (frN _).drew id,KM.o _ (frN _).drew⟩
  repeat((first|(refine zj rfl ?_;constructor;constructor;(focus(first|exact zn7 rfl (λw h=>h.2.1) HX.o|exact λw' h=>zQ (t:=197) rfl rfl rfl (K1.o w' h.2.2)|(rintro w' ⟨s1,s2,s3⟩;go_simp;(try with_reducible rfl);done))))|(refine zl rfl ?_));try simp only[Act.put,pA,pB,pC])
  refine zL (hK.out _ _ ?_)
  go_wp2_with fail
  go_ret
  exact zcr.no HC.o F1.o.drew D.o (by decide)
 ·have XI:=J hin
  rw[HI.o] at hin
  have K1:=J (k2 hin)
  have bz:C≤900:=le_trans SQ.o hN
  clear k1 k2 hin
  unfold xp at K1
  go_enter Tryz.func50,Tryz.ntmps50
  go_wp2_with fail
  have aE:=@J (w.heap.size<(w.alloc (.cells (zf x).toArray 41)).heap.size) (by simp)
  generalize bC:w.heap.size=bx at*
  generalize w.alloc (.cells (zf x).toArray 41)=w1 at*
  refine wrLx [ff,ff,ff,ff,ff,ff,ff] (λw'=>w'.cell? ⟨p,0,none⟩=some (.map (some m))∧w'.rangeAt bx 0 (zf x)∧(∀M,qH w m M→qH w' m M)) ?_ (λK hK=>?_)
  ·exact⟨(frN _).drew.cell c0 id,za RB.o (frN _).drew id,KM.o _ (frN _).drew⟩
  repeat((first|(refine zj rfl ?_;constructor;constructor;(focus(first|exact zn7 rfl (λw h=>h.2.1) HX.o|exact λw' h=>zQ (t:=197) rfl rfl rfl (K1.o w' h.2.2)|(rintro w' ⟨s1,s2,s3⟩;go_simp;(try with_reducible rfl);done))))|(refine zl rfl ?_));try simp only[Act.put,pA,pB,pC])
  refine zL (hK.out _ _ ?_)
  have F2:=J (F1.o.drew)
  have bd:=J (za RB.o (frN _).drew id)
  have bm:=(frN w1).drew.cell c1 id
  have Z:=@J (bx<w1.drew.heap.size) (aE.o)
  clear c0 c1 RB F1 KM aE K1
  generalize w1.drew=w2 at*
  have aT:=ye w2 (.cells #[.int .i64 ((C:Int)+1),.slice none 0 0,.slice none 0 0] 201)
  have FN:=J ((frN w2).alloc (.cells #[.int .i64 ((C:Int)+1),.slice none 0 0,.slice none 0 0] 201))
  have bj:=@J (zhi w (w2.alloc (.cells #[.int .i64 ((C:Int)+1),.slice none 0 0,.slice none 0 0] 201)) G C w2.heap.size bx x l 0 (.slice none 0 0)) (⟨zero_le _,by simp,aT,World.ownsRow_nil _ _ _ _,F2.o.trans0 FN.o,za bd.o FN.o id⟩)
  clear aT
  go_wp2_with fail
  generalize bE:w2.heap.size=o at*
  generalize w2.alloc (.cells #[.int .i64 ((C:Int)+1),.slice none 0 0,.slice none 0 0] 201)=w3 at*
  clear bm
  go_loopw [30] (λiv wr=>∃(n:Nat) (nv:Value),iv=.int .i64 n∧zhi w wr G C o bx x l n nv) (λiv _=>l.length-(intOf iv).toNat)
  case atStart=>exact⟨0,_,rfl,bj.o⟩
  case round=>
   obtain⟨n,nv,rfl,a⟩:=hrel
   have bD:=a.le
   by_cases h:n<l.length
   ·have i1:(n:Int)<(l.length:Int):=by omega
    obtain⟨q,hq⟩:∃q,l[n]? =some q:=⟨_,getElem?_eq_getElem h⟩
    have QT:=J (YB hq)
    have ab:=J (HL.o.1 q (mem_of_getElem? hq))
    have QM:=J (mem_of_getElem? hq)
    have U:=J (zx ab.o)
    obtain⟨bq,oq,cq,aD,T,-⟩:=(HL.o.keep a.fr).at_ hq
    cases aD
    have R1:=J T
    have FA:=J ((frN wr).alloc (.cells (zf q).toArray 41))
    have RN:=J (zy wr (zf q) 41)
    have c:=J (a.keep FA.o)
    have bb:=J (λj e=>(a.row.lt j e).2)
    have aF:=@J (bx<wr.heap.size) (by have:=yG a.blk;have:=Z.o;omega)
    clear a hq T
    go_wp2_with (first|(refine zn3 rfl rfl rfl R1.o U.o ?_)|(refine zi rfl (zm (w:=wr) (cs:=zf q) (ty:=41) rfl rfl rfl (by rw[U.o];rfl) (by rw[U.o];exact yp) zS) ?_))
    generalize bt:wr.heap.size=q4 at*
    generalize wr.alloc (.cells (zf q).toArray 41)=w4 at*
    have c0:=c.o.fr.cell (Q0 HR.o.obj).1 id
    have KM:=J (λ(w':World) (f:Fr No w4 w')=>HR.o.keepM (c.o.fr.trans0 f))
    obtain⟨k1,k2⟩:=HR.o.run_look ab.o false rfl
    by_cases ae:q∈ids G
    ·have QI:=J ae
     have ak:=ae
     rw[HI.o] at ak
     obtain⟨r,hr,T⟩:=mem_map.1 ak
     have K1:=J (k1 r hr T)
     clear k1 k2 ae ak hr T
     unfold Qi at K1
     unfold xp at K1
     refine wrLx [ff,ff,ff,ff,ff,ff,ff] (λw'=>w'.cell? ⟨p,0,none⟩=some (.map (some m))∧w'.rangeAt q4 0 (zf q)∧(∀M,qH w m M→qH w' m M)) ?_ (λK hK=>?_)
     ·exact⟨(frN _).drew.cell c0 id,za RN.o (frN _).drew id,KM.o _ (frN _).drew⟩
     repeat((first|(refine zj rfl ?_;constructor;constructor;(focus(first|exact zn7 rfl (λw h=>h.2.1) U.o|exact λw' h=>zQ (t:=197) rfl rfl rfl (K1.o w' h.2.2)|(rintro w' ⟨s1,s2,s3⟩;go_simp;(try with_reducible rfl);done))))|(refine zl rfl ?_));try simp only[Act.put,pA,pB,pC])
     refine zL (hK.out _ _ ?_)
     have u:=J (c.o.keep (frN _).drew)
     have ad:=J (za RN.o (frN _).drew id)
     have O:=@J (∀y∈l.take (n+1),y∈ids G) (λy I=>by
      rw[QT.o] at I
      rcases mem_append.1 I with I|I
      ·exact c.o.sub y I
      ·rw[mem_singleton.1 I];exact QI.o)
     have X:=@J ((dedup (l.take n)).length≤500) (by have:=zcC (l.take n);simp only[List.length_take] at this;omega)
     have Y:=@J (∀y∈dedup (l.take n),zX y) (λy I=>HL.o.1 y (List.mem_of_mem_take (Jq.1 I)))
     clear c0 KM K1 c RN
     generalize w4.drew=w5 at*
     go_wp2_with fail
     have cn:=(Y7 u.o.blk).2.1
     have DS:=J (zfQ (l.take n) q)
     rw[←QT.o] at DS
     by_cases hqd:q∈dedup (l.take n)
     ·have QD:=@J (decide (q∈dedup (l.take n))=true) (decide_eq_true hqd)
      rw[if_pos hqd] at DS
      clear hqd
      refine wrLx [ff,ff,ff,ff,ff,tt,ff] (λw'=>w'.cell? ⟨o,1,none⟩=some nv∧w'.rangeAt q4 0 (zf q)) ?_ (λK hK=>?_)
      ·exact⟨(frN _).drew.cell cn id,za ad.o (frN _).drew id⟩
      repeat((first|(refine zj rfl ?_;constructor;constructor;(focus(first|exact zn7 rfl (λw h=>h.2) U.o|(rintro w' ⟨s1,s2⟩;go_simp;(try with_reducible rfl);done))))|(refine zl rfl ?_));try simp only[Act.put,pA,pB,pC])
      (refine zE rfl (λK' hK'=>?_))
      go_simp
      refine(YK _ (y3.own (zb u.o.row (frN w5).drew (λ_ _=>id)) Y.o) (by have:=X.o;omega) q ab.o).mono ?_
      rintro e w6 ⟨rfl,f6⟩
      rw[QD.o]
      have F6:=J ((frN w5).drew.trans0 f6)
      refine nXt hK' ?_ λhS=>?_
      ·exact⟨F6.o.cell cn id,za ad.o F6.o id⟩
      try simp only[Act.put,pA,pB,pC]
      repeat((first|(refine zj rfl ?_;constructor;constructor;(focus(rintro w' ⟨s1,s2⟩;go_simp;(try with_reducible rfl);done)))|(refine zl rfl ?_));try simp only[Act.put,pA,pB,pC])
      refine zL (hK.out _ _ ?_)
      go_wp2_with fail
      go_roundw
      case rel=>exact⟨n+1,nv,by simp,by omega,O.o,(u.o.keep F6.o).blk,by rw[DS.o];exact(u.o.keep F6.o).row,(u.o.keep F6.o).fr,(u.o.keep F6.o).rx⟩
      case measure=>show l.length-(n+1)<l.length-n;omega
     ·have QD:=@J (decide (q∈dedup (l.take n))=false) (decide_eq_false hqd)
      rw[if_neg hqd] at DS
      clear hqd
      refine wrLx [ff,ff,ff,ff,ff,tt,ff] (λw'=>w'.cell? ⟨o,1,none⟩=some nv∧w'.rangeAt q4 0 (zf q)) ?_ (λK hK=>?_)
      ·exact⟨(frN _).drew.cell cn id,za ad.o (frN _).drew id⟩
      repeat((first|(refine zj rfl ?_;constructor;constructor;(focus(first|exact zn7 rfl (λw h=>h.2) U.o|(rintro w' ⟨s1,s2⟩;go_simp;(try with_reducible rfl);done))))|(refine zl rfl ?_));try simp only[Act.put,pA,pB,pC])
      (refine zE rfl (λK' hK'=>?_))
      go_simp
      refine(YK _ (y3.own (zb u.o.row (frN w5).drew (λ_ _=>id)) Y.o) (by have:=X.o;omega) q ab.o).mono ?_
      rintro e w6 ⟨rfl,f6⟩
      rw[QD.o]
      have F6:=J ((frN w5).drew.trans0 f6)
      refine nXt hK' ?_ λhS=>?_
      ·exact⟨F6.o.cell cn id,za ad.o F6.o id⟩
      try simp only[Act.put,pA,pB,pC]
      repeat((first|(refine zj rfl ?_;constructor;constructor;(focus(rintro w' ⟨s1,s2⟩;go_simp;(try with_reducible rfl);done)))|(refine zl rfl ?_));try simp only[Act.put,pA,pB,pC])
      refine zL (hK.out _ _ ?_)
      have H:=J (u.o.keep F6.o)
      have aL:=J (za ad.o F6.o id)
      clear f6 F6 u ad cn
      go_wp2_with fail
      have cn:=(Y7 H.o.blk).2.1
      have aK:=J (zaO H.o.row H.o.blk)
      obtain⟨v7,w7,F,Q,f7,-,aj⟩:=yX (P:=prog) w6.drew o 38 38 41 32 32 _ qi qI rfl (by decide) (zb H.o.row (frN w6).drew (λ_ _=>id)) (zf q) U.o zS (by have:=X.o;omega) (by have:=X.o;unfold maxLen;omega) (by have:=yG H.o.blk;exact Nat.le_of_lt this)
      obtain⟨a7,c7,aq⟩:=Q.slice.arg.form
      subst aq
      have af:=J F
      have F7:=@J (Fr (λj=>nv.ownBlock=some j) w6 w7) (((frN w6).drew.of0 (W:=λj=>nv.ownBlock=some j)).trans f7 (λ_ _ h=>h))
      have O7:=@J (w7.ownsRow o 41 32 (.slice a7 ((dedup (l.take n)).length+1) c7) (dedup (l.take (n+1))).length ((dedup (l.take (n+1))).flatMap zf)) (by rw[DS.o,length_append,flatMap_append];simpa using Q)
      have B7:=F7.o.obj H.o.blk (λe=>aK.o _ e rfl)
      have ba:=@J (∀j,(Value.slice a7 ((dedup (l.take n)).length+1) c7).ownBlock=some j→j≠o) (λj e e2=>(aj j e).elim (λh=>aK.o j h e2) (λh=>by have:=yG H.o.blk;have e3:w6.drew.heap.size=w6.heap.size:=rfl;omega))
      obtain⟨-,z1,-,-,z2,-⟩:=Y7 B7
      have KS:=J (λ(w':World) (f:Fr No w6 w')=>(⟨f.cell cn id,za aL.o f id⟩:w'.cell? ⟨o,1,none⟩=some nv∧w'.rangeAt q4 0 (zf q)))
      have K7:=@J (w7.cell? ⟨o,1,none⟩=some nv∧w7.rangeAt q4 0 (zf q)) (⟨z1,za aL.o F7.o (λe=>by have:=bb.o _ e;omega)⟩)
      clear F Q f7 aj
      generalize aS:(dedup (l.take n)).length+1=dl at*
      refine ym [ff,ff,ff,ff,ff,ff,tt,tt,ff,ff,tt] (λw'=>w'.cell? ⟨o,1,none⟩=some nv∧w'.rangeAt q4 0 (zf q)) (by kernel_rfl) (by kernel_rfl) 10 (by kernel_rfl) (by kernel_rfl) ?_ (λK hK=>?_)
      ·exact KS.o _ (frN _).drew
      repeat((first|(refine z7 rfl ?_;constructor;constructor;(focus(first|exact zn7 rfl (λw h=>h.2) U.o|(rintro w' ⟨s1,s2⟩;go_simp;(try with_reducible rfl);done))))|(refine ya rfl ?_));try simp only[Act.put,pA,pB,pC])
      (refine z6 rfl (λK' hK'=>?_))
      refine yj (zU (t:=38) rfl rfl qi vU rfl (by decide) (by decide) U.o) ?_
      refine hK'.out _ _ (λ_=>?_) (λhS=>?_)
      ·exact KS.o _ ((frN w6).drew.alloc _)
      try simp only[Act.put,pA,pB,pC]
      (refine z6 rfl (λK' hK'=>?_))
      refine yw rfl rfl rfl af.o ?_
      refine hK'.out _ _ (λ_=>?_) (λhS=>?_)
      ·exact K7.o
      try simp only[Act.put,pA,pB,pC]
      repeat((first|(refine z7 rfl ?_;constructor;constructor;(focus(first|(rintro w' ⟨s1,s2⟩;go_simp;(try with_reducible rfl);done))))|(refine ya rfl ?_));try simp only[Act.put,pA,pB,pC])
      (refine z6 rfl (λK' hK'=>?_))
      go_simp
      refine hK'.out _ _ (λh=>absurd rfl h) (λhS=>?_)
      refine xD (hK.out _ _ ?_)
      have f8:Fr (λj=>j=o) w7 (w7.setCell ⟨o,1,none⟩ (.slice a7 dl c7)):=(Fr.refl (λj=>j=o) w7).setCell ⟨o,1,none⟩ (.inr rfl) _
      have F8:=@J (Fr (λj=>o≤j) w6 (w7.setCell ⟨o,1,none⟩ (.slice a7 dl c7))) ((F7.o.mono (λj e=>(H.o.row.lt j e).1)).trans f8 (λj _ e=>by omega))
      have ax:=@J (zhi w (w7.setCell ⟨o,1,none⟩ (.slice a7 dl c7)) G C o bx x l (n+1) (.slice a7 dl c7)) (⟨h,O.o,by
       have:=heap_setCell_same w7 o 1 _ _ (.slice a7 dl c7) B7
       simpa using this,zb O7.o f8 ba.o,H.o.fr.trans F8.o (λj d e=>by have:=Z.o;omega),za H.o.rx F8.o (λe=>by have:=Z.o;omega)⟩)
      clear f8 B7 z1 z2 cn
      go_wp2_with fail
      go_roundw
      case rel=>exact⟨n+1,_,by simp,ax.o⟩
      case measure=>show l.length-(n+1)<l.length-n;omega
    ·have K1:=J (k2 (by rw[←HI.o];exact ae))
     have E9:=J (zhm XI.o ⟨q,QM.o,ae⟩)
     clear k1 k2 ae
     unfold xp at K1
     refine wrLx [ff,ff,ff,ff,ff,ff,ff] (λw'=>w'.cell? ⟨p,0,none⟩=some (.map (some m))∧w'.rangeAt q4 0 (zf q)∧(∀M,qH w m M→qH w' m M)) ?_ (λK hK=>?_)
     ·exact⟨(frN _).drew.cell c0 id,za RN.o (frN _).drew id,KM.o _ (frN _).drew⟩
     repeat((first|(refine zj rfl ?_;constructor;constructor;(focus(first|exact zn7 rfl (λw h=>h.2.1) U.o|exact λw' h=>zQ (t:=197) rfl rfl rfl (K1.o w' h.2.2)|(rintro w' ⟨s1,s2,s3⟩;go_simp;(try with_reducible rfl);done))))|(refine zl rfl ?_));try simp only[Act.put,pA,pB,pC])
     refine zL (hK.out _ _ ?_)
     go_wp2_with fail
     go_ret
     exact zcr.no HC.o c.o.fr.drew E9.o (by decide)
   ·have i1:¬(n:Int)<(l.length:Int):=by omega
    have aB:n=l.length:=by omega
    subst aB
    have al:=a.sub
    have S:=a.row
    rw[take_length] at al S
    obtain⟨na,nc,bs⟩:=S.slice.arg.form
    subst bs
    have Y:=@J (∀y∈dedup l,zX y) (λy I=>HL.o.1 y (Jq.1 I))
    have X:=@J ((dedup l).length≤500) (le_trans (zcC l) bp)
    have a1:=J (Xi l)
    have UE:=@J (zdP true G (dedup l)=upS G l) (zlJ λy=>Jq)
    have O:=J al
    have c:=J a
    have cn:=(Y7 a.blk).2.1
    have HW:=J (λ(wz:World) (f:Fr No wr wz)=>zgx (HC.o.fr0 (c.o.fr.trans0 f)) (by omega) (y3.own (zb S f (λ_ _=>id)) Y.o) (by have:=X.o;omega) true)
    have aM:=J S
    have aP:=@J ((upS G l).Nodup) (HC.o.gok.nd.sublist (jL l))
    clear a al S
    by_cases hU:(upS G l).length<6
    ·have E0:=J (zgD XI.o O.o hU)
     go_wp2_with (first|(go_at_call 93;refine(HW.o _ (frN wr)).mono ?_;rintro e w5 ⟨b,M,rfl,hm,hs,hb,f5⟩;rw[UE.o] at hs;have aA:M.length=(upS G l).length:=(by rw[(keys_perm hm.nodup hs aP.o).length_eq,length_map]);have j6:¬(6:Int)≤(M.length:Int):=(by omega);have HM:=J hm;have F5:=J f5;have bn:=f5.cell cn id;clear hm hs aA f5)|(refine zg rfl (jb rfl rfl (HM.o.lenRun jo _)) ?_))
     have u:=J (c.o.keep F5.o)
     have ah:=J (zb aM.o F5.o (λ_ _=>id))
     clear c aM HM F5 cn HW j6 bn
     have aw:=@J (∀j∈yQ p m L,j<w.heap.size) (HR.o.hi)
     have WB:=@J (w.heap.size≤bx∧bx≠o∧(Value.slice na (dedup l).length nc).ownBlock≠some bx) (⟨by omega,by have:=Z.o;omega,λe=>by have:=(ah.o.lt bx e).1;have:=Z.o;omega⟩)
     have WN:=@J (w.heap.size≤o) (by have:=Z.o;omega)
     have bh:=@J (zea w0 w w5 p m C o bx x L L ((JE G).map (zbn x ((dedup l).take 0))) (.slice na (dedup l).length nc) (dedup l)) (⟨HR.o.fr0 u.o.fr,by
      rw[HT.o]
      conv=>lhs;rw[←List.map_id (JE G)]
      exact map_congr_left λt _=>by simp[zbn],λj d=>.inl d,u.o.blk,ah.o,u.o.fr.of0,u.o.rx⟩)
     have DI:=@J (∀y∈dedup l,y∈ids G) (λy I=>O.o y (Jq.1 I))
     have TN:=@J (((JE G).map (·.1)).Nodup) (by rw[J5];exact HC.o.gok.nd)
     have bk:=@J (∀t∈JE G,t.2.2.length≤1000) (λt ht=>by
      obtain⟨n,hn,rfl⟩:=mem_map.1 ht
      have h2:=za7 (G:=G) n.id
      have:=HC.o.len
      exact le_trans h2 (by omega))
     have G3:=J (zkB HC.o.gok XI.o O.o)
     clear u ah
     generalize bB:dedup l=D at*
     go_loopw [72] (λiv wr=>∃(n:Nat) (L':List yJ),iv=.int .i64 n∧n≤D.length∧zea w0 w wr p m C o bx x L L' ((JE G).map (zbn x (D.take n))) (.slice na D.length nc) D) (λiv _=>D.length-(intOf iv).toNat)
     case atStart=>exact⟨0,L,rfl,zero_le _,bh.o⟩
     case round=>
      obtain⟨n,L',rfl,hn,a⟩:=hrel
      by_cases h:n<D.length
      ·have i1:(n:Int)<(D.length:Int):=by omega
       obtain⟨q,hq⟩:∃q,D[n]? =some q:=⟨_,getElem?_eq_getElem h⟩
       have QM:=J (mem_of_getElem? hq)
       obtain⟨A,r,B,rfl,aU,t,ht,aX,aW⟩:=Vj (f:=zbn x (D.take n)) (λ_=>rfl) a.tri (q:=q) (by rw[J5];exact DI.o q QM.o)
       obtain⟨bq,oq,cq,aD,T,-⟩:=(y3.own a.row Y.o).at_ hq
       cases aD
       have ab:=J (Y.o q QM.o)
       have U:=J (zx ab.o)
       have R1:=J T
       have FA:=J ((frN wr).alloc (.cells (zf q).toArray 41))
       have RN:=J (zy wr (zf q) 41)
       have c:=J (a.keep FA.o)
       have QT:=J (YB hq)
       have QN:=J (X6 a1.o hq)
       have aa:=J (λj (d:r.cv.ownBlock=some j)=>a.gr.dis (A:=A) (B:=B) (j:=j) (.inr d))
       have aF:=@J (bx<wr.heap.size) (by have:=yG a.blk;have:=Z.o;omega)
       have bc:=@J (∀j,r.cv.ownBlock=some j→j≠bx) (λj d=>by
        have E:j∈yQ p m (A++r::B):=by rw[xF];have h2:j∈r.blks:=vp.2 (.inr (.inr d));simp[h2]
        rcases a.sub j E with h3|h3
        ·have:=aw.o j h3;omega
        ·exact h3.2.2.2)
       have aH:=@J (r.ks.length≤1000) (by
        have E:=bk.o t ht
        have e1:=congrArg (λz:Tri=>z.2.2) aW
        simp only[zbn,yJ.t3] at e1
        rw[aX,if_neg QN.o] at e1
        rw[←e1]
        exact E)
       have bw:=X.o
       clear a hq T aW ht aX
       subst aU
       go_wp2_with (first|(refine zn3 rfl rfl rfl R1.o U.o ?_)|(refine zi rfl (zm (w:=wr) (cs:=zf r.id) (ty:=41) rfl rfl rfl (by rw[U.o];rfl) (by rw[U.o];exact yp) zS) ?_))
       generalize bt:wr.heap.size=q4 at*
       generalize wr.alloc (.cells (zf r.id).toArray 41)=w4 at*
       have RM:=@J (r∈A++r::B) (by simp)
       have ND:=J (c.o.gr.node r RM.o)
       have bf:=@J (zX r.id∧(∀y∈r.ps,zX y)∧∀y∈r.ks,zX y) (c.o.gr.ok r RM.o)
       have LK:=J (c.o.gr.lookR RM.o)
       have KP:=J (λ(w':World) (f:Fr (λj=>r.cv.ownBlock=some j) w4 w')=>(⟨f.cell (Q0 c.o.gr.obj).1 (λe=>(aa.o _ e).1 rfl),za RN.o f (λe=>by have:=(aa.o _ e).2.2.2;omega),λM hM=>hM.keep f (λe=>(aa.o _ e).2.1 rfl),f.cell (Y7 ND.o.blk).2.2.1 (λe=>(aa.o _ e).2.2.1 rfl),za c.o.rx f (λe=>bc.o _ e rfl)⟩:w'.cell? ⟨p,0,none⟩=some (.map (some m))∧w'.rangeAt q4 0 (zf r.id)∧(∀M,qH w4 m M→qH w' m M)∧w'.cell? ⟨r.b,2,none⟩=some r.cv∧w'.rangeAt bx 0 (zf x)))
       obtain⟨v7,w7,F,Q,f7,-,aj⟩:=yX (P:=prog) w4.drew w0.heap.size 38 38 41 32 32 _ qi qI rfl (by decide) (zb ND.o.crow (frN w4).drew (λ_ _=>id)) (zf x) HX.o zS (by have:=aH.o;omega) (by have:=aH.o;unfold maxLen;omega) (by have:=c.o.gr.fr.size;exact this)
       obtain⟨a7,c7,aq⟩:=Q.slice.arg.form
       generalize aS:r.ks.length+1=dl at aq F Q
       subst aq
       have af:=J F
       have F7:=@J (Fr (λj=>r.cv.ownBlock=some j) w4 w7) (((frN w4).drew.of0 (W:=λj=>r.cv.ownBlock=some j)).trans f7 (λ_ _ h=>h))
       have O7:=@J (w7.ownsRow w0.heap.size 41 32 (.slice a7 dl c7) (r.ks++[x]).length ((r.ks++[x]).flatMap zf)) (by rw[length_append,flatMap_append,show[x].length=1 from rfl,aS];simpa using Q)
       have N7:=@J (∀j,(Value.slice a7 dl c7).ownBlock=some j→r.cv.ownBlock=some j∨w4.heap.size≤j) (aj)
       have FZ:=@J (w7.cell? ⟨r.b,2,none⟩=some r.cv∧w7.frozen? ⟨r.b,2,none⟩=false) (⟨(Y7 (F7.o.obj ND.o.blk (λe=>(aa.o _ e).2.2.1 rfl))).2.2.1,(Y7 (F7.o.obj ND.o.blk (λe=>(aa.o _ e).2.2.1 rfl))).2.2.2.2.2⟩)
       clear F Q f7 aj
       refine ym [ff,ff,ff,ff,ff,ff,ff,ff,ff,ff,ff,ff,ff,ff,ff,ff,tt,tt,ff,ff,tt] (λw'=>w'.cell? ⟨p,0,none⟩=some (.map (some m))∧w'.rangeAt q4 0 (zf r.id)∧(∀M,qH w4 m M→qH w' m M)∧w'.cell? ⟨r.b,2,none⟩=some r.cv∧w'.rangeAt bx 0 (zf x)) (by kernel_rfl) (by kernel_rfl) 20 (by kernel_rfl) (by kernel_rfl) ?_ (λK hK=>?_)
       ·exact KP.o _ (frN _).drew.of0
       repeat((first|(refine z7 rfl ?_;constructor;constructor;(focus(first|exact zn7 rfl (λw h=>h.2.1) U.o|exact zn7 rfl (λw h=>h.2.2.2.2) HX.o|exact λw' h=>zQ (t:=197) rfl rfl rfl (LK.o w' h.2.2.1)|(rintro w' ⟨s1,s2,s3,s4,s5⟩;go_simp;(try with_reducible rfl);done))))|(refine ya rfl ?_));try simp only[Act.put,pA,pB,pC])
       (refine z6 rfl (λK' hK'=>?_))
       refine yj (zU (t:=38) rfl rfl qi vU rfl (by decide) (by decide) HX.o) ?_
       refine hK'.out _ _ (λ_=>?_) (λhS=>?_)
       ·exact KP.o _ ((frN w4).drew.alloc _).of0
       try simp only[Act.put,pA,pB,pC]
       repeat((first|(refine z7 rfl ?_;constructor;constructor;(focus(first|(rintro w' ⟨s1,s2,s3,s4,s5⟩;go_simp;(try with_reducible rfl);done))))|(refine ya rfl ?_));try simp only[Act.put,pA,pB,pC])
       (refine z6 rfl (λK' hK'=>?_))
       refine yw rfl rfl rfl af.o ?_
       refine hK'.out _ _ (λ_=>?_) (λhS=>?_)
       ·exact KP.o _ F7.o
       try simp only[Act.put,pA,pB,pC]
       repeat((first|(refine z7 rfl ?_;constructor;constructor;(focus(first|exact zn7 rfl (λw h=>h.2.1) U.o|exact λw' h=>zQ (t:=197) rfl rfl rfl (LK.o w' h.2.2.1)|(rintro w' ⟨s1,s2,s3,s4,s5⟩;go_simp;(try with_reducible rfl);done))))|(refine ya rfl ?_));try simp only[Act.put,pA,pB,pC])
       obtain⟨z1,z2⟩:=FZ.o
       (refine z6 rfl (λK' hK'=>?_))
       go_simp
       refine hK'.out _ _ (λh=>absurd rfl h) (λhS=>?_)
       refine xD (hK.out _ _ ?_)
       obtain⟨g8,f8⟩:=c.o.gr.setc F7.o O7.o N7.o (λy I=>(mem_append.1 I).elim (bf.o.2.2 y) (λe=>by rw[mem_singleton.1 e];exact ay.o))
       have ax:=J (c.o.step g8 f8 (λj d=>by
        rw[vp] at d⊢
        rcases d with E|E|E
        ·exact .inl (.inl E)
        ·exact .inl (.inr (.inl E))
        ·exact(N7.o j E).imp (λe=>.inr (.inr e)) id) (step_map (f:=zbn x (D.take n)) (g:=zbn x (D.take (n+1))) TN.o (λ_=>rfl) c.o.tri rfl (λt ht e1 e2=>by
        simp only[yJ.t3,zbn] at e2⊢
        rw[e1,if_neg QN.o] at e2
        rw[e1,QT.o,if_pos (by simp)]
        injection e2 with e2 e3
        injection e3 with e3 e4
        rw[e3,e4]) (λt ht e1=>by
        simp only[zbn,QT.o,mem_append,mem_singleton,e1,or_false])) aw.o (lt_of_lt_of_le aF.o (by have:=FA.o.size;omega)) WB.o WN.o)
       clear g8 f8 z1 z2
       go_wp2_with fail
       go_roundw
       case rel=>exact⟨n+1,_,by simp,by omega,ax.o⟩
       case measure=>show D.length-(n+1)<D.length-n;omega
      ·have i1:¬(n:Int)<(D.length:Int):=by omega
       have aB:n=D.length:=by omega
       subst aB
       have aC:=a.tri
       rw[take_length] at aC
       have c1:=(Q0 a.gr.obj).2.1
       have fz:=(Q0 a.gr.obj).2.2.2
       have ai:=a.gr.count (s:=C+1) (by omega)
       rw[show((C+1:Nat):Int)=(C:Int)+1 by omega] at ai
       have ao:p∈yQ p m L':=by simp[yQ]
       have br:m∈yQ p m L':=by simp[yQ]
       have R:∀j∈yQ p m L',j≠o∧j≠bx∧(Value.slice na D.length nc).ownBlock≠some j:=λj d=>by
        rcases a.sub j d with E|E
        ·have:=aw.o j E
         refine⟨by have:=WN.o;omega,by omega,λe=>?_⟩
         have:=(a.row.lt j e).1
         have:=WN.o
         omega
        ·exact⟨E.2.1,E.2.2.2,E.2.2.1⟩
       have fc:Fr (λj=>j=p) wr (wr.setCell ⟨p,1,none⟩ (.int .i64 ((C:Int)+1))):=(Fr.refl (λj=>j=p) wr).setCell ⟨p,1,none⟩ (.inr rfl) _
       have aN:=J a.sub
       have au:=J R
       have aO:=J aC
       have bl:=J a.gr.top
       have G6:=J ai
       have ar:=J (fc.obj a.blk (λe=>(R p ao).1 e.symm))
       have ag:=J (zb a.row fc (λj e e2=>(R p ao).2.2 (by rw[←e2];exact e)))
       have bg:=J (za a.rx fc (λe=>(R p ao).2.1 e.symm))
       have a8:=@J (Fr (λj=>j∈yQ p m L) w (wr.setCell ⟨p,1,none⟩ (.int .i64 ((C:Int)+1)))) (a.fr.trans fc (λi _ e=>by subst e;simp[yQ]))
       clear a ai aC R fc ao br
       go_wp2_with fail
       generalize wr.setCell ⟨p,1,none⟩ (.int .i64 ((C:Int)+1))=w6 at*
       clear c1 fz
       have c0:=(Q0 G6.o.obj).1
       have aI:=@J (L'.map (·.id)=ids G) (by
        have E:=congrArg (List.map Prod.fst) aO.o
        rw[map_map,map_map] at E
        refine E.trans ?_
        rw[←J5]
        rfl)
       obtain⟨M,hM,az⟩:=G6.o.map
       have bo:M.length≤1000:=by
        have E:=qy (m:=ids G) hM.nodup (λy I=>by
         obtain⟨⟨k,b'⟩,bu,rfl⟩:=mem_map.1 I
         obtain⟨r,hr,e,-⟩:=(az k b').1 bu
         rw[←aI.o,←e]
         exact mem_map.2 ⟨r,hr,rfl⟩)
        have h2:=HC.o.len
        simp only[ids,length_map] at E
        omega
       obtain⟨w8,M',aZ,aQ,av,aY,-⟩:=(hM.keep (frN w6).drew id).upd xT.keyed J7 (λ_ _=>yY) (yq ay.o) (by unfold maxLen;omega) o
       have f8:Fr (λj=>j=m) w6 w8:=((frN w6).drew.of0 (W:=λj=>j=m)).trans aY.fr (λ_ _ h=>h)
       have bA:=HR.o.fr.size
       have aJ:=zaO ag.o ar.o
       have aR:(yJ.mk x (C+1) D [] o (.slice na D.length nc) (.slice none 0 0)).blks.Nodup:=zdp (λe=>aJ o e rfl) (λe=>by cases e) (λj _ e=>by cases e)
       have F:∀j∈(yJ.mk x (C+1) D [] o (.slice na D.length nc) (.slice none 0 0)).blks,j∉yQ p m L'∧w.heap.size≤j:=λj d=>by
        rw[vp] at d
        rcases d with d|d|d
        ·have d:j=o:=d
         exact⟨λe=>(au.o j e).1 d,by have:=WN.o;omega⟩
        ·exact⟨λe=>(au.o j e).2.2 d,by have:=(ag.o.lt j d).1;have:=WN.o;omega⟩
        ·cases d
       have af:=J F
       have G8:=J (G6.o.ins (r:=⟨x,C+1,D,[],o,.slice na D.length nc,.slice none 0 0⟩) az aQ av f8 ⟨by rw[show((C+1:Nat):Int)=(C:Int)+1 by omega];exact ar.o,Xq ag.o (by have:=WN.o;omega),World.ownsRow_nil _ _ _ _⟩ (by rw[aI.o];exact XI.o) aR (λj d=>⟨(F j d).1,by have:=(F j d).2;omega⟩) (λy I=>by have:=bl.o y I;show y.seq<C+1;omega) (le_refl _) ⟨ay.o,Y.o,by simp⟩)
       have F8:=@J (Fr V w w8) (by
        rw[HV.o]
        exact a8.o.trans f8 (λi _ e=>by subst e;simp[yQ]))
       have T8:=@J ((L'++[(⟨x,C+1,D,[],o,.slice na D.length nc,.slice none 0 0⟩:yJ)]).map yJ.t3=JE (Qc G x l)) (by rw[map_append,aO.o,G3.o];rfl)
       have VJ:=@J (∀j,j∈yQ p m (L'++[(⟨x,C+1,D,[],o,.slice na D.length nc,.slice none 0 0⟩:yJ)])→V j∨w.heap.size≤j) (λj d=>by
        have e:yQ p m (L'++[(⟨x,C+1,D,[],o,.slice na D.length nc,.slice none 0 0⟩:yJ)])=yQ p m L'++(yJ.mk x (C+1) D [] o (.slice na D.length nc) (.slice none 0 0)).blks:=by simp[yQ]
        rw[e] at d
        rcases mem_append.1 d with d|d
        ·rcases aN.o j d with E|E
         ·exact .inl (by rw[HV.o];exact E)
         ·exact .inr E.1
        ·exact .inr (af.o j d).2)
       have aG:=J aZ
       clear hM az bo aZ aQ av aY f8 aJ aR F
       unfold xp Qi at aG
       refine ym [ff,ff,ff,ff,ff,ff,tt] (λw'=>w'.cell? ⟨p,0,none⟩=some (.map (some m))∧w'.rangeAt bx 0 (zf x)) (by kernel_rfl) (by kernel_rfl) 6 (by kernel_rfl) (by kernel_rfl) ?_ (λK hK=>?_)
       ·exact⟨(frN _).drew.cell c0 id,za bg.o (frN _).drew id⟩
       repeat((first|(refine z7 rfl ?_;constructor;constructor;(focus(first|exact zn7 rfl (λw h=>h.2) HX.o|(rintro w' ⟨s1,s2⟩;go_simp;(try with_reducible rfl);done))))|(refine ya rfl ?_));try simp only[Act.put,pA,pB,pC])
       (refine z6 rfl (λK' hK'=>?_))
       refine yN (y4 rfl rfl rfl rfl aG.o) ?_
       refine hK'.out _ _ (λh=>absurd rfl h) (λhS=>?_)
       refine xD (hK.out _ _ ?_)
       go_wp2_with fail
       go_ret
       refine⟨by rw[E0.o];rfl,_,?_,F8.o,VJ.o⟩
       rw[if_pos E0.o]
       exact GC.of_tri G8.o T8.o (by have:=SQ.o;omega) (zgE HC.o.gok XI.o O.o) (by have:=HC.o.len;unfold Qc;simp;omega)
    ·have a6:=J (ziQ XI.o O.o hU)
     go_wp2_with (first|(go_at_call 93;refine(HW.o _ (frN wr)).mono ?_;rintro e w5 ⟨b,M,rfl,hm,hs,hb,f5⟩;rw[UE.o] at hs;have aA:M.length=(upS G l).length:=(by rw[(keys_perm hm.nodup hs aP.o).length_eq,length_map]);have j6:(6:Int)≤(M.length:Int):=(by omega);have HM:=J hm;have F5:=J f5;clear hm hs aA f5)|(refine zg rfl (jb rfl rfl (HM.o.lenRun jo _)) ?_))
     go_ret
     exact zcr.no HC.o (c.o.fr.trans0 F5.o) a6.o (by decide)
end
structure yb where
 id:zd
 tx:TxD
 fee:Int
 size:Int
 added:Int
 ps:List zd
def gOf (L:List yb):List yW:=L.map λe=>⟨e.id,e.ps⟩
def xq (L:List yb):List zd:=L.map (·.id)
theorem vn (L:List yb):ids (gOf L)=xq L:=by simp[gOf,ids,xq,Function.comp_def]
theorem zeA (L:List yb) (e:yb):gOf (L++[e])=gOf L++[⟨e.id,e.ps⟩]:=by simp[gOf]
def Vg (L:List yb) (x:zd):Option yb:=L.find? λe=>decide (e.id=x)
theorem zhI {L:List yb} {x:zd} {e:yb} (h:Vg L x=some e):e∈L∧e.id=x:=by
 unfold Vg at h
 exact⟨List.mem_of_find?_eq_some h,by simpa using List.find?_some h⟩
theorem zhH {L:List yb} {x:zd}:Vg L x=none↔x∉xq L:=by
 unfold Vg xq
 rw[List.find?_eq_none]
 simp only[decide_eq_true_eq,mem_map,not_exists,not_and]
theorem zes:∀ {L:List yb},(xq L).Nodup→∀ {e:yb},e∈L→Vg L e.id=some e
 |[],_,_,h=>by cases h
 |x::r,hn,e,h=>by
  obtain⟨a,b⟩:=nodup_cons.1 hn
  unfold Vg
  rcases mem_cons.1 h with rfl|h
  ·simp
  ·have:x.id≠e.id:=λc=>a (by show x.id∈_;rw[c];exact mem_map.2 ⟨e,h,rfl⟩)
   rw[List.find?_cons_of_neg (by simpa using this)]
   exact zes b h
def xw (L:List yb) (q:zF):Option yE:=(Vg L q.tx).bind λe=>e.tx.outs[q.n.toNat]?
def qf (L:List yb) (q:zF):Bool:=L.any λe=>decide (q∈zW e.tx)
theorem Jl {L:List yb} {q:zF}:qf L q=true↔∃e∈L,q∈zW e.tx:=by simp[qf]
def qQ (S:List zr) (L:List yb) (q:zF):Option yE:=if xK S q=true then some (yg S q) else xw L q
def JZ (S:List zr) (L:List yb) (t:TxD):Int:=
 if(zW t).any (qf L)=true then 14 else if(zW t).all (λq=>(qQ S L q).isSome)=true then 0 else 15
def xR (S:List zr) (L:List yb) (t:TxD):List yE:=(zW t).map λq=>(qQ S L q).getD y6
def xE (L:List yb) (t:TxD):List zd:=((zW t).filter λq=>(xw L q).isSome).map (·.tx)
def qR (t:TxD):Int:=6+37*(t.ins.length:Int)+40*(t.outs.length:Int)+(t.ins.map λx=>(x.key.length:Int)).sum
def jF (n:Int):Int:=(max n 0*100+999) / 1000
noncomputable def qP (S:List zr) (I:List zd) (L:List yb) (t:TxD):Int:=
 if idH t∈xq L then 10 else if idH t∈I then 19 else
 if JZ S L t≠0 then JZ S L t else if vz t (xR S L t)≠0 then vz t (xR S L t) else
 if j7 t (xR S L t)<jF (qR t) then 17 else if 6≤(upS (gOf L) (xE L t)).length then 16 else 0
theorem zeT {S:List zr} {I:List zd} {L:List yb} {t:TxD} (h:qP S I L t=0):
  idH t∉xq L∧idH t∉I∧JZ S L t=0∧vz t (xR S L t)=0∧jF (qR t)≤j7 t (xR S L t)∧(upS (gOf L) (xE L t)).length<6:=by
 unfold qP at h
 split at h; · cases h
 rename_i h1
 split at h; · cases h
 rename_i h2
 split at h
 ·rename_i h3;exact absurd h h3
 rename_i h3
 split at h
 ·rename_i h4;exact absurd h h4
 rename_i h4
 split at h; · cases h
 rename_i h5
 split at h; · cases h
 rename_i h6
 exact⟨h1,h2,by omega,by omega,by omega,by omega⟩
theorem zjH {S:List zr} {I:List zd} {L:List yb} {t:TxD} (a:idH t∉xq L) (b:idH t∉I) (c:JZ S L t=0) (d:vz t (xR S L t)=0) (e:jF (qR t)≤j7 t (xR S L t)) (f:(upS (gOf L) (xE L t)).length<6):qP S I L t=0:=by
 unfold qP
 rw[if_neg a,if_neg b,if_neg (by simp[c]),if_neg (by simp[d]),if_neg (by omega),if_neg (by omega)]
theorem zfb {S:List zr} {L:List yb} {t:TxD}:JZ S L t=0↔(∀q∈zW t,qf L q=false)∧∀q∈zW t,(qQ S L q).isSome=true:=by
 unfold JZ
 by_cases h1:(zW t).any (qf L)=true
 ·rw[if_pos h1]
  simp only[List.any_eq_true] at h1
  obtain⟨q,b,a⟩:=h1
  constructor
  ·intro h;cases h
  ·rintro⟨h,-⟩;rw[h q b] at a;cases a
 ·rw[if_neg h1]
  simp only[List.any_eq_true,not_exists,not_and,Bool.not_eq_true] at h1
  by_cases h2:(zW t).all (λq=>(qQ S L q).isSome)=true
  ·rw[if_pos h2]
   simp only[List.all_eq_true] at h2
   exact⟨λ_=>⟨h1,h2⟩,λ_=>rfl⟩
  ·rw[if_neg h2]
   simp only[List.all_eq_true] at h2
   constructor
   ·intro h;cases h
   ·intro h;exact absurd h.2 h2
def mkE (S:List zr) (L:List yb) (t:TxD) (now:Int):yb:=⟨idH t,t,j7 t (xR S L t),qR t,now,dedup (xE L t)⟩
def xu (L:List yb) (gone:List zd):List yb:=L.filter λe=>decide (e.id∉gone)
theorem Zr {L:List yb} {gone:List zd} {e:yb}:e∈xu L gone↔e∈L∧e.id∉gone:=by simp[xu]
theorem XG (L:List yb) (gone:List zd):xq (xu L gone)=(xq L).filter λy=>decide (y∉gone):=by
 unfold xq xu
 rw[filter_map]
 rfl
theorem zhG (L:List yb) (gone:List zd):(xu L gone).length≤L.length:=List.length_filter_le _ _
theorem XH (L:List yb):xu L []=L:=by unfold xu;rw[filter_eq_self];simp
theorem zfW (L:List yb) (e:yb) (gone:List zd):xu (L++[e]) gone=if e.id∈gone then xu L gone else xu L gone++[e]:=by
 unfold xu
 rw[List.filter_append]
 by_cases h:e.id∈gone
 ·simp[h]
 ·simp[h]
theorem zcG:∀(L:List yb) (gone:List zd) (x:zd),Vg (xu L gone) x=if x∈gone then none else Vg L x
 |[],gone,x=>by simp[Vg,xu]
 |e::r,gone,x=>by
  have ih:=zcG r gone x
  unfold Vg xu at*
  by_cases h:e.id∈gone
  ·rw[List.filter_cons_of_neg (by simpa using h),ih]
   by_cases hx:x∈gone
   ·rw[if_pos hx,if_pos hx]
   ·rw[if_neg hx,if_neg hx,List.find?_cons_of_neg (by simp;rintro rfl;exact hx h)]
  ·rw[List.filter_cons_of_pos (by simpa using h)]
   by_cases hx:e.id=x
   ·rw[List.find?_cons_of_pos (by simpa using hx),List.find?_cons_of_pos (by simpa using hx),if_neg (by rw[←hx];exact h)]
   ·rw[List.find?_cons_of_neg (by simpa using hx),List.find?_cons_of_neg (by simpa using hx),ih]
theorem zfl {L:List yb} {gone:List zd} {q:zF} (h:qf (xu L gone) q=true):qf L q=true:=by
 obtain⟨e,a,b⟩:=Jl.1 h
 exact Jl.2 ⟨e,(Zr.1 a).1,b⟩
theorem zbv {L:List yb} {q:zF} {o:yE} (h:xw L q=some o):∃e∈L,e.id=q.tx∧e.tx.outs[q.n.toNat]? =some o:=by
 unfold xw at h
 cases he:Vg L q.tx with
 |none=>rw[he] at h;cases h
 |some e=>
  rw[he] at h
  obtain⟨a,b⟩:=zhI he
  exact⟨e,a,b,h⟩
theorem zeX {L:List yb} {t:TxD} {x:zd}:x∈xE L t↔∃q∈zW t,(xw L q).isSome=true∧q.tx=x:=by
 unfold xE
 simp only[mem_map,mem_filter]
 exact⟨λ⟨q,⟨a,b⟩,c⟩=>⟨q,a,b,c⟩,λ⟨q,a,b,c⟩=>⟨q,⟨a,b⟩,c⟩⟩
theorem Yw {L:List yb} {t:TxD} {x:zd} (h:x∈xE L t):x∈xq L:=by
 obtain⟨q,-,c,rfl⟩:=zeX.1 h
 obtain⟨o,b⟩:=Option.isSome_iff_exists.1 c
 obtain⟨e,a,hi,-⟩:=zbv b
 rw[←hi]
 exact mem_map.2 ⟨e,a,rfl⟩
theorem ze6 (L:List yb) (t:TxD):(xE L t).length≤t.ins.length:=by
 unfold xE
 rw[length_map]
 exact le_trans (List.length_filter_le _ _) (by simp[zW])
theorem zbu {L:List yb} {gone:List zd} {t:TxD} (a:∀p∈xE L t,p∉gone):∀q∈zW t,xw (xu L gone) q=xw L q:=by
 intro q b
 unfold xw
 rw[zcG]
 by_cases h:q.tx∈gone
 ·rw[if_pos h]
  cases hf:xw L q with
  |none=>unfold xw at hf;rw[hf];rfl
  |some o=>exact absurd h (a _ (zeX.2 ⟨q,b,by rw[hf];rfl,rfl⟩))
 ·rw[if_neg h]
section
variable {S:List zr} {I:List zd} {L:List yb} {gone:List zd} {t:TxD}
theorem zbM (a:∀p∈xE L t,p∉gone):∀q∈zW t,qQ S (xu L gone) q=qQ S L q:=λq b=>by
 unfold qQ
 rw[zbu a q b]
theorem QH (a:∀p∈xE L t,p∉gone):xR S (xu L gone) t=xR S L t:=
 map_congr_left λq b=>by rw[zbM a q b]
theorem zc1 (a:∀p∈xE L t,p∉gone):xE (xu L gone) t=xE L t:=by
 unfold xE
 rw[List.filter_congr λq b=>by rw[zbu a q b]]
def Shut (L:List yb) (gone:List zd):Prop:=∀e∈L,e.id∉gone→∀p∈e.ps,p∉gone
theorem zep (h:Shut L gone):ZU (gOf L) gone=gOf (xu L gone):=by
 unfold ZU gOf xu
 rw[filter_map,map_map]
 refine map_congr_left λe c=>?_
 obtain⟨a,b⟩:=Zr.1 (show e∈xu L gone from c)
 show(⟨e.id,e.ps.filter λp=>decide (p∉gone)⟩:yW)=⟨e.id,e.ps⟩
 rw[filter_eq_self.2 λp d=>by simpa using h e a b p d]
theorem zde (ok:GOk (gOf L)) (h:Shut L gone) (l:List zd):(upS (gOf (xu L gone)) l).length≤(upS (gOf L) l).length:=by
 rw[←zep h]
 have b:=zdu ok gone
 refine qy (b.nd.sublist (jL l)) λx e=>?_
 obtain⟨a,c,d⟩:=zdH.1 e
 exact zdH.2 ⟨a,c,zkD ok d⟩
theorem zbL (ok:GOk (gOf L)) (l:Shut L gone) (a:∀p∈xE L t,p∉gone) (h:qP S I L t=0):qP S I (xu L gone) t=0:=by
 obtain⟨c,d,f,g,i,m⟩:=zeT h
 obtain⟨j,k⟩:=zfb.1 f
 refine zjH (λe=>c ?_) d (zfb.2 ⟨λq b=>?_,λq b=>by rw[zbM a q b];exact k q b⟩) (by rw[QH a];exact g) (by rw[QH a];exact i) (by rw[zc1 a];have:=zde ok l (xE L t);omega)
 ·rw[XG] at e
  exact(mem_filter.1 e).1
 ·cases hc:qf (xu L gone) q with
  |false=>rfl
  |true=>exact absurd (j q b) (by simp[zfl hc])
theorem zeY (a:∀p∈xE L t,p∉gone) (now:Int):mkE S (xu L gone) t now=mkE S L t now:=by
 unfold mkE
 rw[QH a,zc1 a]
end
inductive vP (S:List zr) (I:List zd):List yb→Prop
 |nil:vP S I []
 |snoc {A:List yb} {e:yb}:vP S I A→yF e.tx=0→qP S I A e.tx=0→e=mkE S A e.tx e.added→vP S I (A++[e])
section
variable {S:List zr} {I:List zd} {L:List yb}
theorem zdI {S:List zr} {A:List yb} {e:yb} (h:e=mkE S A e.tx e.added):e.id=idH e.tx∧e.ps=dedup (xE A e.tx)∧e.fee=j7 e.tx (xR S A e.tx)∧e.size=qR e.tx:=
 ⟨congrArg yb.id h,congrArg yb.ps h,congrArg yb.fee h,congrArg yb.size h⟩
theorem vP.gok (h:vP S I L):GOk (gOf L):=by
 induction h with
 |nil=>exact⟨by simp[gOf,ids],by simp[gOf],λA n B e=>by simp[gOf] at e⟩
 |@snoc A e hA hc hl he ih=>
  obtain⟨a,b,-⟩:=zdI he
  have:gOf (A++[e])=Qc (gOf A) e.id (xE A e.tx):=by rw[zeA,b];rfl
  rw[this]
  exact zgE ih (by rw[vn,a];exact(zeT hl).1) (λp c=>by rw[vn];exact Yw c)
theorem vP.ent (h:vP S I L):∀e∈L,yF e.tx=0∧e.id=idH e.tx∧e.id∉I∧e.size=qR e.tx∧jF (qR e.tx)≤e.fee:=by
 induction h with
 |nil=>simp
 |@snoc A e hA hc hl he ih=>
  intro x a
  rcases mem_append.1 a with a|a
  ·exact ih x a
  ·obtain rfl:=mem_singleton.1 a
   obtain⟨b,i,c,d⟩:=zdI he
   obtain⟨j,f,k,l,g,m⟩:=zeT hl
   exact⟨hc,b,by rw[b];exact f,d,by rw[c];exact g⟩
theorem vP.apart (h:vP S I L):L.Pairwise λa b=>∀q∈zW a.tx,q∉zW b.tx:=by
 induction h with
 |nil=>exact List.Pairwise.nil
 |@snoc A e hA hc hl he ih=>
  refine List.pairwise_append.2 ⟨ih,by simp,λa d b f q g c=>?_⟩
  obtain rfl:=mem_singleton.1 f
  have:=(zfb.1 (zeT hl).2.2.1).1 q c
  rw[Jl.2 ⟨a,d,g⟩] at this
  cases this
theorem vP.drop {gone:List zd} (h:vP S I L) (c:Shut L gone):vP S I (xu L gone):=by
 induction h with
 |nil=>exact .nil
 |@snoc A e hA hc hl he ih=>
  have a:Shut A gone:=λx f=>c x (by simp[f])
  rw[zfW]
  by_cases hg:e.id∈gone
  ·rw[if_pos hg]
   exact ih a
  ·rw[if_neg hg]
   obtain⟨g,d,-⟩:=zdI he
   have b:∀p∈xE A e.tx,p∉gone:=λp b=>c e (by simp) hg p (by rw[d];exact Jq.2 b)
   exact .snoc (ih a) hc (zbL hA.gok a b hl) (by rw[zeY b];exact he)
theorem zcF (ok:GOk (gOf L)) (l:List zd):Shut L (vl (gOf L) l):=λe d h p i g=>by
 obtain⟨a,f,j⟩:=Yt.1 g
 have b:e.id∈ids (gOf L):=by rw[vn];exact mem_map.2 ⟨e,d,rfl⟩
 have c:p∈par (gOf L) e.id:=by
  have:=JC ok (n:=⟨e.id,e.ps⟩) (mem_map.2 ⟨e,d,rfl⟩)
  rw[this]
  exact i
 exact h (Yt.2 ⟨a,f,.step b c j⟩)
theorem zfV {x:zd} {ps:List zd} (f:x∉upS (gOf L) ps):∀p∈ps,p∉vl (gOf L) [x]:=λp d c=>by
 obtain⟨a,b,e⟩:=Yt.1 c
 obtain rfl:=mem_singleton.1 b
 exact f (zdH.2 ⟨p,d,e⟩)
end
def Qw (a b:Int×Int):Int:=if a.1*max b.2 1<b.1*max a.2 1 then -1 else if a.1*max b.2 1=b.1*max a.2 1 then 0 else 1
def Zb (l:List (Int×Int)):Nat→Option Nat
 |0=>none
 |n+1=>match Zb l n with
  |none=>some n
  |some k=>if Qw (l[n]?.getD (0,0)) (l[k]?.getD (0,0))<0 then some n else some k
theorem zaB (l:List (Int×Int)):∀(n k:Nat),Zb l n=some k→k<n
 |0,k,h=>by simp[Zb] at h
 |n+1,k,h=>by
  unfold Zb at h
  cases hw:Zb l n with
  |none=>rw[hw] at h;simp at h;omega
  |some j=>
   have:=zaB l n j hw
   rw[hw] at h
   simp only at h
   split at h<;>(simp at h;omega)
def wgt (e:yb):Int×Int:=(e.fee,e.size)
noncomputable def Y0 (L:List yb) (ps:List zd):List yb:=L.filter λe=>decide (e.id∉upS (gOf L) ps)
noncomputable def YY (L:List yb) (ps:List zd):Option yb:=(Zb ((Y0 L ps).map wgt) (Y0 L ps).length).bind λk=>(Y0 L ps)[k]?
noncomputable def JL (L:List yb) (w:Int×Int) (ps:List zd):Int:=
 if L.length<32 then 0 else match YY L ps with
  |none=>18
  |some e=>if Qw (wgt e) w<0 then 0 else 18
noncomputable def vQ (L:List yb) (w:Int×Int) (ps:List zd):List zd:=
 if L.length<32 then[] else match YY L ps with
  |none=>[]
  |some e=>if Qw (wgt e) w<0 then vl (gOf L) [e.id] else[]
theorem zch {L:List yb} {ps:List zd} {e:yb} (h:YY L ps=some e):e∈L∧e.id∉upS (gOf L) ps:=by
 unfold YY at h
 obtain⟨k,-,a⟩:=Option.bind_eq_some_iff.1 h
 have:=mem_of_getElem? a
 simpa[Y0] using this
theorem zc5 {L:List yb} (ok:GOk (gOf L)) (w:Int×Int) (ps:List zd):Shut L (vQ L w ps)∧∀p∈ps,p∉vQ L w ps:=by
 unfold vQ
 split
 ·exact⟨λe _ _ p _=>by simp,λp _=>by simp⟩
 ·cases hw:YY L ps with
  |none=>exact⟨λe _ _ p _=>by simp,λp _=>by simp⟩
  |some e=>
   simp only
   split
   ·exact⟨zcF ok _,zfV (zch hw).2⟩
   ·exact⟨λe _ _ p _=>by simp,λp _=>by simp⟩
theorem zj4 {L:List yb} (ok:GOk (gOf L)) {w:Int×Int} {ps:List zd} (h:JL L w ps=0) (d:L.length≤32):(xu L (vQ L w ps)).length<32:=by
 unfold JL at h
 unfold vQ
 split at h
 ·rename_i h1
  rw[if_pos h1,XH]
  exact h1
 ·rename_i h1
  rw[if_neg h1]
  cases hw:YY L ps with
  |none=>rw[hw] at h;cases h
  |some e=>
   rw[hw] at h
   simp only at h⊢
   split at h
   ·rename_i h2
    rw[if_pos h2]
    obtain⟨a,f⟩:=zch hw
    have c:e.id∈ids (gOf L):=by rw[vn];exact mem_map.2 ⟨e,a,rfl⟩
    have b:e.id∈vl (gOf L) [e.id]:=Yt.2 ⟨e.id,by simp,.refl c⟩
    have:(xu L (vl (gOf L) [e.id])).length<L.length:=by
     unfold xu
     refine List.length_filter_lt_length_iff_exists.2 ⟨e,a,by simpa using b⟩
    omega
   ·cases h
noncomputable def Zg (S:List zr) (I:List zd) (L:List yb) (t:TxD):Int:=
 if yF t≠0 then yF t else if qP S I L t≠0 then qP S I L t else JL L (j7 t (xR S L t),qR t) (xE L t)
noncomputable def Qs (S:List zr) (I:List zd) (L:List yb) (t:TxD):List zd:=if Zg S I L t=0 then vQ L (j7 t (xR S L t),qR t) (xE L t) else[]
noncomputable def Zh (S:List zr) (I:List zd) (L:List yb) (t:TxD) (now:Int):List yb:=if Zg S I L t=0 then xu L (Qs S I L t)++[mkE S L t now] else L
theorem znm {S:List zr} {I:List zd} {L:List yb} {t:TxD} (h:Zg S I L t=0):yF t=0∧qP S I L t=0∧JL L (j7 t (xR S L t),qR t) (xE L t)=0:=by
 unfold Zg at h
 split at h
 ·rename_i h1;exact absurd h h1
 rename_i h1
 split at h
 ·rename_i h2;exact absurd h h2
 rename_i h2
 exact⟨by omega,by omega,h⟩
section
variable {S:List zr} {I:List zd} {L:List yb}
theorem vP.acc (h:vP S I L) (t:TxD) (now:Int):vP S I (Zh S I L t now):=by
 unfold Zh
 split
 ·rename_i h0
  obtain⟨c,d,f⟩:=znm h0
  have e:Qs S I L t=vQ L (j7 t (xR S L t),qR t) (xE L t):=by unfold Qs;rw[if_pos h0]
  obtain⟨a,b⟩:=zc5 h.gok (j7 t (xR S L t),qR t) (xE L t)
  rw[e]
  refine .snoc (h.drop a) c (zbL h.gok a b d) ?_
  show mkE S L t now=mkE S (xu L _) t now
  rw[zeY b]
 ·exact h
theorem zaZ (h:vP S I L) (a:L.length≤32) (t:TxD) (now:Int):(Zh S I L t now).length≤32:=by
 unfold Zh
 split
 ·rename_i h0
  obtain⟨d,e,b⟩:=znm h0
  have c:Qs S I L t=vQ L (j7 t (xR S L t),qR t) (xE L t):=by unfold Qs;rw[if_pos h0]
  have:=zj4 h.gok b a
  rw[c,length_append,List.length_singleton]
  omega
 ·exact a
end
noncomputable def Zy (S:List zr) (I:List zd) (L:List yb) (l:List TxD) (now:Int):List yb:=l.foldl (λA t=>Zh S I A t now) L
noncomputable def Xf (S:List zr) (I:List zd) (L:List yb) (l:List yb):List yb:=l.foldl (λA e=>Zh S I A e.tx e.added) L
noncomputable def Qe (S:List zr) (I:List zd) (L:List yb) (first:List TxD) (now:Int):List yb:=Xf S I (Zy S I [] first now) L
noncomputable def zlj (S:List zr) (I:List zd) (L:List yb) (first:List TxD) (now:Int):List zd:=(xq L).filter λx=>decide (x∉xq (Qe S I L first now))
section
variable {S:List zr} {I:List zd} {L:List yb}
theorem vP.first:∀(l:List TxD) {L:List yb} (now:Int),vP S I L→L.length≤32→vP S I (Zy S I L l now)∧(Zy S I L l now).length≤32
 |[],L,now,h,hl=>⟨h,hl⟩
 |t::l,L,now,h,hl=>vP.first l now (h.acc t now) (zaZ h hl t now)
theorem vP.again:∀(l:List yb) {L:List yb},vP S I L→L.length≤32→vP S I (Xf S I L l)∧(Xf S I L l).length≤32
 |[],L,h,hl=>⟨h,hl⟩
 |t::l,L,h,hl=>vP.again l (h.acc t.tx t.added) (zaZ h hl t.tx t.added)
theorem vP.ren (L:List yb) (first:List TxD) (now:Int):vP S I (Qe S I L first now)∧(Qe S I L first now).length≤32:=by
 obtain⟨a,b⟩:=vP.first (S:=S) (I:=I) first now .nil (by simp)
 exact vP.again L a b
end
end Go.Proofs.YtdkkjchclkjleaaGreatDoor
