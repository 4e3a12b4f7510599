/- kin: New, Has. -/
import Derived.Deep.LoopGhost
import Derived.Shelf.SlSortCmp.WholeK
import Derived.Test.YtbcllfjmabiafaaGreatDoorProg
import Derived.Shelf.SlSortCmp.NoneTotal
import Derived.Laws.MakeOwn
import Derived.Test.YtbcllfjmabiafaaGreatDoorPG13
import Derived.Test.YtbcllfjmabiafaaGreatDoorPG2
import Derived.Test.YtbcllfjmabiafaaGreatDoorPG5
import Derived.Test.YtbcllfjmabiafaaGreatDoorPG3
set_option linter.unusedVariables false
set_option linter.unusedSimpArgs false
set_option linter.unnecessarySimpa false
set_option linter.all false
set_option maxRecDepth 20000
set_option maxHeartbeats 16000000
namespace Go.Proofs.YtbcllfjmabiafaaGreatDoor
open Go Go.RowKit Go.Maps Go.MapKept
open Go.Proofs.Tryz(prog)
open List(mem_map mem_append mem_cons length_append length_map map_append nodup_cons map_cons nodup_append size_toArray map_map map_congr_left filter_map)
open Nat(le_refl le_trans)
variable {b:Nat} {wr:World}
theorem zkY:GOk []:=⟨by simp[ids],by simp,λA n B e=>by simp at e⟩
theorem ziJ (w:World):(Instr.makeMap 176 none).run prog w=.ok (.map (some w.heap.size)) (w.alloc (.map #[] 0)):=by kernel_rfl
theorem zaV (w:World):(Instr.makeMap 129 none).run prog w=.ok (.map (some w.heap.size)) (w.alloc (.map #[] 0)):=by kernel_rfl
theorem znx (w0 w:World) (f:Fr No w0 w):Calls prog 101 #[] w λe w'=>∃p,e=.returned (.pointer (some ⟨p,0,none⟩))∧∃V,GC w0 w' p V [] 0∧Fr No w w'∧∀j,V j→w.heap.size≤j:=by
 have d:=ye w (.map #[] 0)
 have k:=Zm d (.cells #[.map (some w.heap.size),.int .i64 0] 178)
 have g:=ye (w.alloc (.map #[] 0)) (.cells #[.map (some w.heap.size),.int .i64 0] 178)
 have c:=Hd (((frN w).alloc (.map #[] 0)).alloc (.cells #[.map (some w.heap.size),.int .i64 0] 178))
 have h:qQ ((w.alloc (.map #[] 0)).alloc (.cells #[.map (some w.heap.size),.int .i64 0] 178)) w.heap.size []:=(yI.made w).keep ((frN _).alloc _) id
 have a:=@Hd (GC w0 ((w.alloc (.map #[] 0)).alloc (.cells #[.map (some w.heap.size),.int .i64 0] 178)) (w.heap.size+1) (λj=>j∈yM (w.heap.size+1) w.heap.size []) [] 0) (by
  refine⟨⟨w.heap.size,0,[],⟨by simpa using g,⟨[],h,by simp⟩,by simp,by simp[yM],λj b=>?_,by simp,by simp,by simp,by simp,f.trans0 c.o⟩,rfl,rfl,by simp,le_refl _⟩,zkY,Nat.zero_le _⟩
  have:=f.size
  simp[yM] at b
  omega)
 have i:=@Hd (∀j,j∈yM (w.heap.size+1) w.heap.size []→w.heap.size≤j) (λj b=>by simp[yM] at b;omega)
 clear d k g h
 have l:=ziJ
 go_enter Tryz.func101,Tryz.ntmps101
 go_wp2_with fail
 go_ret
 exact⟨w.heap.size+1,by simp,_,a.o,c.o,i.o⟩
section
variable {w0 w:World} {p N:Nat} {V:Nat→Prop} {G:List yL}
theorem GR.keepM {m b:Nat} {L:List yG} (_:GR w0 w p m b L) {w':World} (f:Fr No w w'):∀M,qQ w m M→qQ w' m M:=λ_ a=>a.keep f id
end
def zgp (c:Int):Value:=.int .i64 c
abbrev Vv (w:World) (b:Nat) (M:List (zf×Int)):=yI prog 45 xL zgp w b M
def jM (up:Bool) (G:List yL) (x:zf):List zf:=if up then par G x else kid G x
noncomputable def zeh (up:Bool) (G:List yL) (l:List zf):List zf:=if up then upS G l else y9 G l
theorem zim {G:List yL} (h:GOk G) {d:Bool} {l:List zf} {x:zf}:x∈zeh d G l↔∃a∈l,Rch (jM d G) (· ∈ids G) a x:=by
 cases d with
 |true=>exact Y7
 |false=>
  refine qA.trans ⟨λ⟨a,b,c⟩=>⟨a,b,(zgY h).2 c⟩,λ⟨a,b,c⟩=>⟨a,b,(zgY h).1 c⟩⟩
theorem zfe {G:List yL} (h:GOk G) (a:Bool) (x:zf):(jM a G x).length≤G.length:=by
 cases a
 ·exact zbu x
 ·exact zed h x
structure WlK (w wr:World) (b:Nat) (tv:Value) (M:List (zf×Int)) (T vis:List zf) (up:Bool) (G:List yL) (l:List zf):Prop where
 own:wr.ownsRow w.heap.size 45 32 tv T.length (T.flatMap zd)
 ok:∀x∈T,zV x
 map:Vv wr b M
 mem:∀k c,(k,c)∈M↔c=1∧k∈vis
 wl:Wl (jM up G) (· ∈ids G) l T vis
 cnt:M.length+T.length+wlW (jM up G) vis (ids G)≤l.length+G.length*G.length
 fr:Fr No w wr
 apart:∀j,tv.ownBlock=some j→j≠b
section
variable {w0 w:World} {p N:Nat} {V:Nat→Prop} {G:List yL}
theorem zbv {M:List (zf×Int)} {vis:List zf} (a:Vv wr b M) (d:∀k c,(k,c)∈M↔c=1∧k∈vis) {x:zf} (f:zV x):
  (Instr.lookup 129 (.map (some b)) (xL x) false).run prog wr=.ok (.int .i64 (if x∈vis then 1 else 0)) wr:=by
 by_cases h:x∈vis
 ·have:=a.look xT.keyed Ji (λ_ _=>xf) zkB (ym f) false (r:=some 1) (λv=>by
   rw[d];exact⟨λe=>⟨(Option.some.inj e).symm,h⟩,λe=>by rw[e.1]⟩)
  rw[if_pos h]
  simpa[zgp] using this
 ·have:=a.look xT.keyed Ji (λ_ _=>xf) zkB (ym f) false (r:=none) (λv=>by
   rw[d];exact⟨λe=>(by cases e),λe=>absurd e.2 h⟩)
  rw[if_neg h]
  simpa using this
theorem zb3 {T:List zf} {x:zf} (h:∀y∈T++[x],zV y):((T++[x]).flatMap zd).take (T.length*32)=T.flatMap zd:=by
 have b:=Zk (l:=T) (λy a=>h y (by simp[a]))
 rw[List.flatMap_append,List.take_append_of_le_length (by omega),List.take_of_length_le (by omega)]
theorem WlK.own0 {w wr:World} {b g a:Nat} {M:List (zf×Int)} {T vis:List zf} {x:zf} {d:Bool} {l:List zf} (h:WlK w wr b (.slice (some ⟨g,0,none⟩) (T.length+1) a) M (T++[x]) vis d G l):wr.ownsRow w.heap.size 45 32 (.slice (some ⟨g,0,none⟩) (T.length+1) a) (T.length+1) ((T++[x]).flatMap zd):=by
 have c:=h.own
 rwa [show(T++[x]).length=T.length+1 by simp] at c
theorem WlK.pop {w wr wr':World} {b g e:Nat} {M:List (zf×Int)} {T vis:List zf} {x:zf} {i:Bool} {l:List zf} (h:WlK w wr b (.slice (some ⟨g,0,none⟩) (T.length+1) e) M (T++[x]) vis i G l) (f:Fr No wr wr') (o:¬x∈ids G∨x∈vis):WlK w wr' b (.slice (some ⟨g,0,none⟩) T.length e) M T vis i G l:=by
 have d:=h.own
 have a:(T++[x]).length=T.length+1:=by simp
 rw[a] at d
 have c:=YA d (m:=T.length) (by omega)
 rw[zb3 h.ok] at c
 have k:=h.cnt
 rw[a] at k
 exact⟨zb c f (λ_ _=>id),λy q=>h.ok y (by simp[q]),h.map.keep f id,h.mem,h.wl.skip o,by omega,h.fr.trans0 f,λj n=>h.apart j n⟩
theorem WlK.next {w wr wr':World} {b g C:Nat} {M M':List (zf×Int)} {T vis:List zf} {x:zf} {a:Bool} {l:List zf} {tv:Value} {U:Nat→Prop} (h:WlK w wr b (.slice (some ⟨g,0,none⟩) (T.length+1) C) M (T++[x]) vis a G l) (nd:(ids G).Nodup) (o:x∈ids G) (B:x∉vis) (r:Upd M x 1 M') (D:M'.length≤M.length+1) (v:Vv wr' b M') (A:wr'.ownsRow w.heap.size 45 32 tv (T.length+(jM a G x).length) (T.flatMap zd++(jM a G x).flatMap zd)) (hok:∀y∈jM a G x,zV y) (z:∀j,tv.ownBlock=some j→j=g∨wr.heap.size≤j) (f:Fr U wr wr') (s:∀j,U j→w.heap.size≤j):WlK w wr' b tv M' (T++jM a G x) (x::vis) a G l:=by
 have d:(T++[x]).length=T.length+1:=by simp
 have t:=h.cnt
 rw[d] at t
 have F:=QQ (E:=jM a G) B nd o
 refine⟨by rw[length_append,List.flatMap_append];exact A,λy m=>?_,v,λk c=>?_,h.wl.visit o,by rw[length_append];omega,h.fr.trans f (λi hi e=>by have:=s i e;omega),λj u e=>?_⟩
 ·rcases mem_append.1 m with m|m
  ·exact h.ok y (by simp[m])
  ·exact hok y m
 ·rw[r,h.mem]
  constructor
  ·rintro(⟨rfl,rfl⟩|⟨_,n,q⟩)
   ·exact⟨rfl,by simp⟩
   ·exact⟨n,by simp[q]⟩
  ·rintro⟨rfl,n⟩
   by_cases e:k=x
   ·exact .inl ⟨e,rfl⟩
   ·exact .inr ⟨e,rfl,(mem_cons.1 n).elim (λh=>absurd h e) id⟩
 ·rcases z j u with rfl|h1
  ·exact h.apart j rfl e
  ·have:=h.map.lt
   omega
theorem zgQ (h:GC w0 w p V G N) (hN:N≤1000) {v:Value} {l:List zf} (hl:y4 w v l) (aA:l.length≤1000) (F:Bool):
  Calls prog 92 #[.pointer (some ⟨p,0,none⟩),v,.bool F] w λe w'=>∃b M,e=.returned (.map (some b))∧Vv w' b M∧(∀k c,(k,c)∈M↔c=1∧k∈zeh F G l)∧w.heap.size≤b∧Fr No w w':=by
 obtain⟨dK,uK,rK⟩:=jq
 obtain⟨m,sq,L,hr,-,hG,aq,-⟩:=h.ex
 have GK:=Hd h.gok
 have GL:=Hd (le_trans h.len hN)
 have HI:=@Hd (ids G=L.map (·.id)) (by rw[←hG];simp[ids,Function.comp])
 have HP:=@Hd (∀r∈L,par G r.id=r.ps) (λr aw=>vC h.gok (n:=⟨r.id,r.ps⟩) (by rw[←hG];exact mem_map.2 ⟨r,aw,rfl⟩))
 have HK:=Hd aq
 have HR:=Hd hr
 have HL:=Hd hl
 have SQ:=@Hd (G.length*G.length≤1000*1000) (Nat.mul_le_mul GL.o GL.o)
 obtain⟨va,vc,rfl⟩:=hl.2.form
 have f1:Fr No w (w.alloc (.map #[] 0)):=(frN w).alloc _
 have HC:=Hd (zdU (w.alloc (.map #[] 0)) (hl.keep f1) (by omega))
 have ak:=@Hd (Vv (w.alloc (.map #[] 0)) w.heap.size []) (yI.made w)
 have F1:=Hd f1
 have m1:=zaV
 have ae:=(VB hr.obj).1
 clear h hr hG aq hl f1
 go_enter Tryz.func92,Tryz.ntmps92
 go_wp2_with (go_at_call 125;refine HC.o.mono ?_;rintro e w2 ⟨ax,rfl,o2,f2⟩;have O2:=Hd o2;have F2:=Hd (F1.o.trans0 f2);have al:=Hd (ak.o.keep f2 id);clear o2 f2)
 have ST:WlK w w2 w.heap.size ax [] l [] F G l:=⟨⟨O2.o.1,O2.o.2.imp id (λ⟨g,cp,an,a1,a2,a3⟩=>⟨g,cp,an,a1,le_trans F1.o.size a2,a3⟩)⟩,HL.o.1,al.o,by simp,Wl.init l,by
  have:=zkx (E:=jM F G) (vis:=[]) (l:=ids G) (k:=G.length) (λx _=>zfe GK.o F x)
  rw[show(ids G).length=G.length by simp[ids]] at this
  simp only[List.length_nil];omega,F2.o,λj H e=>by
  have:=(O2.o.lt j H).1
  rw[e] at this
  simp at this
  omega⟩
 have au:=Hd ST
 clear m1 HC O2 ak al ST
 generalize ag:w.heap.size=b at*
 go_loopg [8] (l.length+wlW (jM F G) [] (ids G)) (λg tv wr=>∃(T vis:List zf) (M:List (zf×Int)),WlK w wr b tv M T vis F G l∧g=T.length+wlW (jM F G) vis (ids G))
 case atStart=>exact⟨l,[],[],au.o,rfl⟩
 case round=>
  obtain⟨T,vis,M,hk,ao⟩:=hrel
  have Q:=Hd hk
  obtain⟨ta,tc,e⟩:=hk.own.slice.arg.form
  subst e
  clear hk
  rcases List.eq_nil_or_concat T with rfl|⟨s,x,rfl⟩
  ·have DN:=Hd (λk c=>(Q.o.mem k c).trans (and_congr Iff.rfl ((Q.o.wl.done k).trans (zim GK.o).symm)))
   go_wp2_with fail
   go_ret
   exact⟨b,M,by rfl,Q.o.map,DN.o,by rw[ag];exact le_refl _,Q.o.fr⟩
  ·rw[List.concat_eq_append] at*
   have u:(s++[x]).length=s.length+1:=by simp
   rw[u]
   have hT:s.length≤1001000:=by have:=Q.o.cnt;have:=SQ.o;rw[u] at*;omega
   have i1:(0:Int)<((s.length+1:Nat):Int):=by omega
   have hx:(s++[x])[s.length]? =some x:=by simp
   obtain⟨g,rfl⟩:∃g,ta=some ⟨g,0,none⟩:=by
    rcases Q.o.own.2 with⟨_,h0⟩|⟨g,cp,an,e,_⟩
    ·simp at h0
    ·injection e with e1;exact⟨g,e1⟩
   obtain⟨g',off,cap,hv,ai,av⟩:=(y4.own Q.o.own Q.o.ok).at_ hx
   cases hv
   rw[Nat.zero_add] at ai
   have R1:=Hd ai
   have B:=Hd (Q.o.ok x (by simp))
   have d:=Hd (zu B.o)
   have FA:=Hd ((frN wr).alloc (.cells (zd x).toArray 45))
   have RN:=Hd (zq wr (zd x) 45)
   have FD:=Hd ((Q.o.fr.trans0 FA.o).drew)
   have FE:=Hd (FA.o.drew)
   have KM:=Hd (λ(w':World) (f:Fr No w w')=>HR.o.keepM f)
   have a:=@Hd (WlK w wr b (.slice (some ⟨g,0,none⟩) (s.length+1) tc) M (s++[x]) vis F G l) (by have:=Q.o;rwa [u] at this)
   have az:gk=s.length+1+wlW (jM F G) vis (ids G):=by rw[ao,u]
   have ay:s.length+1≤tc:=xQ.cap (n:=s.length+1) (by have:=a.o.own.slice.arg;rwa [u] at this)
   have i2:(s.length:Int)≤(tc:Int):=by omega
   clear ai av hx ao
   by_cases hin:x∈ids G
   ·have S:=hin
    rw[HI.o] at S
    obtain⟨r,hr,rfl⟩:=mem_map.1 S
    have K1:=Hd ((HR.o.run_look B.o false rfl).1 r hr rfl)
    have ND:=Hd (HR.o.node r hr)
    have RR:=Hd hr
    have IN:=Hd hin
    clear hin S hr
    unfold Vc at K1
    unfold xL at K1
    generalize ar:r.id=x at*
    by_cases hv:x∈vis
    ·have LI:=Hd (zbv (a.o.map.keep FE.o id) a.o.mem B.o)
     rw[if_pos hv] at LI
     unfold xL at LI
     have WZ:=Hd (a.o.pop FE.o (.inr hv))
     clear hv
     go_wp2_with (first|(refine znV rfl rfl rfl R1.o d.o ?_)|(refine zi rfl (zj (w:=wr) (cs:=zd x) (ty:=45) rfl rfl rfl (by rw[d.o];rfl) (by rw[d.o];exact yj) zE) ?_))
     generalize ah:wr.heap.size=q at*
     generalize wr.alloc (.cells (zd x).toArray 45)=w1 at*
     refine wrLx [ff,ff,ff,ff,ff,ff,ff] (λw'=>w'.cell? ⟨p,0,none⟩=some (.map (some m))∧w'.rangeAt q 0 (zd x)∧(∀M,qQ w m M→qQ w' m M)) ?_ (λK hK=>?_)
     ·exact⟨FD.o.cell ae id,za RN.o (frN _).drew id,KM.o _ FD.o⟩
     repeat((first|(refine zk rfl ?_;constructor;constructor;(focus(first|exact zn0 rfl (λw h=>h.2.1) d.o|exact λw' h=>zY (t:=176) rfl rfl rfl (K1.o w' h.2.2)|(rintro w' ⟨s1,s2,s3⟩;exact goS))))|(refine zl rfl ?_));try simp only[Act.put,pA,pB,pC])
     refine zN (hK.out _ _ ?_)
     have A:=Hd (za RN.o (frN w1).drew id)
     go_wp2_with (first|(refine yK (o:=⟨some 38,_,_,_,_,_⟩) rfl (zX (ty:=45) rfl rfl A.o uK rK (by rw[d.o];exact yj)) ?_)|(refine yK (o:=⟨some 39,_,_,_,_,_⟩) rfl (zY (t:=129) rfl rfl rfl LI.o) ?_))
     go_roundg (s.length+wlW (jM F G) vis (ids G))
     case measure=>omega
     case rel=>exact⟨s,vis,M,WZ.o,rfl⟩
    ·have LI:=Hd (zbv (a.o.map.keep FE.o id) a.o.mem B.o)
     rw[if_neg hv] at LI
     unfold xL at LI
     have NV:=Hd hv
     have RO:=@Hd (zV r.id∧(∀y∈r.ps,zV y)∧∀y∈r.ks,zV y) (HR.o.ok r RR.o)
     have NL:=Hd (zfe GK.o F x)
     clear hv
     cases F with
     |true=>
      have NE:=@Hd (jM true G x=r.ps) (by rw[←ar];exact HP.o r RR.o)
      have PL:=@Hd (r.ps.length≤1000) (by rw[←NE.o];have:=NL.o;have:=GL.o;omega)
      go_wp2_with (first|(refine znV rfl rfl rfl R1.o d.o ?_)|(refine zi rfl (zj (w:=wr) (cs:=zd x) (ty:=45) rfl rfl rfl (by rw[d.o];rfl) (by rw[d.o];exact yj) zE) ?_))
      generalize ah:wr.heap.size=q at*
      generalize wr.alloc (.cells (zd x).toArray 45)=w1 at*
      refine wrLx [ff,ff,ff,ff,ff,ff,ff] (λw'=>w'.cell? ⟨p,0,none⟩=some (.map (some m))∧w'.rangeAt q 0 (zd x)∧(∀M,qQ w m M→qQ w' m M)) ?_ (λK hK=>?_)
      ·exact⟨FD.o.cell ae id,za RN.o (frN _).drew id,KM.o _ FD.o⟩
      repeat((first|(refine zk rfl ?_;constructor;constructor;(focus(first|exact zn0 rfl (λw h=>h.2.1) d.o|exact λw' h=>zY (t:=176) rfl rfl rfl (K1.o w' h.2.2)|(rintro w' ⟨s1,s2,s3⟩;exact goS))))|(refine zl rfl ?_));try simp only[Act.put,pA,pB,pC])
      refine zN (hK.out _ _ ?_)
      have A:=Hd (za RN.o (frN w1).drew id)
      obtain⟨w3,M',ad,X,z,ab,Y⟩:=(a.o.map.keep FE.o id).upd xT.keyed Ji (λ_ _=>xf) (ym B.o) (show M.length<maxLen by unfold maxLen;have:=a.o.cnt;have:=SQ.o;omega) 1
      have F3:=@Hd (Fr (· =b) wr w3) ((FE.o.of0 (W:=(· =b))).trans ab.fr (λ_ _ h=>h))
      have I:=@Hd (Fr No w w3) (a.o.fr.trans F3.o (λi hi e=>by subst e;omega))
      obtain⟨xa,xc,D⟩:=ND.o.prow.slice.arg.form
      have NA:=Hd (ND.o.keep I.o (λ_ _=>id))
      have cx:=(Xq NA.o.blk).2.1
      rw[D] at cx
      have C:=zb (YA a.o.own0 (m:=s.length) (by omega)) F3.o (λj H=>a.o.apart j H)
      rw[zb3 a.o.ok] at C
      obtain⟨aj,w4,R,aa,f4,Z⟩:=Zq (P:=prog) w3 w.heap.size 37 37 45 32 32 _ y7 xA rfl (by decide) _ _ _ C (.slice xa _ xc) _ _ (by rw[←D];exact NA.o.prow.slice) (Zk RO.o.2.1) YZ (by have:=PL.o;omega) (by unfold maxLen;have:=PL.o;omega) (by rw[ag];have:=I.o.size;omega)
      have O:=Hd ad
      have af:=Hd R
      have WZ:=Hd (a.o.next (tv:=aj) (M':=M') (wr':=w4) (U:=λj=>j=b∨j=g) GK.o.nd IN.o NV.o z Y (X.keep f4 (λe=>a.o.apart b e rfl)) (by rw[NE.o];exact aa) (by rw[NE.o];exact RO.o.2.1) (λj H=>(Z j H).elim (λh=>.inl (by simpa[Value.ownBlock] using h.symm)) (λh=>.inr (by have:=F3.o.size;omega))) ((F3.o.mono (λ_ h=>.inl h)).trans f4 (λi _ h=>.inr (by simpa[Value.ownBlock] using h.symm))) (λj H=>H.elim (λe=>by omega) (λe=>by have:=(a.o.own0.lt g rfl).1;omega)))
      clear ad R z Y X ab D C aa f4 Z
      unfold xL zgp at O
      go_wp2_with (first|(refine yK (o:=⟨some 38,_,_,_,_,_⟩) rfl (zX (ty:=45) rfl rfl A.o uK rK (by rw[d.o];exact yj)) ?_)|(refine yK (o:=⟨some 39,_,_,_,_,_⟩) rfl (zY (t:=129) rfl rfl rfl LI.o) ?_)|(refine znV rfl rfl rfl A.o d.o ?_)|(refine zi rfl (xK rfl rfl rfl rfl O.o) ?_)|(at_builtin;refine zJ rfl rfl rfl rfl af.o ?_))
      go_roundg (s.length+(jM true G x).length+wlW (jM true G) (x::vis) (ids G))
      case measure=>have:=QQ (E:=jM true G) NV.o GK.o.nd IN.o;omega
      case rel=>exact⟨_,_,M',WZ.o,by rw[length_append]⟩
     |false=>
      have NE:=@Hd (jM false G x=r.ks) (by rw[←ar];exact(HK.o r RR.o).symm)
      have PL:=@Hd (r.ks.length≤1000) (by rw[←NE.o];have:=NL.o;have:=GL.o;omega)
      go_wp2_with (first|(refine znV rfl rfl rfl R1.o d.o ?_)|(refine zi rfl (zj (w:=wr) (cs:=zd x) (ty:=45) rfl rfl rfl (by rw[d.o];rfl) (by rw[d.o];exact yj) zE) ?_))
      generalize ah:wr.heap.size=q at*
      generalize wr.alloc (.cells (zd x).toArray 45)=w1 at*
      refine wrLx [ff,ff,ff,ff,ff,ff,ff] (λw'=>w'.cell? ⟨p,0,none⟩=some (.map (some m))∧w'.rangeAt q 0 (zd x)∧(∀M,qQ w m M→qQ w' m M)) ?_ (λK hK=>?_)
      ·exact⟨FD.o.cell ae id,za RN.o (frN _).drew id,KM.o _ FD.o⟩
      repeat((first|(refine zk rfl ?_;constructor;constructor;(focus(first|exact zn0 rfl (λw h=>h.2.1) d.o|exact λw' h=>zY (t:=176) rfl rfl rfl (K1.o w' h.2.2)|(rintro w' ⟨s1,s2,s3⟩;exact goS))))|(refine zl rfl ?_));try simp only[Act.put,pA,pB,pC])
      refine zN (hK.out _ _ ?_)
      have A:=Hd (za RN.o (frN w1).drew id)
      obtain⟨w3,M',ad,X,z,ab,Y⟩:=(a.o.map.keep FE.o id).upd xT.keyed Ji (λ_ _=>xf) (ym B.o) (show M.length<maxLen by unfold maxLen;have:=a.o.cnt;have:=SQ.o;omega) 1
      have F3:=@Hd (Fr (· =b) wr w3) ((FE.o.of0 (W:=(· =b))).trans ab.fr (λ_ _ h=>h))
      have I:=@Hd (Fr No w w3) (a.o.fr.trans F3.o (λi hi e=>by subst e;omega))
      obtain⟨xa,xc,D⟩:=ND.o.crow.slice.arg.form
      have NA:=Hd (ND.o.keep I.o (λ_ _=>id))
      have cx:=(Xq NA.o.blk).2.2
      rw[D] at cx
      have C:=zb (YA a.o.own0 (m:=s.length) (by omega)) F3.o (λj H=>a.o.apart j H)
      rw[zb3 a.o.ok] at C
      obtain⟨aj,w4,R,aa,f4,Z⟩:=Zq (P:=prog) w3 w.heap.size 37 37 45 32 32 _ y7 xA rfl (by decide) _ _ _ C (.slice xa _ xc) _ _ (by rw[←D];exact NA.o.crow.slice) (Zk RO.o.2.2) YZ (by have:=PL.o;omega) (by unfold maxLen;have:=PL.o;omega) (by rw[ag];have:=I.o.size;omega)
      have O:=Hd ad
      have af:=Hd R
      have WZ:=Hd (a.o.next (tv:=aj) (M':=M') (wr':=w4) (U:=λj=>j=b∨j=g) GK.o.nd IN.o NV.o z Y (X.keep f4 (λe=>a.o.apart b e rfl)) (by rw[NE.o];exact aa) (by rw[NE.o];exact RO.o.2.2) (λj H=>(Z j H).elim (λh=>.inl (by simpa[Value.ownBlock] using h.symm)) (λh=>.inr (by have:=F3.o.size;omega))) ((F3.o.mono (λ_ h=>.inl h)).trans f4 (λi _ h=>.inr (by simpa[Value.ownBlock] using h.symm))) (λj H=>H.elim (λe=>by omega) (λe=>by have:=(a.o.own0.lt g rfl).1;omega)))
      clear ad R z Y X ab D C aa f4 Z
      unfold xL zgp at O
      go_wp2_with (first|(refine yK (o:=⟨some 38,_,_,_,_,_⟩) rfl (zX (ty:=45) rfl rfl A.o uK rK (by rw[d.o];exact yj)) ?_)|(refine yK (o:=⟨some 39,_,_,_,_,_⟩) rfl (zY (t:=129) rfl rfl rfl LI.o) ?_)|(refine znV rfl rfl rfl A.o d.o ?_)|(refine zi rfl (xK rfl rfl rfl rfl O.o) ?_)|(at_builtin;refine zJ rfl rfl rfl rfl af.o ?_))
      go_roundg (s.length+(jM false G x).length+wlW (jM false G) (x::vis) (ids G))
      case measure=>have:=QQ (E:=jM false G) NV.o GK.o.nd IN.o;omega
      case rel=>exact⟨_,_,M',WZ.o,by rw[length_append]⟩
   ·have K1:=Hd ((HR.o.run_look B.o false rfl).2 (by rw[←HI.o];exact hin))
    have WZ:=Hd (a.o.pop FE.o (.inl hin))
    clear hin
    unfold xL at K1
    go_wp2_with (first|(refine znV rfl rfl rfl R1.o d.o ?_)|(refine zi rfl (zj (w:=wr) (cs:=zd x) (ty:=45) rfl rfl rfl (by rw[d.o];rfl) (by rw[d.o];exact yj) zE) ?_))
    generalize ah:wr.heap.size=q at*
    generalize wr.alloc (.cells (zd x).toArray 45)=w1 at*
    refine wrLx [ff,ff,ff,ff,ff,ff,ff] (λw'=>w'.cell? ⟨p,0,none⟩=some (.map (some m))∧w'.rangeAt q 0 (zd x)∧(∀M,qQ w m M→qQ w' m M)) ?_ (λK hK=>?_)
    ·exact⟨FD.o.cell ae id,za RN.o (frN _).drew id,KM.o _ FD.o⟩
    repeat((first|(refine zk rfl ?_;constructor;constructor;(focus(first|exact zn0 rfl (λw h=>h.2.1) d.o|exact λw' h=>zY (t:=176) rfl rfl rfl (K1.o w' h.2.2)|(rintro w' ⟨s1,s2,s3⟩;exact goS))))|(refine zl rfl ?_));try simp only[Act.put,pA,pB,pC])
    refine zN (hK.out _ _ ?_)
    go_wp2_with fail
    go_roundg (s.length+wlW (jM F G) vis (ids G))
    case measure=>omega
    case rel=>exact⟨s,vis,M,WZ.o,rfl⟩
end
end Go.Proofs.YtbcllfjmabiafaaGreatDoor
namespace Go.Proofs
open Go.Shelf
def Tryz.laysK_ren:Go.Shelf.Ren:=⟨fun|6=>122|15=>151|14=>150|28=>182|29=>172|20=>174|21=>175|22=>176|23=>177|24=>178|25=>179|26=>180|27=>181|46=>193|47=>194|48=>195|49=>196|50=>197|57=>201|n=>n,fun|22=>37|24=>45|25=>229|3=>3|39=>231|0=>0|53=>24|55=>42|4=>4|46=>270|45=>269|50=>274|5=>5|9=>9|66=>287|70=>290|76=>294|77=>295|n=>n,fun|n=>n⟩
theorem Tryz.laysK:Go.Proofs.SlLaysF0.n6 Tryz.prog Tryz.laysK_ren:={
 mixed:=by kernel_rfl
 f6:=⟨Tryz.f122.name,by decide,Tryz.func122.trans (congrArg some (by kernel_rfl))⟩
 f14:=⟨Tryz.f150.name,by decide,Tryz.func150.trans (congrArg some (by kernel_rfl))⟩
 f15:=Tryz.func151.trans (congrArg some (by kernel_rfl))
 f20:=⟨Tryz.f174.name,by decide,Tryz.func174.trans (congrArg some (by kernel_rfl))⟩
 f21:=⟨Tryz.f175.name,by decide,Tryz.func175.trans (congrArg some (by kernel_rfl))⟩
 f22:=⟨Tryz.f176.name,by decide,Tryz.func176.trans (congrArg some (by kernel_rfl))⟩
 f23:=⟨Tryz.f177.name,by decide,Tryz.func177.trans (congrArg some (by kernel_rfl))⟩
 f24:=⟨Tryz.f178.name,by decide,Tryz.func178.trans (congrArg some (by kernel_rfl))⟩
 f25:=⟨Tryz.f179.name,by decide,Tryz.func179.trans (congrArg some (by kernel_rfl))⟩
 f26:=⟨Tryz.f180.name,by decide,Tryz.func180.trans (congrArg some (by kernel_rfl))⟩
 f27:=⟨Tryz.f181.name,by decide,Tryz.func181.trans (congrArg some (by kernel_rfl))⟩
 f28:=Tryz.func182.trans (congrArg some (by kernel_rfl))
 f29:=Tryz.func172.trans (congrArg some (by kernel_rfl))
 f46:=⟨Tryz.f193.name,by decide,Tryz.func193.trans (congrArg some (by kernel_rfl))⟩
 f47:=Tryz.func194.trans (congrArg some (by kernel_rfl))
 f48:=Tryz.func195.trans (congrArg some (by kernel_rfl))
 f49:=⟨Tryz.f196.name,by decide,Tryz.func196.trans (congrArg some (by kernel_rfl))⟩
 f50:=⟨Tryz.f197.name,by decide,Tryz.func197.trans (congrArg some (by kernel_rfl))⟩
 f57:=⟨Tryz.f201.name,by decide,Tryz.func201.trans (congrArg some (by kernel_rfl))⟩
 t0:=Tryz.underlying0
 a0:=Tryz.isAgg0
 z0:=Tryz.sizeOf0
 v0:=Tryz.zeroValue0
 t3:=Tryz.underlying3
 a3:=Tryz.isAgg3
 z3:=Tryz.sizeOf3
 v3:=Tryz.zeroValue3
 t4:=Tryz.underlying4
 a4:=Tryz.isAgg4
 z4:=Tryz.sizeOf4
 v4:=Tryz.zeroValue4
 t5:=Tryz.underlying5
 a5:=Tryz.isAgg5
 z5:=Tryz.sizeOf5
 v5:=Tryz.zeroValue5
 t9:=Tryz.underlying9
 a9:=Tryz.isAgg9
 z9:=Tryz.sizeOf9
 v9:=Tryz.zeroValue9
 t22:=Tryz.underlying37
 a22:=Tryz.isAgg37
 z22:=Tryz.sizeOf37
 v22:=Tryz.zeroValue37
 t25:=Tryz.underlying229
 a25:=Tryz.isAgg229
 z25:=Tryz.sizeOf229
 v25:=Tryz.zeroValue229
 t39:=Tryz.underlying231
 a39:=Tryz.isAgg231
 z39:=Tryz.sizeOf231
 v39:=Tryz.zeroValue231
 t45:=Tryz.underlying269
 a45:=Tryz.isAgg269
 z45:=Tryz.sizeOf269
 v45:=Tryz.zeroValue269
 t46:=Tryz.underlying270
 a46:=Tryz.isAgg270
 z46:=Tryz.sizeOf270
 v46:=Tryz.zeroValue270
 t50:=Tryz.underlying274
 a50:=Tryz.isAgg274
 z50:=Tryz.sizeOf274
 v50:=Tryz.zeroValue274
 t53:=Tryz.underlying24
 a53:=Tryz.isAgg24
 z53:=Tryz.sizeOf24
 v53:=Tryz.zeroValue24
 t55:=Tryz.underlying42
 a55:=Tryz.isAgg42
 z55:=Tryz.sizeOf42
 v55:=Tryz.zeroValue42
 t66:=Tryz.underlying287
 a66:=Tryz.isAgg287
 z66:=Tryz.sizeOf287
 v66:=Tryz.zeroValue287
 t70:=Tryz.underlying290
 a70:=Tryz.isAgg290
 z70:=Tryz.sizeOf290
 v70:=Tryz.zeroValue290
 t76:=Tryz.underlying294
 a76:=Tryz.isAgg294
 z76:=Tryz.sizeOf294
 v76:=Tryz.zeroValue294
 t77:=Tryz.underlying295
 a77:=Tryz.isAgg295
 z77:=Tryz.sizeOf295
 v77:=Tryz.zeroValue295}
end Go.Proofs
namespace Go.Proofs.YtbcllfjmabiafaaGreatDoor
open Go Go.RowKit Go.Maps Go.MapKept
open Go.Proofs.Tryz(prog)
open List(mem_map mem_append mem_cons length_append length_map map_append nodup_cons map_cons nodup_append size_toArray map_map map_congr_left filter_map)
open Nat(le_refl le_trans)
variable {B b bx k n:Nat} {v:Value} {xs:List Value}
section
open Go.Sort
def zbk (L:List yG) (x:zf):Int:=((L.find? λr=>decide (r.id=x)).map λr=>(r.seq:Int)).getD 0
theorem Qz {L:List yG} (b:(L.map (·.id)).Nodup) {r:yG} (a:r∈L):zbk L r.id=r.seq:=by
 unfold zbk
 induction L with
 |nil=>cases a
 |cons y t ih=>
  obtain⟨c,d⟩:=nodup_cons.1 (by simpa using b:(y.id::t.map (·.id)).Nodup)
  rcases mem_cons.1 a with rfl|a
  ·simp
  ·have:y.id≠r.id:=λe=>c (by rw[e];exact mem_map.2 ⟨r,a,rfl⟩)
   rw[List.find?_cons_of_neg (by simpa using this)]
   exact ih d a
theorem zgH {L:List yG} (c:(L.map (·.id)).Nodup) (d:L.Pairwise λa b=>a.seq<b.seq):(L.map (·.id)).Pairwise λa b=>zbk L a<zbk L b:=by
 rw[List.pairwise_map]
 refine(d.imp_of_mem fun {a b} ha hb h=>?_)
 rw[Qz c ha,Qz c hb]
 omega
def zbi {L:List yG} (x:{h:zf // h∈L.map (·.id)}):List Value:=zd x.1
def zf4 {L:List yG} (x y:{h:zf // h∈L.map (·.id)}):Int:=zbk L x.1-zbk L y.1
theorem zbw {L:List yG} (x y:{h:zf // h∈L.map (·.id)}):ltOf zf4 x y=decide (zbk L x.1<zbk L y.1):=by
 unfold ltOf zf4
 by_cases h:zbk L x.1<zbk L y.1
 ·simp[h];omega
 ·simp[h];omega
theorem znR {L:List yG}:SWO (ltOf (zf4 (L:=L))) where
 irrefl x:=by rw[zbw];simp
 trans x y z h1 h2:=by rw[zbw] at*;simp only[decide_eq_true_eq] at*;omega
 ntrans x y z h1 h2:=by rw[zbw] at*;simp only[decide_eq_false_iff_not] at*;omega
section
variable {w0 w:World} {p m sq:Nat} {L:List yG}
theorem zk9 (h:GR w0 w p m sq L) (g:sq≤1000) {W:World} (o:W.cell? ⟨bx,0,none⟩=some (.pointer (some ⟨p,0,none⟩))) (s:W.cell? ⟨p,0,none⟩=some (.map (some m))) (v:∀M,qQ w m M→qQ W m M) (k:∀r∈L,W.cell? ⟨r.b,0,none⟩=some (.int .i64 (r.seq:Int))) (x y:{h:zf // h∈L.map (·.id)}):
  Calls prog 123 #[.agg (zbi x).toArray,.agg (zbi y).toArray,.pointer (some ⟨bx,0,none⟩)] W λe w'=>e=.returned (.int .i64 (zf4 x y))∧Yd W w':=by
 obtain⟨x,z⟩:=x
 obtain⟨y,A⟩:=y
 unfold zbi zf4
 dsimp only
 obtain⟨b,c,rfl⟩:=mem_map.1 z
 obtain⟨a,d,rfl⟩:=mem_map.1 A
 rw[Qz h.idn c,Qz h.idn d]
 have l:=Hd (h.ok b c).1
 have n:=Hd (h.ok a d).1
 have G:=Hd (zu l.o)
 have H:=Hd (zu n.o)
 have i:=Hd ((h.run_look l.o false rfl).1 b c rfl)
 have j:=Hd ((h.run_look n.o false rfl).1 a d rfl)
 unfold Vc at i j
 unfold xL at i j
 have B:=k b c
 have C:=k a d
 have Q:b.seq≤1000:=le_trans (h.top b c) g
 have R:a.seq≤1000:=le_trans (h.top a d) g
 have u:Fr No W ((W.alloc (.cells (zd b.id).toArray 45)).alloc (.cells (zd a.id).toArray 45)):=((frN W).alloc _).alloc _
 have E:=Hd ((((Yd.refl W).alloc (.cells (zd b.id).toArray 45)).alloc (.cells (zd a.id).toArray 45)).drew)
 have I:=Hd (za (zq W (zd b.id) 45) ((frN _).alloc (.cells (zd a.id).toArray 45)) id)
 have N:=@Hd (((W.alloc (.cells (zd b.id).toArray 45)).alloc (.cells (zd a.id).toArray 45)).rangeAt (W.heap.size+1) 0 (zd a.id)) (by
  have:=zq (W.alloc (.cells (zd b.id).toArray 45)) (zd a.id) 45
  simpa using this)
 have F:=Hd (λ(w':World) (f:Fr No W w')=>(⟨f.cell o id,f.cell s id,λM O=>(v M O).keep f id,f.cell B id,f.cell C id⟩:w'.cell? ⟨bx,0,none⟩=some (.pointer (some ⟨p,0,none⟩))∧w'.cell? ⟨p,0,none⟩=some (.map (some m))∧(∀M,qQ w m M→qQ w' m M)∧w'.cell? ⟨b.b,0,none⟩=some (.int .i64 (b.seq:Int))∧w'.cell? ⟨a.b,0,none⟩=some (.int .i64 (a.seq:Int))))
 have D:=Hd u
 clear h z A c d k v o s B C u g
 have P:IntKind.i64.wrap ((b.seq:Int)-(a.seq:Int))=(b.seq:Int)-(a.seq:Int):=by
  simp[IntKind.wrap,IntKind.bits,IntKind.signed]
  omega
 go_enter Tryz.func123,Tryz.ntmps123
 go_wp2_with fail
 generalize S:W.heap.size=q at*
 generalize (W.alloc (.cells (zd b.id).toArray 45)).alloc (.cells (zd a.id).toArray 45)=w1 at*
 refine wrLx [ff,ff,ff,ff,ff,ff,ff,ff,ff,ff,ff,ff,ff,ff,ff,ff,ff,ff,ff,ff] (λw'=>(w'.cell? ⟨bx,0,none⟩=some (.pointer (some ⟨p,0,none⟩))∧w'.cell? ⟨p,0,none⟩=some (.map (some m))∧(∀M,qQ w m M→qQ w' m M)∧w'.cell? ⟨b.b,0,none⟩=some (.int .i64 (b.seq:Int))∧w'.cell? ⟨a.b,0,none⟩=some (.int .i64 (a.seq:Int)))∧w'.rangeAt q 0 (zd b.id)∧w'.rangeAt (q+1) 0 (zd a.id)) ?_ (λK hK=>?_)
 ·exact⟨F.o _ D.o.drew,za I.o (frN _).drew id,za N.o (frN _).drew id⟩
 repeat((first|(refine zk rfl ?_;constructor;constructor;(focus(first|exact zn0 rfl (λw h=>h.2.1) G.o|exact zn0 rfl (λw h=>h.2.2) H.o|exact λw' h=>zY (t:=176) rfl rfl rfl (i.o w' h.1.2.2.1)|exact λw' h=>zY (t:=176) rfl rfl rfl (j.o w' h.1.2.2.1)|(rintro w' ⟨⟨T,U,V,X,Y⟩,Z,s7⟩;exact goS))))|(refine zl rfl ?_));try simp only[Act.put,pA,pB,pC])
 refine zN (hK.out _ _ ?_)
 go_wp2_with fail
 go_ret
 exact⟨by(try rw[P]);rfl,E.o⟩
theorem zif:∀w,(isAgg (Tryz.laysK_ren.t 24)).run prog w=.ok true w:=λw=>by kernel_rfl
theorem ziP:∀w,(Go.sizeOf (Tryz.laysK_ren.t 24)).run prog w=.ok 32 w:=λw=>by kernel_rfl
theorem zmL (h:GR w0 w p m sq L) (X:sq≤1000) (cb:w.cell? ⟨bx,0,none⟩=some (.pointer (some ⟨p,0,none⟩))) {H S:List zf} (o:w.ownsRow B 45 32 v H.length (H.flatMap zd)) (hv:∀j,v.ownBlock=some j→j≠bx∧j∉yM p m L) (U:S.Perm H) (N:S.Sublist (L.map (·.id))) (hN:H.length≤100000):
  Calls prog 122 #[v,.func (.func 123) #[] #[.pointer (some ⟨bx,0,none⟩)]] w λe w'=>e=.returned (.tuple #[])∧w'.ownsRow B 45 32 v H.length (S.flatMap zd)∧Fr (λj=>v.ownBlock=some j) w w':=by
 by_cases h0:H=[]
 ·subst h0
  have hS:S=[]:=U.eq_nil
  subst hS
  obtain⟨va,vc,rfl⟩:=o.slice.arg.form
  refine(AnyF.slices_SortFunc_none Tryz.laysK va vc (.func (.func 123) #[] #[.pointer (some ⟨bx,0,none⟩)]) w).mono ?_
  rintro e w' ⟨rfl,rfl⟩
  exact⟨rfl,o,Fr.refl _ _⟩
 ·have T:H.length≠0:=λe=>h0 (List.eq_nil_of_length_eq_zero e)
  obtain⟨g,cap,rfl⟩:∃g cap,v=.slice (some ⟨g,0,none⟩) H.length cap:=by
   rcases o.2 with⟨_,e⟩|⟨g,cap,aa,e,_⟩
   ·exact absurd e T
   ·exact⟨g,cap,e⟩
  obtain⟨k,O⟩:=zds (q:=λh=>h∈L.map (·.id)) H (λx hx=>N.subset (U.mem_iff.2 hx))
  subst O
  obtain⟨x0,hx0⟩:∃x,x∈k:=by
   cases k with
   |nil=>exact absurd rfl h0
   |cons a t=>exact⟨a,by simp⟩
  haveI:Inhabited {h:zf // h∈L.map (·.id)}:=⟨x0⟩
  have hf:(k.map Subtype.val).flatMap zd=k.flatMap zbi:=by rw[List.flatMap_map];rfl
  rw[hf,length_map] at o
  rw[length_map] at hN hv⊢
  have eg:∀args w,(callFunc 123 args).run prog w=.ok (.enter 123 args) w:=enters_of Tryz.func123 (by kernel_rfl) rfl
  have I:∀x:{h:zf // h∈L.map (·.id)},(zbi x).length=32:=λx=>by
   obtain⟨r,K,e⟩:=mem_map.1 x.2
   unfold zbi
   rw[←e]
   exact zu (h.ok r K).1
  have hg:=hv g rfl
  have P:CmpLays prog 123 #[.pointer (some ⟨bx,0,none⟩)] zbi 32 zf4 g 0 k.toArray.size w:=λm' os dk Q x y=>by
   obtain⟨-,f⟩:=zcB zbi 32 I o (d':=dk) (by rw[Q,size_toArray]) m' os
   have s:∀j∈yM p m L,¬j=g:=λj c e=>hg.2 (e▸c)
   refine(zk9 h X (f.cell cb (λe=>hg.1 e.symm)) (f.cell (VB h.obj).1 (s p (by simp[yM]))) (λM hM=>hM.keep f (s m (by simp[yM]))) (λr K=>f.cell (Xq (h.node r K).blk).1 (s r.b (by simp only[yM,mem_cons,List.mem_flatMap];exact .inr (.inr ⟨r,K,by simp[yG.blks]⟩)))) x y).mono λ_ _ ⟨he,hq⟩=>⟨he,hq⟩
  have l:=AnyQ.slices_SortFunc Tryz.laysK 32 zif ziP zbi I (λx=>zE) zf4 znR 123 #[.pointer (some ⟨bx,0,none⟩)] g 0 cap k.toArray w eg P (zdk zbi 32 I o) (o.lt g rfl).2 (by rw[size_toArray];omega)
  rw[size_toArray] at l
  refine l.mono ?_
  rintro e w' ⟨rfl,d',n,os,E,W,rfl⟩
  have V:=(zgH h.idn h.seqs).sublist N
  have hd:d'.toList.map Subtype.val=S:=sorted_perm Subtype.val (r:=λa b=>decide (zbk L a<zbk L b)) zbw (d:=k.toArray) (by rw[size_toArray];exact E) (by rw[size_toArray];exact W) U
   (V.imp (fun {a b} h=>by simp;omega))
   (λa ha b hb Z h2=>by
    simp only[decide_eq_false_iff_not] at Z h2
    obtain⟨r1,F,rfl⟩:=mem_map.1 (N.subset ha)
    obtain⟨r2,G,rfl⟩:=mem_map.1 (N.subset hb)
    rw[Qz h.idn F,Qz h.idn G] at Z h2
    obtain⟨i,hi⟩:=List.mem_iff_getElem?.1 F
    obtain⟨j,c⟩:=List.mem_iff_getElem?.1 G
    have D:=List.pairwise_iff_getElem.1 h.seqs
    obtain⟨u,z⟩:=List.getElem?_eq_some_iff.1 hi
    obtain⟨A,C⟩:=List.getElem?_eq_some_iff.1 c
    have:i=j:=by
     rcases Nat.lt_trichotomy i j with e|e|e
     ·have:=D i j u A e;rw[z,C] at this;omega
     ·exact e
     ·have:=D j i A u e;rw[z,C] at this;omega
    subst this
    rw[hi] at c
    injection c with c
    rw[c])
  have Y:d'.size=k.length:=by have:=E.1;rw[size_toArray] at this;exact this
  obtain⟨ho,fo⟩:=zcB zbi 32 I o Y n os
  have R:d'.toList.flatMap zbi=S.flatMap zd:=by rw[←hd,List.flatMap_map];rfl
  rw[R] at ho
  exact⟨rfl,ho,fo.mono (λj c=>by rw[c];rfl)⟩
end
end
section
open Go.Sort
abbrev zi4 (w:World) (r b:Nat) (M R:List (zf×Int)):=vZ prog 45 xL zgp w r b M R
theorem keys_perm {M:List (zf×Int)} {S:List zf} (b:(M.map (·.1)).Nodup) (a:∀k c,(k,c)∈M↔c=1∧k∈S) (hS:S.Nodup):S.Perm (M.map (·.1)):=by
 refine(List.perm_ext_iff_of_nodup hS b).2 (λx=>?_)
 constructor
 ·intro h
  exact mem_map.2 ⟨(x,1),(a x 1).2 ⟨rfl,h⟩,rfl⟩
 ·intro h
  obtain⟨⟨y,c⟩,d,rfl⟩:=mem_map.1 h
  exact((a y c).1 d).2
theorem zea {w:World} {e:TypeId} {r b:Nat} {M R:List (zf×Int)} (h:w.ownsRow B e k v n xs) (i:zi4 w r b M R):∀j,v.ownBlock=some j→j≠r:=by
 obtain⟨es,d,seen,-,-,-,-,-,-,c,-⟩:=i
 rcases h.2 with⟨rfl,_⟩|⟨g,cap,f,rfl,_,l,_⟩
 ·intro j a;cases a
 ·intro j a e
  simp[Value.ownBlock] at a
  subst a e
  rw[l] at c
  cases c
theorem zcm {w:World} {c:Array Value} (h:w.ownsRow B 45 k v n xs) (a:w.heap[bx]? =some (.cells c 115 (0,0))):∀j,v.ownBlock=some j→j≠bx:=by
 rcases h.2 with⟨rfl,_⟩|⟨g,cap,d,rfl,_,f,_⟩
 ·intro j b;cases b
 ·intro j b e
  simp[Value.ownBlock] at b
  subst b e
  rw[f] at a
  injection a with a
  injection a with _ a
  revert a
  decide
section
variable {w0 w:World} {p N:Nat} {V:Nat→Prop} {G:List yL}
theorem zcA (h:GC w0 w p V G N) (hN:N≤1000) {M:List (zf×Int)} {S:List zf} (E:Vv w b M) (hs:∀k c,(k,c)∈M↔c=1∧k∈S) (f:S.Sublist (ids G)):
  Calls prog 82 #[.pointer (some ⟨p,0,none⟩),.map (some b)] w λe w'=>∃v,e=.returned v∧w'.ownsRow w.heap.size 45 32 v S.length (S.flatMap zd)∧Fr No w w':=by
 have X:S.Nodup:=h.gok.nd.sublist f
 have aG:S.length≤1000:=by
  have:=f.length_le
  have:=h.len
  simp only[ids,length_map] at*
  omega
 have LM:=@Hd (M.length=S.length) (by rw[(keys_perm E.nodup hs X).length_eq,length_map])
 have f1:Fr No w (w.alloc (.cells #[.pointer (some ⟨p,0,none⟩)] 115)):=(frN w).alloc _
 have aC:=(zbf (ye w (.cells #[.pointer (some ⟨p,0,none⟩)] 115))).1
 have Z:=E.keep f1 id
 have LR:=Hd (λty=>Z.lenRun Ji ty)
 obtain⟨iK,hi,hz,al,ae⟩:=info_parts xA
 obtain⟨w2,aE,aj,af⟩:=run_makeSlice_owned (P:=prog) (w:=w.alloc (.cells #[.pointer (some ⟨p,0,none⟩)] 115)) w.heap.size 37 45 iK _ 32 y7 hi hz al .i64 .i64 M.length (by rw[LM.o];omega) (by rw[ae,LM.o];omega) (by rw[LM.o];unfold maxLen;omega) (by simp)
 have f2:Fr No (w.alloc (.cells #[.pointer (some ⟨p,0,none⟩)] 115)) w2:=Fr.of_grown af (λk e=>by cases e)
 have ah:=Z.keep f2 id
 obtain⟨d,Q,hit⟩:=ah.rangeI Ji
 have HS:=Hd hs
 have ax:=Hd X
 have az:=@Hd (∀x∈M,zV x.1) (λx hx=>h.okId x.1 (f.subset ((hs x.1 x.2).1 hx).2))
 have au:=Hd E.nodup
 have aq:=Hd hit
 have F0:=Hd ((f1.trans0 f2).alloc (.mapIter (some b) d #[] d))
 have CB:=Hd ((f2.alloc (.mapIter (some b) d #[] d)).obj (ye w (.cells #[.pointer (some ⟨p,0,none⟩)] 115)) id)
 have av:=@Hd ((w2.alloc (.mapIter (some b) d #[] d)).ownsRow w.heap.size 45 32 (.slice (some ⟨w.heap.size+1,0,none⟩) 0 M.length) 0 []) (by have:=aj.alloc (.mapIter (some b) d #[] d);simpa using this)
 have HB:=@Hd (w.heap.size<w2.heap.size) (by have:=f2.size;simp at this;omega)
 have HC:=Hd h
 have ay:=Hd E.lt
 have aA:=Hd f
 have zh:=yJ
 clear h E Z hs f hi hz al ae aj af f2 hit f1 aC X ah
 go_enter Tryz.func82,Tryz.ntmps82
 go_wp2_with (first|(refine zg rfl (jr rfl rfl (LR.o _)) ?_)|(refine vS rfl rfl rfl Q ?_))
 generalize hq:w2.heap.size=r at*
 generalize w2.alloc (.mapIter (some b) d #[] d)=W at*
 clear Q aE LR
 try simp only[Act.put,pA,pB,pC]
 generalize aD:w.heap.size=bx at*
 go_loopg [5] M.length (λn l wr=>∃(D R:List (zf×Int)),(D++R).Perm M∧R.length=n∧zi4 wr r b M R∧wr.ownsRow bx 45 32 l D.length ((D.map (·.1)).flatMap zd)∧wr.heap[bx]? =some (.cells #[.pointer (some ⟨p,0,none⟩)] 115 (0,0))∧Fr No w wr)
 case atStart=>exact⟨[],M,List.Perm.refl _,rfl,aq.o,av.o,CB.o,F0.o⟩
 case round=>
  obtain⟨D,R,a,E,hI,u,s,y⟩:=hrel
  cases R with
  |nil=>
   have F:=hI.stop
   rw[List.append_nil] at a
   have hp:=keys_perm au.o HS.o ax.o
   have g:S.Perm (D.map (·.1)):=hp.trans (a.symm.map _)
   have q:D.length=S.length:=by rw[g.length_eq,length_map]
   obtain⟨m,sq,L,hr,-,hG,-,aF⟩:=HC.o.ex
   have I:ids G=L.map (·.id):=by rw[←hG];simp[ids,Function.comp]
   have o:=zmL (hr.fr0 y) (by omega) (bx:=bx) (B:=bx) (zbf s).1 (H:=D.map (·.1)) (by rw[length_map];exact u) (λj hj=>⟨zcm u s j hj,λe=>by have:=(u.lt j hj).1;have:=hr.hi j e;omega⟩) g (by rw[←I];exact aA.o) (by rw[length_map,q];omega)
   rw[length_map,q] at o
   have T:=Hd o
   have FR:=Hd y
   have HO:=Hd u
   obtain⟨la,lc,ag⟩:=u.slice.arg.form
   rw[q] at ag
   subst ag
   clear hI u a E y hp g o q s hr hG aF I
   go_wp2_with (first|(refine xm rfl rfl rfl (F _) ?_)|(go_at_call 122;refine T.o.mono ?_;rintro e w5 ⟨rfl,z,f5⟩))
   go_ret
   exact⟨.slice la S.length lc,by rfl,by rw[aD];exact z,FR.o.trans f5 (λi hi e=>by have:=(HO.o.lt i e).1;omega)⟩
  |cons x0 R0=>
   obtain⟨A,x,B,w3,C,F,ab,f3,O⟩:=hI.step (by simp) 0
   have hx:x∈M:=a.subset (by rw[C];simp)
   have aB:=Hd (az.o x hx)
   have HX:=Hd (zu aB.o)
   have g:((D++[x])++(A++B)).Perm M:=by
    refine List.Perm.trans ?_ a
    rw[C,List.append_assoc]
    exact List.Perm.append_left _ (show(x::(A++B)).Perm (A++x::B) from List.perm_middle.symm)
   have q:D.length≤100000:=by have:=g.length_eq;have:=LM.o;simp at this⊢;simp at*;omega
   have aa:=zea u hI
   have ai:=zcm u s
   have t5:Fr No w3 (w3.alloc (.cells (zd x.1).toArray 45)):=(frN w3).alloc _
   have ak:=zb (zb u f3 (λj e e'=>aa j e e')) t5 (λ_ _=>id)
   have K:=t5.obj (f3.obj s (λe=>by have:=HB.o;omega)) id
   have Y:=λj e=>u.lt j e
   have U:Fr No w (w3.alloc (.cells (zd x.1).toArray 45)):=(y.trans f3 (λi hi e=>by have:=HB.o;omega)).trans0 t5
   obtain⟨v5,w5,ad,z,f5,-,-⟩:=yA (P:=prog) _ bx 37 37 45 32 32 _ y7 xA rfl (by decide) ak (zd x.1) HX.o zE (by omega) (by unfold maxLen;omega) (by have:=U.size;omega)
   have aw:=@Hd (w5.ownsRow bx 45 32 v5 (D++[x]).length (((D++[x]).map (·.1)).flatMap zd)) (by simpa using z)
   have ar:=Hd ((ab.keep t5 id id).keep f5 (λe=>by have:=(Y b e).1;have:=ay.o;omega) (λe=>aa r e rfl))
   have F5:=Hd (U.trans f5 (λi hi e=>by have:=(Y i e).1;omega))
   have an:=Hd (f5.obj K (λe=>ai bx e rfl))
   obtain⟨la,lc,rfl⟩:=u.slice.arg.form
   obtain⟨a5,c5,rfl⟩:=z.slice.arg.form
   have ao:=Hd ad
   have HP:=Hd g
   have HR:=@Hd ((A++B).length<gk) (by rw[←E,C];simp)
   have RN:=Hd (zq w3 (zd x.1) 45)
   clear hI ab u ak z y U hx g q t5 ad f5 C a E f3 aa Y s K ai
   unfold xL zgp at F O
   go_wp2_with (first|refine xm rfl rfl rfl F ?_|refine qU rfl rfl rfl O ?_|(refine zi rfl (zj (w:=w3) (cs:=zd x.1) (ty:=45) rfl rfl rfl (by rw[HX.o];rfl) (by rw[HX.o];exact yj) zE) ?_)|(refine znV rfl rfl rfl RN.o HX.o ?_)|(refine zg rfl (zK (t:=37) rfl rfl y7 xD rfl (by decide) (by decide) HX.o) ?_)|(at_builtin;refine zJ rfl rfl rfl rfl ao.o ?_))
   go_roundg (A++B).length
   case measure=>exact HR.o
   case rel=>exact⟨D++[x],A++B,HP.o,rfl,ar.o,aw.o,an.o,F5.o⟩
end
end
section
open Go.Sort
theorem XX {w:World} {e:TypeId} (h:w.ownsRow B e k v n xs) (j:b≤B):w.ownsRow b e k v n xs:=
 ⟨h.1,h.2.imp id λ⟨g,i,a,c,d,f⟩=>⟨g,i,a,c,le_trans j d,f⟩⟩
def RowK (w w':World) (v:Value) (S:List zf):Prop:=w'.ownsRow w.heap.size 45 32 v S.length (S.flatMap zd)∧Fr No w w'
section
variable {w0 w:World} {p N:Nat} {V:Nat→Prop} {G:List yL}
theorem Ve (a:Bool) (l:List zf):(zeh a G l).Sublist (ids G):=by
 cases a
 ·exact xh l
 ·exact qk l
theorem zlI (h:GC w0 w p V G N) (i:N≤1000) {l:List zf} (j:y4 w v l) (c:l.length≤1000):
  Calls prog 85 #[.pointer (some ⟨p,0,none⟩),v] w λe w'=>∃o,e=.returned o∧RowK w w' o (upS G l):=by
 have d:=Hd h
 have r:=Hd j
 clear h j
 go_enter Tryz.func85,Tryz.ntmps85
 go_wp2_with (first|(go_at_call 92;refine(zgQ d.o i r.o c true).mono ?_;rintro e z ⟨b,M,rfl,k,m,x,f⟩;have s:=Hd k;have t:=Hd m;have a:=Hd f;clear k m f)|(go_at_call 82;refine(zcA (d.o.fr0 a.o) i s.o t.o (Ve true l)).mono ?_;rintro e A ⟨y,rfl,n,g⟩;have u:=Hd (XX n a.o.size);have q:=Hd (a.o.trans0 g);clear n g))
 go_ret
 exact⟨_,rfl,u.o,q.o⟩
theorem zjw (h:GC w0 w p V G N) (i:N≤1000) {l:List zf} (j:y4 w v l) (c:l.length≤1000):
  Calls prog 66 #[.pointer (some ⟨p,0,none⟩),v] w λe w'=>∃o,e=.returned o∧RowK w w' o (y9 G l):=by
 have d:=Hd h
 have r:=Hd j
 clear h j
 go_enter Tryz.func66,Tryz.ntmps66
 go_wp2_with (first|(go_at_call 92;refine(zgQ d.o i r.o c false).mono ?_;rintro e z ⟨b,M,rfl,k,m,x,f⟩;have s:=Hd k;have t:=Hd m;have a:=Hd f;clear k m f)|(go_at_call 82;refine(zcA (d.o.fr0 a.o) i s.o t.o (Ve false l)).mono ?_;rintro e A ⟨y,rfl,n,g⟩;have u:=Hd (XX n a.o.size);have q:=Hd (a.o.trans0 g);clear n g))
 go_ret
 exact⟨_,rfl,u.o,q.o⟩
theorem zgW (h:GC w0 w p V G N) (hN:N≤1000):
  Calls prog 47 #[.pointer (some ⟨p,0,none⟩)] w λe w'=>∃v',e=.returned v'∧RowK w w' v' (ids G):=by
 obtain⟨m,sq,L,hr,-,hG,-,-⟩:=h.ex
 have s:ids G=L.map (·.id):=by rw[←hG];simp[ids,Function.comp]
 obtain⟨j,hM,E⟩:=hr.map
 have Y:Fr No w (w.alloc (.map #[] 0)):=(frN w).alloc _
 have S:=hM.keep Y id
 obtain⟨g,v,hit⟩:=S.rangeI J9
 have c1:=Y.cell (VB hr.obj).1 id
 have d:=(show Vv (w.alloc (.map #[] 0)) w.heap.size [] from yI.made w)
 have f2:Fr No (w.alloc (.map #[] 0)) ((w.alloc (.map #[] 0)).alloc (.mapIter (some m) g #[] g)):=(frN _).alloc _
 have aa:=@Hd (vZ prog 45 xL Vc ((w.alloc (.map #[] 0)).alloc (.mapIter (some m) g #[] g)) (w.heap.size+1) m j j) (by rw[show w.heap.size+1=(w.alloc (.map #[] 0)).heap.size by simp];exact hit)
 have ae:=Hd (d.keep f2 id)
 have F0:=Hd (Y.trans0 f2)
 have m1:=zaV
 have KS:=@Hd (∀k,k∈j.map (·.1)↔k∈ids G) (λk=>by
  rw[s]
  constructor
  ·intro hk
   obtain⟨⟨k',b'⟩,z,rfl⟩:=mem_map.1 hk
   obtain⟨r,H,e,-⟩:=(E k' b').1 z
   exact mem_map.2 ⟨r,H,e⟩
  ·intro hk
   obtain⟨r,H,rfl⟩:=mem_map.1 hk
   exact mem_map.2 ⟨(r.id,r.b),(E _ _).2 ⟨r,H,rfl,rfl⟩,rfl⟩)
 have LN:=@Hd (j.length≤1000) (by
  have:=xB (m:=ids G) hM.nodup (λx z=>(KS.o x).1 z)
  have Z:=h.len
  simp only[ids,length_map] at this
  omega)
 have ah:=@Hd (∀x∈j,zV x.1) (λx z=>h.okId x.1 ((KS.o x.1).1 (mem_map.2 ⟨x,z,rfl⟩)))
 have HC:=Hd h
 have MB:=Hd hM.lt
 have zh:=yJ
 clear h hr hG s hM E S hit d Y f2
 go_enter Tryz.func47,Tryz.ntmps47
 go_wp2_with (refine vS rfl rfl rfl v ?_)
 rw[show(w.alloc (.map #[] 0)).heap.size=w.heap.size+1 by simp]
 generalize (w.alloc (.map #[] 0)).alloc (.mapIter (some m) g #[] g)=W at*
 generalize hb:w.heap.size=b at*
 clear v m1 c1
 try simp only[Act.put,pA,pB,pC]
 go_loopg [] j.length (λn wr=>∃(D R:List (zf×Nat)) (K:List (zf×Int)),(D++R).Perm j∧R.length=n∧vZ prog 45 xL Vc wr (b+1) m j R∧Vv wr b K∧(∀k c,(k,c)∈K↔c=1∧k∈D.map (·.1))∧K.length≤D.length∧Fr No w wr)
 case atStart=>exact⟨[],j,[],List.Perm.refl _,rfl,aa.o,ae.o,by simp,le_refl _,F0.o⟩
 case round=>
  obtain⟨D,R,K,a,hm,hI,d,f,T,o⟩:=hrel
  cases R with
  |nil=>
   have q:=hI.stop
   rw[List.append_nil] at a
   have FR:=Hd o
   have HM:=Hd d
   have HS:=@Hd (∀k c,(k,c)∈K↔c=1∧k∈ids G) (λk c=>by
    rw[f,←KS.o,(a.map (·.1)).mem_iff])
   clear hI a hm o d f T
   go_wp2_with (first|(refine xm rfl rfl rfl (q _) ?_)|(go_at_call 82;refine(zcA (HC.o.fr0 FR.o) hN HM.o HS.o (List.Sublist.refl _)).mono ?_;rintro e O ⟨v3,rfl,o3,M⟩;have O3:=Hd (XX o3 FR.o.size);have F3:=Hd (FR.o.trans0 M);clear o3 M))
   go_ret
   exact⟨_,rfl,O3.o,F3.o⟩
  |cons x0 R0=>
   obtain⟨A,x,B,O,l,q,Q,M,t⟩:=hI.step (by simp) 0
   have z:x∈j:=a.subset (by rw[l];simp)
   have P:=Hd (ah.o x z)
   have HX:=Hd (zu P.o)
   have F:((D++[x])++(A++B)).Perm j:=by
    refine List.Perm.trans ?_ a
    rw[l,List.append_assoc]
    exact List.Perm.append_left _ (show(x::(A++B)).Perm (A++x::B) from List.perm_middle.symm)
   have ai:D.length≤1000:=by have:=F.length_eq;have:=LN.o;simp at this⊢;simp at*;omega
   have t5:Fr No O (O.alloc (.cells (zd x.1).toArray 45)):=(frN O).alloc _
   have aj:=d.lt
   obtain⟨w4,C,X,u,y,I,U⟩:=((d.keep M (by omega)).keep t5 id).upd xT.keyed Ji (λ_ _=>xf) (ym P.o) (show K.length<maxLen by unfold maxLen;omega) 1
   have f4:Fr No w w4:=((o.trans M (λi hi e=>by omega)).trans0 t5).trans I.fr (λi hi e=>by omega)
   have ab:=Hd ((Q.keep t5 id id).keep I.fr (by have:=MB.o;omega) (by omega))
   have af:=Hd u
   have ag:=@Hd (∀k c,(k,c)∈C↔c=1∧k∈(D++[x]).map (·.1)) (λk c=>by
    rw[y,f,map_append,mem_append]
    constructor
    ·rintro(⟨rfl,rfl⟩|⟨_,Z,h3⟩)
     ·exact⟨rfl,.inr (by simp)⟩
     ·exact⟨Z,.inl h3⟩
    ·rintro⟨rfl,Z⟩
     by_cases e:k=x.1
     ·exact .inl ⟨e,rfl⟩
     ·exact .inr ⟨e,rfl,Z.elim id (λh=>absurd (by simpa using h) e)⟩)
   have ad:=@Hd (C.length≤(D++[x]).length) (by simp;omega)
   have F4:=Hd f4
   have HP:=Hd F
   have HR:=@Hd ((A++B).length<gk) (by rw[←hm,l];simp)
   have RN:=Hd (zq O (zd x.1) 45)
   clear hI Q o z F ai t5 l a hm M aj d f T u y I U f4
   unfold xL Vc at q t
   unfold xL zgp at X
   go_wp2_with (first|refine xm rfl rfl rfl q ?_|refine qU rfl rfl rfl t ?_|(refine zi rfl (zj (w:=O) (cs:=zd x.1) (ty:=45) rfl rfl rfl (by rw[HX.o];rfl) (by rw[HX.o];exact yj) zE) ?_)|(refine znV rfl rfl rfl RN.o HX.o ?_)|(refine zi rfl (xK rfl rfl rfl rfl X) ?_))
   go_roundg (A++B).length
   case measure=>exact HR.o
   case rel=>exact⟨D++[x],A++B,C,HP.o,rfl,ab.o,af.o,ag.o,ad.o,F4.o⟩
end
end
abbrev Tri:=zf×List zf×List zf
def yG.t3 (r:yG):Tri:=(r.id,r.ps,r.ks)
def JL (G:List yL):List Tri:=G.map λn=>(n.id,n.ps,kid G n.id)
theorem J6 (G:List yL):(JL G).map (·.1)=ids G:=by simp[JL,ids,Function.comp]
theorem step_map {T:List Tri} (h:(T.map (·.1)).Nodup) {f g:Tri→Tri} (o:∀t,(f t).1=t.1) {q:zf} {A B:List yG} {r j:yG} (d:(A++r::B).map yG.t3=T.map f) (v:r.id=q) (u:∀t∈T,t.1=q→f t=r.t3→g t=j.t3) (a:∀t∈T,t.1≠q→g t=f t):(A++j::B).map yG.t3=T.map g:=by
 rw[map_append,map_cons] at d⊢
 obtain⟨C,T2,rfl,l,k⟩:=List.map_eq_append_iff.1 d.symm
 obtain⟨t,D,rfl,i,n⟩:=List.map_eq_cons_iff.1 k
 have c:t.1=q:=by rw[←o t,i];exact v
 rw[map_append,map_cons] at h
 obtain⟨E,x,y⟩:=nodup_append.1 h
 obtain⟨z,F⟩:=nodup_cons.1 x
 rw[map_append,map_cons,←l,←n]
 congr 1
 ·refine map_congr_left λs b=>(a s (by simp[b]) λe=>?_).symm
  exact y s.1 (mem_map.2 ⟨s,b,rfl⟩) t.1 (by simp) (by rw[e,c])
 ·congr 1
  ·exact(u t (by simp) c i).symm
  ·refine map_congr_left λs b=>(a s (by simp[b]) λe=>?_).symm
   exact z (by rw[c,←e];exact mem_map.2 ⟨s,b,rfl⟩)
theorem VR {T:List Tri} {f:Tri→Tri} (d:∀t,(f t).1=t.1) {L:List yG} (c:L.map yG.t3=T.map f) {q:zf} (g:q∈T.map (·.1)):∃A r B,L=A++r::B∧r.id=q∧∃t∈T,t.1=q∧f t=r.t3:=by
 obtain⟨t,a,rfl⟩:=mem_map.1 g
 have b:f t∈L.map yG.t3:=by rw[c];exact mem_map.2 ⟨t,a,rfl⟩
 obtain⟨r,h,e⟩:=mem_map.1 b
 obtain⟨A,B,rfl⟩:=List.append_of_mem h
 refine⟨A,r,B,rfl,?_,t,a,rfl,e.symm⟩
 have:=congrArg Prod.fst e
 rw[d] at this
 exact this
section
variable {w0 w:World} {p m sq:Nat} {A B:List yG} {r:yG}
theorem GR.blks_nodup (h:GR w0 w p m sq (A++r::B)):r.blks.Nodup:=by
 have:=h.apart
 rw[xJ] at this
 exact(nodup_append.1 (nodup_append.1 this).2.1).1
theorem vA {j:Nat}:j∈r.blks↔j=r.b∨r.pv.ownBlock=some j∨r.cv.ownBlock=some j:=by
 unfold yG.blks
 simp only[mem_cons,mem_append,Option.mem_toList]
theorem Vh (h:r.blks.Nodup):(r.pv.ownBlock≠some r.b)∧(r.cv.ownBlock≠some r.b)∧∀j,r.pv.ownBlock=some j→r.cv.ownBlock≠some j:=by
 unfold yG.blks at h
 obtain⟨a,d⟩:=nodup_cons.1 h
 obtain⟨g,i,f⟩:=nodup_append.1 d
 refine⟨λe=>a (by simp[e]),λe=>a (by simp[e]),λj b c=>f j (by simp[b]) j (by simp[c]) rfl⟩
theorem zdS {f d:Value} (k:f.ownBlock≠some b) (l:d.ownBlock≠some b) (n:∀j,f.ownBlock=some j→d.ownBlock≠some j):(b::(f.ownBlock.toList++d.ownBlock.toList)).Nodup:=by
 refine nodup_cons.2 ⟨λh=>?_,nodup_append.2 ⟨?_,?_,λa g c i e=>?_⟩⟩
 ·simp only[mem_append,Option.mem_toList] at h
  exact h.elim k l
 ·cases f.ownBlock<;>simp
 ·cases d.ownBlock<;>simp
 ·rw[Option.mem_toList] at g i
  exact n a g (by rw[e];exact i)
theorem GR.setc (h:GR w0 w p m sq (A++r::B)) {c:World} {a:Value} {b:List zf} (f:Fr (λj=>r.cv.ownBlock=some j) w c) (z:c.ownsRow w0.heap.size 45 32 a b.length (b.flatMap zd)) (k:∀j,a.ownBlock=some j→r.cv.ownBlock=some j∨w.heap.size≤j) (ok:∀x∈b,zV x):
  GR w0 (c.setCell ⟨r.b,2,none⟩ a) p m sq (A++{r with ks:=b,cv:=a}::B)∧Fr (λj=>j∈r.blks) w (c.setCell ⟨r.b,2,none⟩ a):=by
 have l:=h.blks_nodup
 obtain⟨o,q,s⟩:=Vh l
 have i:=h.node r (by simp)
 have y:=yr i.blk
 have t:Fr (λj=>j∈r.blks) w (c.setCell ⟨r.b,2,none⟩ a):=(f.mono (λj e=>vA.2 (.inr (.inr e)))).setCell ⟨r.b,2,none⟩ (.inr (vA.2 (.inl rfl))) a
 have u:Fr (λj=>j=r.b) c (c.setCell ⟨r.b,2,none⟩ a):=(Fr.refl (λj=>j=r.b) c).setCell ⟨r.b,2,none⟩ (.inr rfl) a
 have v:a.ownBlock≠some r.b:=λe=>(k _ e).elim q (λe=>by omega)
 have n:=λj e=>(i.prow.lt j e).2
 refine⟨h.turn t (λ_ h=>h) ⟨?_,?_,?_⟩ rfl rfl rfl (λj d=>?_) ?_ ⟨(h.ok r (by simp)).1,(h.ok r (by simp)).2.1,ok⟩,t⟩
 ·have:=heap_setCell_same c r.b 2 _ _ a (f.obj i.blk q)
  simpa using this
 ·exact zb (zb i.prow f (λj e=>s j e)) u (λj e g=>o (by rw[e,g]))
 ·exact zb z u (λj e g=>v (by rw[e,g]))
 ·rw[vA] at d⊢
  rcases d with d|d|d
  ·exact .inl (.inl d)
  ·exact .inl (.inr (.inl d))
  ·exact(k j d).imp (λe=>.inr (.inr e)) id
 ·refine zdS o v λj e g=>?_
  rcases k j g with h1|h1
  ·exact s j e h1
  ·have:=n j e;omega
theorem GR.setp (h:GR w0 w p m sq (A++r::B)) {c:World} {a:Value} {b:List zf} (f:Fr (λj=>r.pv.ownBlock=some j) w c) (C:c.ownsRow w0.heap.size 45 32 a b.length (b.flatMap zd)) (l:∀j,a.ownBlock=some j→r.pv.ownBlock=some j∨w.heap.size≤j) (ok:∀x∈b,zV x):
  GR w0 (c.setCell ⟨r.b,1,none⟩ a) p m sq (A++{r with ps:=b,pv:=a}::B)∧Fr (λj=>j∈r.blks) w (c.setCell ⟨r.b,1,none⟩ a):=by
 have n:=h.blks_nodup
 obtain⟨o,q,s⟩:=Vh n
 have i:=h.node r (by simp)
 have z:=yr i.blk
 have t:Fr (λj=>j∈r.blks) w (c.setCell ⟨r.b,1,none⟩ a):=(f.mono (λj e=>vA.2 (.inr (.inl e)))).setCell ⟨r.b,1,none⟩ (.inr (vA.2 (.inl rfl))) a
 have u:Fr (λj=>j=r.b) c (c.setCell ⟨r.b,1,none⟩ a):=(Fr.refl (λj=>j=r.b) c).setCell ⟨r.b,1,none⟩ (.inr rfl) a
 have v:a.ownBlock≠some r.b:=λe=>(l _ e).elim o (λe=>by omega)
 have k:=λj e=>(i.crow.lt j e).2
 refine⟨h.turn t (λ_ h=>h) ⟨?_,?_,?_⟩ rfl rfl rfl (λj d=>?_) ?_ ⟨(h.ok r (by simp)).1,ok,(h.ok r (by simp)).2.2⟩,t⟩
 ·have:=heap_setCell_same c r.b 1 _ _ a (f.obj i.blk o)
  simpa using this
 ·exact zb C u (λj e g=>v (by rw[e,g]))
 ·exact zb (zb i.crow f (λj e y=>s j y e)) u (λj e g=>q (by rw[e,g]))
 ·rw[vA] at d⊢
  rcases d with d|d|d
  ·exact .inl (.inl d)
  ·exact(l j d).imp (λe=>.inr (.inl e)) id
  ·exact .inl (.inr (.inr d))
 ·refine zdS v q λj e g=>?_
  rcases l j e with h1|h1
  ·exact s j h1 g
  ·have:=k j g;omega
end
theorem GC.tri {w0 w:World} {p N:Nat} {V:Nat→Prop} {G:List yL} (h:GC w0 w p V G N):∃m sq L,GR w0 w p m sq L∧V=(λj=>j∈yM p m L)∧L.map yG.t3=JL G∧sq≤N:=by
 obtain⟨m,sq,L,e,f,d,a,c⟩:=h.ex
 refine⟨m,sq,L,e,f,?_,c⟩
 rw[JL]
 conv=>rhs;rw[←d]
 rw[map_map]
 refine map_congr_left λr b=>?_
 simp only[yG.t3,Function.comp,a r b,d]
theorem GC.of_tri {w0 w:World} {p m sq N:Nat} {G:List yL} {L:List yG} (g:GR w0 w p m sq L) (c:L.map yG.t3=JL G) (b:sq≤N) (ok:GOk G) (f:G.length≤N):GC w0 w p (λj=>j∈yM p m L) G N:=by
 refine⟨⟨m,sq,L,g,rfl,?_,λr a=>?_,b⟩,ok,f⟩
 ·have:=congrArg (List.map λt:Tri=>(⟨t.1,t.2.1⟩:yL)) c
  rw[map_map,JL,map_map] at this
  refine this.trans ?_
  conv=>rhs;rw[←List.map_id G]
  rfl
 ·have d:r.t3∈JL G:=by rw[←c];exact mem_map.2 ⟨r,a,rfl⟩
  obtain⟨n,h,e⟩:=mem_map.1 d
  unfold yG.t3 at e
  injection e with e1 e2
  injection e2 with e2 e3
  rw[←e3,e1]
def zcM (x:zf) (done:List zf) (t:Tri):Tri:=(t.1,t.2.1,if t.1∈done then t.2.2.filter (λy=>decide (y≠x)) else t.2.2)
def zbg (x:zf) (ps done:List zf) (t:Tri):Tri:=(t.1,if t.1∈done then t.2.1.filter (λy=>decide (y≠x)) else t.2.1,if t.1∈ps then t.2.2.filter (λy=>decide (y≠x)) else t.2.2)
theorem zde {x:zf} {l:List zf} (h:x∉l):l.filter (λy=>decide (y≠x))=l:=List.filter_eq_self.2 λy a=>by simp;rintro rfl;exact h a
theorem zkP {G:List yL} (ok:GOk G) (x:zf):JL (Vj G x)=((JL G).map (zbg x (par G x) (kid G x))).filter λt=>decide (t.1≠x):=by
 have j:∀y,kid (Vj G x) y=if y=x then[] else(kid G y).filter λz=>decide (z≠x):=by
  intro y
  by_cases e:y=x
  ·subst e
   rw[if_pos rfl]
   refine List.eq_nil_iff_forall_not_mem.2 λz l=>?_
   obtain⟨n,c,-,k⟩:=zbx.1 l
   unfold Vj at c
   obtain⟨o,-,rfl⟩:=mem_map.1 c
   simp at k
  ·rw[if_neg e]
   unfold kid Vj
   rw[filter_map,map_map,List.filter_filter,filter_map,List.filter_filter]
   congr 1
   refine List.filter_congr λn _=>?_
   simp only[Function.comp,List.mem_filter,ne_eq,e,decide_not]
   rw[Bool.and_comm]
   simp
 unfold JL
 conv=>lhs;unfold Vj
 rw[map_map,map_map,filter_map]
 have a:G.filter ((λt:Tri=>decide (t.1≠x))∘(zbg x (par G x) (kid G x)∘λn=>(n.id,n.ps,kid G n.id)))=G.filter λn=>decide (n.id≠x):=rfl
 rw[a]
 refine map_congr_left λn c=>?_
 obtain⟨f,b⟩:=List.mem_filter.1 c
 simp only[decide_eq_true_eq] at b
 simp only[Function.comp,zbg]
 refine Prod.ext rfl (Prod.ext ?_ ?_)
 ·show n.ps.filter (λy=>decide (y≠x))=if n.id∈kid G x then n.ps.filter (λy=>decide (y≠x)) else n.ps
  by_cases h:n.id∈kid G x
  ·rw[if_pos h]
  ·rw[if_neg h]
   exact zde λg=>h (zbx.2 ⟨n,f,rfl,g⟩)
 ·show kid (Vj G x) n.id=if n.id∈par G x then(kid G n.id).filter (λy=>decide (y≠x)) else kid G n.id
  rw[j,if_neg b]
  by_cases h:n.id∈par G x
  ·rw[if_pos h]
  ·rw[if_neg h]
   refine zde λg=>h ?_
   obtain⟨o,d,rfl,i⟩:=zbx.1 g
   rw[vC ok d]
   exact i
def zmX (w0 w:World) (p:Nat) (V:Nat→Prop) (G:List yL) (N:Nat) (x:zf) (e:Ending) (w':World):Prop:=
 e=.returned (.tuple #[])∧∃V',GC w0 w' p V' (Vj G x) N∧Fr V w w'∧∀j,V' j→V j
structure za2 (w0 w wr:World) (p m sq:Nat) (L L':List yG) (T:List Tri) (r0:yG):Prop where
 gr:GR w0 wr p m sq L'
 tri:L'.map yG.t3=T
 r0:r0∈L'
 sub:∀j∈yM p m L',j∈yM p m L
 fr:Fr (λj=>j∈yM p m L) w wr
section
variable {w0 w:World} {p m sq:Nat}
theorem zeN {wr e:World} {L A B:List yG} {r d a:yG} {T g:List Tri} (h:za2 w0 w wr p m sq L (A++r::B) T d) (l:GR w0 e p m sq (A++a::B)) (f:Fr (λj=>j∈r.blks) wr e) (n:∀j∈a.blks,j∈r.blks) (c:d.id≠r.id) (k:(A++a::B).map yG.t3=g):za2 w0 w e p m sq L (A++a::B) g d:=by
 refine⟨l,k,?_,λj b=>h.sub j ?_,h.fr.trans f λi _ hi=>h.sub i ?_⟩
 ·rcases mem_append.1 h.r0 with h1|h1
  ·exact mem_append.2 (.inl h1)
  ·rcases mem_cons.1 h1 with rfl|h1
   ·exact absurd rfl c
   ·exact mem_append.2 (.inr (List.mem_cons_of_mem _ h1))
 ·rw[xJ] at b⊢
  simp only[mem_append] at b⊢
  exact b.imp id (λh=>h.imp (n j) id)
 ·rw[xJ]
  simp[hi]
end
end Go.Proofs.YtbcllfjmabiafaaGreatDoor
