/- tx: Check. -/
import Derived.Laws.Externs
import Derived.Test.YtdkkjchclkjleaaGreatDoorRows
import Derived.WalkKit
import Derived.ProofKit
import Derived.OpenShut
import Derived.Carry
import Derived.WideKeyArgs
import Derived.Deep.Slices
import Derived.Deep.Fields
import Derived.ChangeSame
import Derived.LaidMore
import Derived.Stop.Joined
import Derived.Deep.CutRange
import Derived.Test.YtdkkjchclkjleaaGreatDoorSC4
import Derived.Test.YtdkkjchclkjleaaGreatDoorSC1
import Derived.Test.YtdkkjchclkjleaaGreatDoorSC3
import Derived.Test.YtdkkjchclkjleaaGreatDoorSC2
set_option linter.unusedVariables false
set_option linter.unusedSimpArgs false
set_option linter.unnecessarySimpa false
set_option linter.all false
set_option maxRecDepth 20000
set_option maxHeartbeats 16000000
namespace Go.Proofs.YtdkkjchclkjleaaGreatDoor
open Go Go.RowKit Go.Maps Go.MapKept
open Go.Proofs.Tryz(prog)
open List(mem_map getElem?_eq_getElem mem_append mem_of_getElem? length_append length_map take_add_one take_length all_eq_true length_cons take_of_length_le take_append_drop length_drop take_zero drop_zero)
open Nat(le_refl zero_le)
def qW (l:List yE):Int:=(l.map (·.value)).sum
theorem zc9 {l:List yE} {n:Nat} {x:yE} (h:l[n]? =some x):qW (l.take (n+1))=qW (l.take n)+x.value:=by
 unfold qW
 rw[take_add_one,h]
 simp
theorem zg9:∀ {l:List yE},(∀x∈l,0≤x.value∧vS x=false)→0≤qW l∧qW l≤1125899906842624*(l.length:Int)
 |[],_=>by simp[qW]
 |x::l,h=>by
  have c:=zg9 (l:=l) (λy b=>h y (.tail _ b))
  have a:=h x (.head _)
  have d:x.value≤1125899906842624:=by
   have:=a.2
   unfold vS at this
   rw[Bool.or_eq_false_iff] at this
   have:=this.2
   simp at this
   omega
  have e:qW (x::l)=x.value+qW l:=by simp[qW]
  rw[e]
  simp only[length_cons]
  omega
def yF (t:TxD):Int:=
 if qE t=true then
  (if t.ins.length=0∨t.outs.length=0 then 9
   else if t.outs.any vS=true then 11
   else if 1125899906842624<qW t.outs then 11
   else if(zW t).Nodup then 0 else 12)
 else 5
def ju (w:World) (t:TxD) (e:Ending) (w':World):Prop:=e=.returned (.int .i64 (yF t))∧Fr No w w'
theorem XE (w:World) {t:TxD} {cs:List Value} (ht:TxQ w t cs):
  Calls prog 32 #[.agg cs.toArray] w (ju w t):=by
 have HT:=J ht
 obtain⟨I,L,Q,R,rfl,hv,hi,ho⟩:=ht
 have zI:=Zn
 have zO:=xm
 have F1:=J ((frN w).alloc (.cells #[.int .u32 t.ver,.slice I t.ins.length L,.slice Q t.outs.length R] 34))
 obtain⟨-,c1,c2,r0⟩:=qN w t.ver (.slice I t.ins.length L) (.slice Q t.outs.length R)
 have S:=J c1
 have C2:=J c2
 have R0:=J r0
 have HO:=J (ho.keep F1.o)
 have HF:=J (zby (w.alloc (.cells #[.int .u32 t.ver,.slice I t.ins.length L,.slice Q t.outs.length R] 34)) (HT.o.keep F1.o))
 clear hi ho hv c1 c2 r0
 show Calls prog 32 #[.agg #[.int .u32 t.ver,.slice I t.ins.length L,.slice Q t.outs.length R]] w _
 by_cases d:qE t=true
 rotate_left
 ·have B:qE t=false:=by simpa using d
  have r:=@J (∀w',Fr No w w'→ju w t (.returned (.int .i64 5)) w') (λw' f=>⟨by simp[yF,B],f⟩)
  rw[B] at HF
  clear d B
  go_enter Tryz.func32,Tryz.ntmps32
  go_wp2_with (first|(refine zn1 rfl rfl rfl R0.o rfl ?_;generalize w.alloc (.cells #[.int .u32 t.ver,.slice I t.ins.length L,.slice Q t.outs.length R] 34)=w1 at*)|(go_at_call 66;refine HF.o.mono ?_;rintro e w2 ⟨rfl,p⟩;have a:=J p;have F:=J (F1.o.trans0 p);clear p;have d1:=a.o.cell S.o id;have d2:=a.o.cell C2.o id))
  go_ret
  exact r.o _ F.o
 obtain⟨hk,ak,aq⟩:=y5.1 d
 rw[d] at HF
 by_cases h0:t.ins.length=0
 ·have r:=@J (∀w',Fr No w w'→ju w t (.returned (.int .i64 9)) w') (λw' f=>⟨by simp[yF,d,h0],f⟩)
  have jz:((t.ins.length:Int)==0)=true:=by simp[h0]
  clear hk ak aq d h0
  go_enter Tryz.func32,Tryz.ntmps32
  go_wp2_with (first|(refine zn1 rfl rfl rfl R0.o rfl ?_;generalize w.alloc (.cells #[.int .u32 t.ver,.slice I t.ins.length L,.slice Q t.outs.length R] 34)=w1 at*)|(go_at_call 66;refine HF.o.mono ?_;rintro e w2 ⟨rfl,p⟩;have a:=J p;have F:=J (F1.o.trans0 p);clear p;have d1:=a.o.cell S.o id;have d2:=a.o.cell C2.o id))
  go_ret
  exact r.o _ F.o
 have jz:((t.ins.length:Int)==0)=false:=by rw[beq_eq_false_iff_ne];omega
 by_cases h1:t.outs.length=0
 ·have r:=@J (∀w',Fr No w w'→ju w t (.returned (.int .i64 9)) w') (λw' f=>⟨by simp[yF,d,h1],f⟩)
  have jy:((t.outs.length:Int)==0)=true:=by simp[h1]
  clear hk ak aq d h0 h1
  go_enter Tryz.func32,Tryz.ntmps32
  go_wp2_with (first|(refine zn1 rfl rfl rfl R0.o rfl ?_;generalize w.alloc (.cells #[.int .u32 t.ver,.slice I t.ins.length L,.slice Q t.outs.length R] 34)=w1 at*)|(go_at_call 66;refine HF.o.mono ?_;rintro e w2 ⟨rfl,p⟩;have a:=J p;have F:=J (F1.o.trans0 p);clear p;have d1:=a.o.cell S.o id;have d2:=a.o.cell C2.o id))
  go_ret
  exact r.o _ F.o
 have jy:((t.outs.length:Int)==0)=false:=by rw[beq_eq_false_iff_ne];omega
 have af:=@J ((∃x∈t.outs,vS x=true)→∀w',Fr No w w'→ju w t (.returned (.int .i64 11)) w') (λh w' f=>⟨by
  have:t.outs.any vS=true:=List.any_eq_true.2 h
  unfold yF
  rw[if_pos d,if_neg (by omega),if_pos this],f⟩)
 have aG:=@J (t.outs.any vS=false→1125899906842624<qW t.outs→∀w',Fr No w w'→ju w t (.returned (.int .i64 11)) w') (λh h' w' f=>⟨by
  unfold yF
  rw[if_pos d,if_neg (by omega),if_neg (by rw[h];simp),if_pos h'],f⟩)
 have aF:=@J (t.outs.any vS=false→¬1125899906842624<qW t.outs→∀w',Fr No w w'→ju w t (.returned (.int .i64 (if(zW t).Nodup then 0 else 12))) w') (λh h' w' f=>⟨by
  have e:yF t=if(zW t).Nodup then 0 else 12:=by
   unfold yF
   rw[if_pos d,if_neg (by omega),if_neg (by rw[h];simp),if_neg h']
  rw[e],f⟩)
 clear hk d h0 h1
 go_enter Tryz.func32,Tryz.ntmps32
 go_wp2_with (first|(refine zn1 rfl rfl rfl R0.o rfl ?_;generalize w.alloc (.cells #[.int .u32 t.ver,.slice I t.ins.length L,.slice Q t.outs.length R] 34)=w1 at*)|(go_at_call 66;refine HF.o.mono ?_;rintro e w2 ⟨rfl,p⟩;have a:=J p;have F:=J (F1.o.trans0 p);clear p;have d1:=a.o.cell S.o id;have d2:=a.o.cell C2.o id))
 have FO:=J a.o
 clear d1 d2 jz jy
 go_loopw [3,25] (λsv iv wr=>∃n:Nat,iv=.int .i64 n∧n≤t.outs.length∧sv=.int .u64 (qW (t.outs.take n))∧(∀x∈t.outs.take n,vS x=false)∧Fr No w2 wr) (λ_ iv _=>t.outs.length-(intOf iv).toNat)
 case atStart=>exact⟨0,rfl,zero_le _,rfl,by simp,Fr.refl _ _⟩
 case round=>
  obtain⟨n,rfl,hn,rfl,A,fr⟩:=hrel
  have FR:=J fr
  have AL:=J A
  have aE:=J ((HO.o.keep a.o).keep fr)
  have E:=zg9 (l:=t.outs.take n) (λx q=>⟨(HO.o.1 x (List.mem_of_mem_take q)).1.1,A x q⟩)
  rw[List.length_take] at E
  clear fr A
  by_cases X:n<t.outs.length
  ·have i1:(n:Int)<(t.outs.length:Int):=by omega
   obtain⟨x,q⟩:∃x,t.outs[n]? =some x:=⟨_,getElem?_eq_getElem X⟩
   obtain⟨bb,off,aO,hv,hr,-⟩:=aE.o.at_ q
   cases hv
   have g:=HO.o.1 x (mem_of_getElem? q)
   have R1:=J hr
   have G:=J (yr g)
   have FA:=J (FR.o.trans0 ((frN wr).alloc (.cells (zJ x).toArray 103)))
   have n1:=(YQ wr g).1
   have SN:=J (zc9 q)
   have HX:=J q
   have vv:=g.1
   clear hr g q
   by_cases u:vS x=true
   ·have r:=J (af.o ⟨x,mem_of_getElem? HX.o,u⟩)
    have aR:x.value=0∨(x.value≠0∧1125899906842624<x.value):=by
     simp only[vS,Bool.or_eq_true,decide_eq_true_eq] at u
     by_cases h:x.value=0
     ·exact .inl h
     ·exact .inr ⟨h,u.resolve_left h⟩
    clear u E
    rcases aR with hz|⟨hz,ax⟩
    ·have H:(x.value==0)=true:=by simpa using hz
     clear hz
     have⟨K0,K1⟩:=tZ2
     go_wp2_with ((first|((with_reducible refine zt ?_);clear K0;refine zn2 rfl rfl rfl R1.o G.o ?_)|((with_reducible refine zv ?_);clear K1;refine zoa (w:=wr) (cs:=zJ x) rfl rfl rfl rfl G.o yc ?_;generalize wr.alloc (.cells (zJ x).toArray 103)=wA at*));go_frame)
     go_ret
     exact r.o _ (F.o.trans0 FA.o)
    ·have H:(x.value==0)=false:=by simpa using hz
     have aw:decide (1125899906842624<x.value)=true:=by simpa using ax
     clear hz ax
     have⟨K0,K1⟩:=tZ2
     go_wp2_with ((first|((with_reducible refine zt ?_);clear K0;refine zn2 rfl rfl rfl R1.o G.o ?_)|((with_reducible refine zv ?_);clear K1;refine zoa (w:=wr) (cs:=zJ x) rfl rfl rfl rfl G.o yc ?_;generalize wr.alloc (.cells (zJ x).toArray 103)=wA at*));go_frame)
     go_ret
     exact r.o _ (F.o.trans0 FA.o)
   ·have b:vS x=false:=by simpa using u
    have H:(x.value==0)=false:=by
     unfold vS at b
     rw[Bool.or_eq_false_iff] at b
     simpa using b.1
    have aw:decide (1125899906842624<x.value)=false:=by
     unfold vS at b
     rw[Bool.or_eq_false_iff] at b
     exact b.2
    have aS:x.value≤1125899906842624:=by simp at aw;omega
    have es:(qW (t.outs.take n)+x.value) % 18446744073709551616=qW (t.outs.take n)+x.value:=by omega
    have AN:=@J (∀y∈t.outs.take (n+1),vS y=false) (λy Z=>by
     rw[take_add_one,HX.o] at Z
     rcases mem_append.1 Z with Z|Z
     ·exact AL.o y Z
     ·simp at Z;subst Z;exact b)
    clear u b E aS
    have⟨K0,K1⟩:=tZ2
    go_wp2_with ((first|((with_reducible refine zt ?_);clear K0;refine zn2 rfl rfl rfl R1.o G.o ?_)|((with_reducible refine zv ?_);clear K1;refine zoa (w:=wr) (cs:=zJ x) rfl rfl rfl rfl G.o yc ?_;generalize wr.alloc (.cells (zJ x).toArray 103)=wA at*));go_frame)
    go_roundw
    case rel=>exact⟨n+1,by go_num,by omega,by rw[SN.o],AN.o,FA.o⟩
    case measure=>simp[intOf];omega
  ·have Y:n=t.outs.length:=by omega
   have i1:¬(n:Int)<(t.outs.length:Int):=by omega
   rw[Y,take_length] at AL
   have m:t.outs.any vS=false:=List.any_eq_false.2 (λx q=>by rw[AL.o x q];decide)
   have V:t.outs.take n=t.outs:=by rw[Y,take_length]
   rw[V]
   have FW:=J (F.o.trans0 FR.o)
   have ab:=J (a.o.trans0 FR.o)
   by_cases hs:1125899906842624<qW t.outs
   ·have r:=J (aG.o m hs)
    have js:decide (1125899906842624<qW t.outs)=true:=by simpa using hs
    clear hs m E V
    go_wp2
    go_ret
    exact r.o _ FW.o
   have js:decide (1125899906842624<qW t.outs)=false:=by simpa using hs
   have r:=J (aF.o m (by omega))
   have cI:=ab.o.cell S.o id
   have ms:=VA wr
   have aN:(wr.alloc (.map #[] 0)).cell? ⟨w.heap.size,1,none⟩=some (.slice I t.ins.length L):=((frN wr).alloc (.map #[] 0)).cell cI id
   clear hs m E V
   go_wp2_with fail
   clear ms cI aN
   have FM:=J ((frN wr).alloc (.map #[] 0))
   have aC:=@J (zbi (wr.alloc (.map #[] 0)) wr.heap.size []) (yD.made wr)
   have ay:=J (FW.o.trans0 FM.o)
   have aa:=J ((ab.o.trans0 FM.o).cell S.o id)
   generalize wr.alloc (.map #[] 0)=w3 at*
   generalize ao:wr.heap.size=mb at*
   have NM:=@J (w.heap.size<mb) (by have:=FO.o.size;have h2:=FR.o.size;have h3:=World.block_lt_of_cell? _ _ S.o;have:=ao;simp only at h3;omega)
   have aM:=aa.o
   go_wp2_with fail
   clear aM
   go_loopw [48] (λiv wr=>∃(n:Nat) (M:List (zF×Int)),iv=.int .i64 n∧n≤t.ins.length∧zbi wr mb M∧(∀k,(∃c,(k,c)∈M)↔k∈(zW t).take n)∧M.length≤n∧Fr (λj=>j=mb) w3 wr) (λiv _=>t.ins.length-(intOf iv).toNat)
   case atStart=>exact⟨0,[],rfl,zero_le _,aC.o,by simp,le_refl _,Fr.refl _ _⟩
   case round=>
    obtain⟨n,M,rfl,hn,ar,an,C,fr⟩:=hrel
    have FQ:=J fr
    have v:=J ar
    have ae:=J an
    have T:=J C
    have FB:=@J (Fr No w wr) (ay.o.trans fr (λi hi e=>by have:=NM.o;omega))
    clear fr ar an C
    by_cases X:n<t.ins.length
    ·have i1:(n:Int)<(t.ins.length:Int):=by omega
     obtain⟨x,q⟩:∃x,t.ins[n]? =some x:=⟨_,getElem?_eq_getElem X⟩
     have az:=HT.o.keep FB.o
     obtain⟨aU,aV,aW,aX,e2,-,aj,-⟩:=az
     simp only[txC,List.cons.injEq,and_true] at e2
     obtain⟨-,e2,-⟩:=e2
     injection e2 with e21 _ e23
     subst e21;subst e23
     obtain⟨bb,off,aO,cs,hv,hr,ka,kc,rfl,g,al⟩:=aj.at_ q
     cases hv
     have R1:=J hr
     have aK:=J g
     have G:=J (vo g (.slice ka x.key.length kc))
     have PL:=J (zY g)
     have aP:(zW t).take (n+1)=(zW t).take n++[x.from_]:=by rw[take_add_one];simp[zW,q]
     have fA:=((frN wr).alloc (.cells (inC x.from_ (.slice ka x.key.length kc)).toArray 108)).drew
     have RB:=J (za (YN wr (kv:=.slice ka x.key.length kc) g).1 (frN _).drew id)
     have QW:=@J (mb<wr.heap.size) (v.o.lt)
     obtain⟨v0,w7,s,M1,H,N,W,ag,O,P,av⟩:=(v.o.keep fA id).bump Jf.keyed YX (λ_ _=>vr) (z:=0) YD (xP aK.o) (by unfold maxLen;have:=T.o;omega)
     obtain⟨w8,M',au,ah,hU,ai,aQ⟩:=av (IntKind.i64.wrap (v0+1)) w7 No (Fr.refl _ _) id
     have aI:=J (O _ (v.o.keep fA id))
     have aJ:=J (P _ ag)
     have ad:=J N
     have aH:=J au
     have aL:=J (za RB.o W.fr (λe=>by have:=QW.o;omega))
     have aD:=J ah
     have F8:=@J (Fr (λj=>j=mb) w3 w8) (((FQ.o.trans0 fA).trans W.fr (λi hi e=>e)).trans ai.fr (λi hi e=>e))
     have aA:=@J (∀k,(∃c,(k,c)∈M')↔k∈(zW t).take (n+1)) (λk=>by
      rw[aP,mem_append,List.mem_singleton,←ae.o k]
      constructor
      ·rintro⟨c,hc⟩
       rcases(hU k c).1 hc with⟨rfl,_⟩|⟨_,h⟩
       ·exact .inr rfl
       ·exact .inl ⟨c,h⟩
      ·rintro(⟨c,hc⟩|rfl)
       ·by_cases e:k=x.from_
        ·subst e;exact⟨_,(hU _ _).2 (.inl ⟨rfl,rfl⟩)⟩
        ·exact⟨c,(hU _ _).2 (.inr ⟨e,hc⟩)⟩
       ·exact⟨_,(hU _ _).2 (.inl ⟨rfl,rfl⟩)⟩)
     have aB:=@J (M'.length≤n+1) (by have:=T.o;omega)
     clear hr q al g aj fA N W ag O P av au ah hU ai aQ H
     go_wp2_with (first|(refine zn0 rfl rfl rfl R1.o G.o ?_)|(refine zn9 (w:=wr) (cs:=inC x.from_ (.slice ka x.key.length kc)) rfl rfl rfl rfl G.o jQ ?_))
     refine ym [ff,ff,ff,ff,ff,tt,ff,tt] (λw'=>w'.rangeAt wr.heap.size 0 (zn x.from_)∧(Instr.lookup 159 (.map (some mb)) (j8 x.from_) false).run prog w'=.ok (.int .i64 v0) w') (by kernel_rfl) (by kernel_rfl) 7 (by kernel_rfl) (by kernel_rfl) ?_ (λK hK=>?_)
     ·exact⟨RB.o,aI.o⟩
     repeat((first|(refine z7 rfl ?_;constructor;constructor;(focus(first|exact zn6 rfl (λw h=>h.1) PL.o|exact λw' h=>zQ (t:=159) rfl rfl rfl h.2|(rintro w' ⟨s1,s2⟩;go_simp;(try with_reducible rfl);done))))|(refine ya rfl ?_));try simp only[Act.put,pA,pB,pC])
     (refine z6 rfl (λK' hK'=>?_))
     refine yj (Qf rfl rfl rfl ad.o) ?_
     refine hK'.out _ _ (λ_=>?_) (λhS=>?_)
     ·exact⟨aL.o,aJ.o⟩
     try simp only[Act.put,pA,pB,pC]
     repeat((first|(refine z7 rfl ?_;constructor;constructor;(focus(first|(rintro w' ⟨s1,s2⟩;go_simp;(try with_reducible rfl);done))))|(refine ya rfl ?_));try simp only[Act.put,pA,pB,pC])
     (refine z6 rfl (λK' hK'=>?_))
     refine yN (Y1 rfl rfl rfl rfl aH.o) ?_
     refine hK'.out _ _ (λh=>absurd rfl h) (λhS=>?_)
     refine xD (hK.out _ _ ?_)
     go_wp2
     go_roundw
     case rel=>exact⟨n+1,M',by go_num,by omega,aD.o,aA.o,aB.o,F8.o⟩
     case measure=>simp[intOf];omega
    ·have Y:n=t.ins.length:=by omega
     have i1:¬(n:Int)<(t.ins.length:Int):=by omega
     have D:∀x,x∈M.map (·.1)↔x∈zW t:=by
      intro x
      rw[←show(zW t).take n=zW t from take_of_length_le (by simp[zW];omega),←ae.o x]
      simp
     have o:=zap v.o.nodup D
     rw[length_map,show(zW t).length=t.ins.length by simp[zW]] at o
     have LR:=J (λty=>v.o.lenRun YX ty)
     have aT:=FQ.o.cell aa.o (λe=>by have:=NM.o;have e2:w.heap.size=mb:=e;omega)
     have C:=T.o
     by_cases hnd:(zW t).Nodup
     ·have j1:¬(M.length:Int)<(t.ins.length:Int):=by have:=o.2 hnd;omega
      have U:=@J (∀w',Fr No w w'→ju w t (.returned (.int .i64 0)) w') (λw' f=>by have:=r.o w' f;rwa [if_pos hnd] at this)
      clear o D hnd C
      go_wp2_with (refine zg rfl (jb rfl rfl (LR.o _)) ?_)
      go_ret
      exact U.o _ FB.o
     ·have j1:(M.length:Int)<(t.ins.length:Int):=by have:M.length≠t.ins.length:=λe=>hnd (o.1 e);omega
      have U:=@J (∀w',Fr No w w'→ju w t (.returned (.int .i64 12)) w') (λw' f=>by have:=r.o w' f;rwa [if_neg hnd] at this)
      clear o D hnd C
      go_wp2_with (refine zg rfl (jb rfl rfl (LR.o _)) ?_)
      go_ret
      exact U.o _ FB.o
def zaW (x:Int):Value:=.int .u64 x
def zdX (l:List Int):Int:=if l.sum<18446744073709551616 then 0 else 3
def zdY (l:List Int):Int:=if l.sum<18446744073709551616 then l.sum else 0
theorem zej (w:World) {v:Value} {l:List Int} (o:y7 w v l.length (l.map zaW)) (ok:∀x∈l,0≤x∧x≤18446744073709551615) (P:l.length≤100000):
  Calls prog 128 #[v] w λe w'=>e=.returned (.tuple #[.int .u64 (zdY l),.int .i64 (zdX l)])∧Fr No w w':=by
 have A:=J o
 have C:=J ok
 have k:=@J (∀n,n≤l.length→0≤(l.take n).sum∧(l.take n).sum≤18446744073709551615*(n:Int)) (λn=>by
  induction n with
  |zero=>intro _;simp
  |succ n ih=>
   intro u
   have E:=ih (by omega)
   have f:l[n]? =some l[n]:=getElem?_eq_getElem (by omega)
   have F:=ok l[n] (List.getElem_mem _)
   rw[take_add_one,f]
   simp only[Option.toList_some,List.sum_append,List.sum_cons,List.sum_nil]
   omega)
 obtain⟨L,M,rfl⟩:=o.form
 clear o ok
 go_enter Tryz.func128,Tryz.ntmps128
 go_wp2
 go_loopw [4,5,12] (λr K s wr=>∃n:Nat,s=.int .i64 n∧n≤l.length∧r=.int .u64 ((l.take n).sum / 18446744073709551616)∧K=.int .u64 ((l.take n).sum % 18446744073709551616)∧Fr No w wr) (λ_ _ s _=>l.length-(intOf s).toNat)
 case atStart=>exact⟨0,rfl,zero_le _,by simp,by simp,Fr.refl _ _⟩
 case round=>
  obtain⟨n,rfl,u,rfl,rfl,fr⟩:=hrel
  have j:=J fr
  clear fr
  have N:=k.o n u
  generalize i:(l.take n).sum=T at*
  by_cases p:n<l.length
  ·have H:(n:Int)<(l.length:Int):=by omega
   obtain⟨x,f⟩:∃x,l[n]? =some x:=⟨_,getElem?_eq_getElem p⟩
   have m:=C.o x (mem_of_getElem? f)
   have t:=@J ((l.take (n+1)).sum=T+x) (by rw[take_add_one,f,←i];simp)
   have d:∃b off c,Value.slice L l.length M=.slice (some ⟨b,off,none⟩) l.length c∧wr.cell? ⟨b,off+n,none⟩=some (.int .u64 x):=by
    rcases A.o.keep j.o with(⟨e,h,-⟩|⟨b,off,c,e,E,F,G,O⟩)|⟨a,c,e,h,-⟩
    ·omega
    ·exact⟨b,off,c,e,G n _ (by rw[List.getElem?_map,f];rfl)⟩
    ·omega
   obtain⟨b,off,c,r,Q⟩:=d
   cases r
   have y:=@J ((T % 18446744073709551616+x+0) % 18446744073709551616=(T+x) % 18446744073709551616) (by omega)
   have z:=@J (T / 18446744073709551616+(T % 18446744073709551616+x) / 18446744073709551616=(T+x) / 18446744073709551616) (by omega)
   have B:0≤T % 18446744073709551616:=by omega
   have D:=m.1
   clear f i
   go_wp2
   rw[run_callFunc_extern Tryz.func158 (by kernel_rfl) (by kernel_rfl) (by kernel_rfl) (e:=add64Entry) (by kernel_rfl),run_add64 _ x 0 B D (by omega) (by omega)]
   simp only[Result.andThen]
   rw[Oper.upon_value]
   rw[y.o]
   go_wp2
   go_roundw
   case rel=>exact⟨n+1,by go_num,by omega,by rw[t.o];exact congrArg (Value.int .u64) z.o,by rw[t.o],j.o⟩
   case measure=>simp[intOf];omega
  ·have q:n=l.length:=by omega
   have H:¬(n:Int)<(l.length:Int):=by omega
   have hS:l.sum=T:=by rw[←i,q,take_length]
   by_cases ho:T<18446744073709551616
   ·have g:=@J (zdX l=0∧zdY l=T) (by unfold zdX zdY;rw[hS,if_pos ho,if_pos ho];exact⟨rfl,rfl⟩)
    have I:(T / 18446744073709551616==0)=true:=by rw[beq_iff_eq];omega
    have R:T % 18446744073709551616=T:=by omega
    clear hS ho i
    go_wp2
    go_ret2
    exact⟨by rw[g.o.1,g.o.2];rfl,j.o⟩
   ·have g:=@J (zdX l=3∧zdY l=0) (by unfold zdX zdY;rw[hS,if_neg ho,if_neg ho];exact⟨rfl,rfl⟩)
    have I:(T / 18446744073709551616==0)=false:=by rw[beq_eq_false_iff_ne];omega
    clear hS ho i
    go_wp2
    go_ret2
    exact⟨by rw[g.o.1,g.o.2];rfl,j.o⟩
def opens:List InD→List yE→Bool
 |x::I,o::O=>decide (x9 x.key=o.lock) && opens I O
 |_,_=>true
def jr (l:List yE):List Int:=l.map (·.value)
def vz (t:TxD) (prev:List yE):Int:=
 if yF t=0 then
  (if prev.length=t.ins.length then
   (if opens t.ins prev=true then
    (if(jr prev).sum<18446744073709551616 then(if qW t.outs≤(jr prev).sum then 0 else 11) else 11)
    else 13)
   else 2)
 else yF t
def j7 (t:TxD) (prev:List yE):Int:=if vz t prev=0 then(jr prev).sum-qW t.outs else 0
theorem zbP:∀ {I:List InD} {O:List yE},opens I O=true↔∀(i:Nat) (x:InD) (o:yE),I[i]? =some x→O[i]? =some o→x9 x.key=o.lock
 |[],O=>by simp[opens]
 |x::I,[]=>by simp[opens]
 |x::I,o::O=>by
  simp only[opens,Bool.and_eq_true,decide_eq_true_eq,zbP (I:=I) (O:=O)]
  constructor
  ·rintro⟨c,d⟩ i y p b a
   cases i with
   |zero=>simp at b a;subst b;subst a;exact c
   |succ i=>exact d i y p (by simpa using b) (by simpa using a)
  ·intro h
   exact⟨h 0 x o rfl rfl,λi y p b a=>h (i+1) y p (by simpa using b) (by simpa using a)⟩
theorem zjz:(prog.info? 48).map (λi=>(i.zero,i.size,i.bytes))=some (some (.int .u64 0),1,8):=by kernel_rfl
theorem zlI:prog.underlying 242=some (.slice 48):=by kernel_rfl
theorem VK:∀ {l:List yE},(∀x∈l,0≤x.value)→0≤qW l
 |[],_=>by simp[qW]
 |x::l,h=>by
  have:=VK (l:=l) (λy a=>h y (.tail _ a))
  have b:=h x (.head _)
  have e:qW (x::l)=x.value+qW l:=by simp[qW]
  omega
theorem ziC {l:List yE} (h:∀x∈l,0≤x.value) (n:Nat):qW (l.take n)≤qW l:=by
 have e:qW (l.take n++l.drop n)=qW (l.take n)+qW (l.drop n):=by simp only[qW,List.map_append,List.sum_append]
 rw[take_append_drop] at e
 have:=VK (l:=l.drop n) (λx a=>h x (List.mem_of_mem_drop a))
 omega
def zgz (w:World) (t:TxD) (prev:List yE) (e:Ending) (w':World):Prop:=e=.returned (.tuple #[.int .u64 (j7 t prev),.int .i64 (vz t prev)])∧Fr No w w'
theorem Vh {t:TxD} {prev:List yE} {w:World} {E:Int} (h:vz t prev=E) (a:E≠0):∀w',Fr No w w'→zgz w t prev (.returned (.tuple #[.int .u64 0,.int .i64 E])) w':=λw' f=>by
 refine⟨?_,f⟩
 have:j7 t prev=0:=by unfold j7;rw[h,if_neg a]
 rw[this,h]
theorem Zp {w:World} (hg:vj w) {t:TxD} {cs:List Value} (ht:TxQ w t cs) {v:Value} {prev:List yE} (hp:xy w v prev) (hN:prev.length≤1000):
  Calls prog 77 #[.agg cs.toArray,v] w (zgz w t prev):=by
 have HG:=J hg
 have HT:=J ht
 have HP:=J hp
 obtain⟨ia,N,oa,oc,rfl,hv,hi,ho⟩:=ht
 obtain⟨va,vc,rfl⟩:=hp.2.form
 obtain⟨dH,uH,rH⟩:=Zx
 have zO:=xm
 have F1:=J ((frN w).alloc (.cells #[.int .u32 t.ver,.slice ia t.ins.length N,.slice oa t.outs.length oc] 34))
 obtain⟨-,c1,c2,r0⟩:=qN w t.ver (.slice ia t.ins.length N) (.slice oa t.outs.length oc)
 have C1:=J c1
 have C2:=J c2
 have R0:=J r0
 have V:=J (XE (w.alloc (.cells #[.int .u32 t.ver,.slice ia t.ins.length N,.slice oa t.outs.length oc] 34)) (HT.o.keep F1.o))
 clear hi ho hv c1 c2 r0 hp hg
 show Calls prog 77 #[.agg #[.int .u32 t.ver,.slice ia t.ins.length N,.slice oa t.outs.length oc],.slice va prev.length vc] w _
 by_cases hck:yF t=0
 rotate_left
 ·have b:=J (Vh (t:=t) (prev:=prev) (w:=w) (E:=yF t) (by unfold vz;rw[if_neg hck]) hck)
  have jz:(yF t==0)=false:=by rw[beq_eq_false_iff_ne];exact hck
  clear hck
  go_enter Tryz.func77,Tryz.ntmps77
  have⟨D,F⟩:=tZ2
  go_wp2_with ((first|((with_reducible refine zt ?_);clear D;refine zn1 rfl rfl rfl R0.o rfl ?_;generalize w.alloc (.cells #[.int .u32 t.ver,.slice ia t.ins.length N,.slice oa t.outs.length oc] 34)=w1 at*)|(clear F;go_at_call 32;refine V.o.mono ?_;rintro e w2 ⟨rfl,Q⟩;have c:=J Q;clear Q));go_frame)
  go_ret2
  exact b.o _ (F1.o.trans0 c.o)
 have bf:t.ins.length≤8:=by
  unfold yF at hck
  split at hck
  ·rename_i h;exact(y5.1 h).2.1
  ·cases hck
 have aI:=@J (∀x∈t.ins,x.key.length≤64) (by
  have A:=hck
  unfold yF at A
  split at A
  ·rename_i h;exact(y5.1 h).1
  ·cases A)
 by_cases hlen:prev.length=t.ins.length
 rotate_left
 ·have b:=J (Vh (t:=t) (prev:=prev) (w:=w) (E:=2) (by unfold vz;rw[if_pos hck,if_neg hlen]) (by decide))
  have jl:¬(prev.length:Int)=(t.ins.length:Int):=by omega
  have aA:((prev.length:Int)==(t.ins.length:Int))=false:=by rw[beq_eq_false_iff_ne];exact jl
  unfold ju at V
  rw[hck] at V
  clear hck hlen
  go_enter Tryz.func77,Tryz.ntmps77
  have⟨D,F⟩:=tZ2
  go_wp2_with ((first|((with_reducible refine zt ?_);clear D;refine zn1 rfl rfl rfl R0.o rfl ?_;generalize w.alloc (.cells #[.int .u32 t.ver,.slice ia t.ins.length N,.slice oa t.outs.length oc] 34)=w1 at*)|(clear F;go_at_call 32;refine V.o.mono ?_;rintro e w2 ⟨rfl,Q⟩;have c:=J Q;clear Q;have d1:=c.o.cell C1.o id));go_frame)
  go_ret2
  exact b.o _ (F1.o.trans0 c.o)
 have aA:((prev.length:Int)==(t.ins.length:Int))=true:=by rw[beq_iff_eq];omega
 have bk:((prev.length:Int) !=(t.ins.length:Int))=false:=by rw[bne,aA];rfl
 obtain⟨iK,aq,hz,ax,al⟩:=info_parts zjz
 have MK:=J (λ(w3:World)=>run_makeSlice_full (P:=prog) (w:=w3) w3.heap.size 242 48 iK _ 1 zlI aq hz ax .i64 .i64 prev.length (by omega) (by rw[al];omega) (by unfold maxLen;omega) (le_refl _))
 have FE:=@J (vz t prev=if opens t.ins prev=true then(if(jr prev).sum<18446744073709551616 then(if qW t.outs≤(jr prev).sum then 0 else 11) else 11) else 13) (by unfold vz;rw[if_pos hck,if_pos hlen])
 have O:=J hlen
 unfold ju at V
 rw[hck] at V
 clear aq hz ax al hck hlen
 go_enter Tryz.func77,Tryz.ntmps77
 have⟨D,F⟩:=tZ2
 go_wp2_with ((first|((with_reducible refine zt ?_);clear D;refine zn1 rfl rfl rfl R0.o rfl ?_;generalize w.alloc (.cells #[.int .u32 t.ver,.slice ia t.ins.length N,.slice oa t.outs.length oc] 34)=w1 at*)|(clear F;go_at_call 32;refine V.o.mono ?_;rintro e w2 ⟨rfl,Q⟩;have c:=J Q;clear Q;have d1:=c.o.cell C1.o id;obtain⟨w4,aX,ar,an⟩:=MK.o w2;have ak:Fr No w2 w4:=Fr.of_grown an (λk e=>by cases e);have ad:=J ak;have aJ:=J ar;clear an ar ak));go_frame)
 have F4:=J (F1.o.trans0 (c.o.trans0 ad.o))
 have ab:=J (c.o.trans0 ad.o)
 have WL:=@J (w.heap.size<w2.heap.size) (by have q:=World.block_lt_of_cell? _ _ C1.o;have I:=c.o.size;simp only at q;omega)
 clear aX
 generalize w2.heap.size=g at*
 clear d1
 have jn:prev.length≤1000:=hN
 go_loopw [30] (λiv wr=>∃(n:Nat) (xs:List Value),iv=.int .i64 n∧n≤prev.length∧(∀i,i<n→∀x o,t.ins[i]? =some x→prev[i]? =some o→x9 x.key=o.lock)∧wr.ownsRow g 48 1 (.slice (some ⟨g,0,none⟩) prev.length prev.length) prev.length xs∧xs.take n=((jr prev).take n).map zaW∧Fr (λj=>j=g) w4 wr) (λiv _=>prev.length-(intOf iv).toNat)
 case atStart=>exact⟨0,_,rfl,zero_le _,(λi hi=>by omega),aJ.o,by simp,Fr.refl _ _⟩
 case round=>
  obtain⟨n,xs,rfl,hn,au,av,az,fr⟩:=hrel
  have FR:=J fr
  have OP:=J au
  have W:=J av
  have ah:=J az
  have FW:=@J (Fr No w wr) (F4.o.trans fr (λi hi e=>by have:=WL.o;omega))
  clear fr au av az
  by_cases L:n<prev.length
  ·have i1:(n:Int)<(prev.length:Int):=by omega
   have i2:(n:Int)<(t.ins.length:Int):=by have:=O.o;omega
   obtain⟨o,m⟩:∃x,prev[n]? =some x:=⟨_,getElem?_eq_getElem L⟩
   obtain⟨x,hy⟩:∃x,t.ins[n]? =some x:=⟨_,getElem?_eq_getElem (by have:=O.o;omega)⟩
   obtain⟨bb,off,aS,hv,hr,-⟩:=(HP.o.keep FW.o).at_ m
   cases hv
   have d:=HP.o.1 o (mem_of_getElem? m)
   obtain⟨bh,bj,aZ,a1,z,-,ao,-⟩:=HT.o.keep FW.o
   simp only[txC,List.cons.injEq,and_true] at z
   obtain⟨-,z,-⟩:=z
   injection z with e21 _ e23
   subst e21;subst e23
   obtain⟨b3,p,a8,bd,aY,aw,ka,kc,rfl,aB,S⟩:=ao.at_ hy
   cases aY
   have R1:=J hr
   have Y:=J (yr d)
   have KC:=@J (wr.cell? ⟨b3,p+n*34+33,none⟩=some (.slice ka x.key.length kc)) ((zcO aw aB).2)
   have G:=J d.2
   have fA:=((frN wr).alloc (.cells (zJ o).toArray 103)).drew
   have U:=J fA
   have aT:=(frN wr).alloc (.cells (zJ o).toArray 103)
   obtain⟨n1,n2⟩:=YQ wr d
   have N1:=J n1
   have N2:=J n2
   have XW:=J (FR.o.cell (ab.o.cell C1.o id) (λe=>by have z:w.heap.size=g:=e;have:=WL.o;omega))
   have ai:=J (zbK (HG.o.keep0 (FW.o.trans0 fA)) ((S.keep fA).2) (by have:=aI.o x (mem_of_getElem? hy);omega))
   have aj:=J (Jt x.key)
   have KS:=@J (∀w',Fr No (wr.alloc (.cells (zJ o).toArray 103)).drew w'→w'.cell? ⟨w.heap.size,1,none⟩=some (.slice (some ⟨b3,p,none⟩) t.ins.length N)∧w'.cell? ⟨b3,p+n*34+33,none⟩=some (.slice ka x.key.length kc)∧w'.rangeAt wr.heap.size 1 (zf o.lock)) (λw' f=>⟨f.cell (U.o.cell XW.o id) id,f.cell (U.o.cell KC.o id) id,za (za N2.o (frN _).drew id) f id⟩)
   have aO:=@J (x9 x.key≠o.lock→opens t.ins prev=false) (λaa=>by
    cases ho:opens t.ins prev with
    |false=>rfl
    |true=>exact absurd (zbP.1 ho n x o hy m) aa)
   have TF:=@J (((jr prev).take (n+1)).map zaW=((jr prev).take n).map zaW++[zaW o.value]) (by
    have e3:(jr prev)[n]? =some o.value:=by simp[jr,m]
    rw[take_add_one,e3]
    simp)
   have aP:=@J (x9 x.key=o.lock→∀i,i<n+1→∀x' o',t.ins[i]? =some x'→prev[i]? =some o'→x9 x'.key=o'.lock) (λhe i hi x' o' q I=>by
    by_cases hin:i<n
    ·exact OP.o i hin x' o' q I
    ·obtain rfl:i=n:=by omega
     rw[hy] at q;rw[m] at I
     cases q;cases I
     exact he)
   have ag:=J (zb W.o fA (λ_ _=>id))
   clear hr aw S aB ao fA aT n1 n2 m hy d
   go_wp2_with (first|(refine zn2 rfl rfl rfl R1.o Y.o ?_)|(refine zoa (w:=wr) (cs:=zJ o) rfl rfl rfl rfl Y.o yc ?_))
   refine wrLx [ff,ff,ff,ff,ff,ff,tt,ff,ff,ff] (λw'=>w'.cell? ⟨w.heap.size,1,none⟩=some (.slice (some ⟨b3,p,none⟩) t.ins.length N)∧w'.cell? ⟨b3,p+n*34+33,none⟩=some (.slice ka x.key.length kc)∧w'.rangeAt wr.heap.size 1 (zf o.lock)) ?_ (λK hK=>?_)
   ·exact KS.o _ (Fr.refl _ _)
   repeat((first|(refine zj rfl ?_;constructor;constructor;(focus(first|(rintro w' ⟨s1,s2,s3⟩;go_simp;(try with_reducible rfl);done))))|(refine zl rfl ?_));try simp only[Act.put,pA,pB,pC])
   (refine zE rfl (λK' hK'=>?_))
   go_simp
   refine ai.o.mono ?_
   rintro e wz ⟨rfl,fz⟩
   have FZ:=J fz
   have aF:=@J (Fr (λj=>j=g) w4 wz) ((FR.o.trans0 U.o).trans0 fz)
   have aE:=J ((FW.o.trans0 U.o).trans0 fz)
   have bc:=fz.cell ((frN _).drew.cell N1.o id) id
   have X:=J (zb ag.o fz (λ_ _=>id))
   clear fz
   refine nXt hK' ?_ λhS=>?_
   ·exact KS.o _ FZ.o
   try simp only[Act.put,pA,pB,pC]
   by_cases heq:x9 x.key=o.lock
   ·repeat((first|(refine zj rfl ?_;constructor;constructor;(focus(first|exact yK (ty:=41) rfl (λw h=>h.2.2) uH rH (by rw[zx G.o];exact yp)|exact λw' _=>xT.exec_neq rfl (u:=(zf (x9 x.key)).toArray) (v:=(zf o.lock).toArray) rfl rfl (yq aj.o) (yq G.o) true (by rw[heq];simp) w'|(rintro w' ⟨s1,s2,s3⟩;go_simp;(try with_reducible rfl);done))))|(refine zl rfl ?_));try simp only[Act.put,pA,pB,pC])
    refine zL (hK.out _ _ ?_)
    have aQ:=J (aP.o heq)
    obtain⟨aC,a6⟩:=Js X.o L 0 (by decide)
    obtain⟨u0,a7⟩:=Option.isSome_iff_exists.1 aC
    simp only[Nat.mul_one,Nat.add_zero] at a6 a7
    have aK:=J (qY X.o n (cs:=[zaW o.value]) (by simp;omega))
    have aM:=@J ((setM xs n [zaW o.value]).take (n+1)=((jr prev).take (n+1)).map zaW) (by
     have q:=VD xs [zaW o.value] n (by rw[X.o.1];simp;omega)
     simp only[List.length_singleton] at q
     rw[q,ah.o,TF.o])
    have F6:=@J (Fr (λj=>j=g) w4 (wz.setCells g n [zaW o.value])) (aF.o.trans (zu g [zaW o.value] n wz) (λ_ _ h=>h))
    clear aC heq
    go_wp2_with fail
    go_roundw
    case rel=>exact⟨n+1,_,by go_num,by omega,aQ.o,aK.o,aM.o,F6.o⟩
    case measure=>simp[intOf];omega
   ·repeat((first|(refine zj rfl ?_;constructor;constructor;(focus(first|exact yK (ty:=41) rfl (λw h=>h.2.2) uH rH (by rw[zx G.o];exact yp)|exact λw' _=>xT.exec_neq rfl (u:=(zf (x9 x.key)).toArray) (v:=(zf o.lock).toArray) rfl rfl (yq aj.o) (yq G.o) false (by simp only[Bool.false_eq_true,false_iff];intro h;exact heq (zaj (by simpa using congrArg Array.toList h))) w'|(rintro w' ⟨s1,s2,s3⟩;go_simp;(try with_reducible rfl);done))))|(refine zl rfl ?_));try simp only[Act.put,pA,pB,pC])
    refine zL (hK.out _ _ ?_)
    have b:=J (Vh (t:=t) (prev:=prev) (w:=w) (E:=13) (by rw[FE.o,aO.o heq];rfl) (by decide))
    clear heq
    go_wp2_with fail
    go_ret2
    exact b.o _ aE.o
  ·have aa:n=prev.length:=by omega
   have i1:¬(n:Int)<(prev.length:Int):=by omega
   have C:opens t.ins prev=true:=zbP.2 (λi x o q I=>OP.o i (by have:=(List.getElem?_eq_some_iff.1 I).1;omega) x o q I)
   rw[C] at FE
   have ay:xs=(jr prev).map zaW:=by
    have q:=ah.o
    rw[aa,take_of_length_le (by rw[W.o.1];omega),take_of_length_le (by simp[jr])] at q
    exact q
   have VL:=@J ((jr prev).length=prev.length) (by simp[jr])
   have H:=J (zej wr (v:=.slice (some ⟨g,0,none⟩) prev.length prev.length) (l:=jr prev) (by rw[VL.o,←ay];exact W.o.slice.arg) (λy hy=>by
    obtain⟨o,ho,rfl⟩:=mem_map.1 hy
    exact(HP.o.1 o ho).1) (by rw[VL.o];omega))
   have OV:=@J (∀x∈t.outs,x.ok) ((HT.o.oks).2)
   have XW:=J (FR.o.cell (ab.o.cell C2.o id) (λe=>by have z:w.heap.size=g:=e;have:=WL.o;omega))
   obtain⟨a,R⟩:∃a,a=(jr prev).sum:=⟨_,rfl⟩
   have s:=R.symm
   have aU:=J s
   rw[s] at FE
   have aG:=@J (a<18446744073709551616→zdX (jr prev)=0∧zdY (jr prev)=a) (λh=>by unfold zdX zdY;rw[s,if_pos h,if_pos h];exact⟨rfl,rfl⟩)
   have aH:=@J (¬a<18446744073709551616→zdX (jr prev)=3∧zdY (jr prev)=0) (λh=>by unfold zdX zdY;rw[s,if_neg h,if_neg h];exact⟨rfl,rfl⟩)
   have aR:=@J (0≤a) (by
    rw[←s]
    exact VK (l:=prev) (λx m=>(HP.o.1 x m).1.1))
   clear C ay jn s R
   by_cases hov:a<18446744073709551616
   rotate_left
   ·have b:=J (Vh (t:=t) (prev:=prev) (w:=w) (E:=11) (by rw[FE.o,if_pos rfl,if_neg hov]) (by decide))
    have r:=aH.o hov
    rw[r.1,r.2] at H
    clear hov r L hn
    go_wp2_with (go_at_call 128;refine H.o.mono ?_;rintro e w5 ⟨rfl,f5⟩;have F5:=J f5;clear f5)
    go_ret2
    exact b.o _ (FW.o.trans0 F5.o)
   have r:=aG.o hov
   rw[r.1,r.2] at H
   have ae:=@J (vz t prev=if qW t.outs≤a then 0 else 11) (by rw[FE.o,if_pos rfl,if_pos hov])
   have aL:=J hov
   clear r L hn
   have bg:t.outs.length≤9223372036854775807:=by
    obtain⟨_,_,_,_,_,_,_,M⟩:=HT.o
    exact Nat.le_trans M.2.len (by unfold maxLen;decide)
   go_wp2_with (go_at_call 128;refine H.o.mono ?_;rintro e w5 ⟨rfl,f5⟩;have F5:=J (FW.o.trans0 f5);have yy:=f5.cell XW.o id;clear f5)
   clear yy
   go_loopw [10,61] (λlv iv wr=>∃n:Nat,iv=.int .i64 n∧n≤t.outs.length∧lv=.int .u64 (a-qW (t.outs.take n))∧qW (t.outs.take n)≤a∧Fr No w5 wr) (λ_ iv _=>t.outs.length-(intOf iv).toNat)
   case atStart=>exact⟨0,rfl,zero_le _,by simp[qW],by simpa[qW] using aR.o,Fr.refl _ _⟩
   case round=>
    obtain⟨k,rfl,hk,rfl,B,fr⟩:=hrel
    have FQ:=J (F5.o.trans0 fr)
    have aD:=J fr
    have NN:=VK (l:=t.outs.take k) (λx m=>(OV.o x (List.mem_of_mem_take m)).1.1)
    clear fr
    by_cases aW:k<t.outs.length
    ·have i3:(k:Int)<(t.outs.length:Int):=by omega
     obtain⟨x,m⟩:∃x,t.outs[k]? =some x:=⟨_,getElem?_eq_getElem aW⟩
     have SN:=J (zc9 m)
     have MO:=J (ziC (l:=t.outs) (λx m=>(OV.o x m).1.1) (k+1))
     obtain⟨_,_,aZ,a1,z,-,-,M⟩:=HT.o.keep FQ.o
     simp only[txC,List.cons.injEq,and_true] at z
     obtain⟨-,-,z⟩:=z
     injection z with e21 _ e23
     subst e21;subst e23
     obtain⟨bb,off,aS,hv,hr,-⟩:=M.at_ m
     cases hv
     have d:=OV.o x (mem_of_getElem? m)
     have R1:=J hr
     have Y:=J (yr d)
     have U:=J ((frN wr).alloc (.cells (zJ x).toArray 103))
     have n1:=(YQ wr d).1
     have vv:=d.1
     have ba:=aL.o
     clear hr m d M
     generalize hT:qW (t.outs.take k)=T at*
     by_cases hlx:a-T<x.value
     ·have b:=J (Vh (t:=t) (prev:=prev) (w:=w) (E:=11) (by rw[ae.o,if_neg (by have:=MO.o;have:=SN.o;omega)]) (by decide))
      have jx:decide (a-T<x.value)=true:=by simpa using hlx
      clear vv NN B
      have⟨D,F⟩:=tZ2
      go_wp2_with ((first|((with_reducible refine zt ?_);clear D;refine zn2 rfl rfl rfl R1.o Y.o ?_)|((with_reducible refine zv ?_);clear F;refine zoa (w:=wr) (cs:=zJ x) rfl rfl rfl rfl Y.o yc ?_;generalize wr.alloc (.cells (zJ x).toArray 103)=wA at*));go_frame)
      go_ret2
      exact b.o _ (FQ.o.trans0 U.o)
     ·have jx:¬a-T<x.value:=hlx
      have es:(a-T-x.value) % 18446744073709551616=a-T-x.value:=by omega
      have ES:=@J (a-T-x.value=a-qW (t.outs.take (k+1))) (by rw[SN.o];omega)
      have aN:=@J (qW (t.outs.take (k+1))≤a) (by rw[SN.o];omega)
      clear vv NN B hlx
      have⟨D,F⟩:=tZ2
      go_wp2_with ((first|((with_reducible refine zt ?_);clear D;refine zn2 rfl rfl rfl R1.o Y.o ?_)|((with_reducible refine zv ?_);clear F;refine zoa (w:=wr) (cs:=zJ x) rfl rfl rfl rfl Y.o yc ?_;generalize wr.alloc (.cells (zJ x).toArray 103)=wA at*));go_frame)
      go_roundw
      case rel=>exact⟨k+1,by go_num,by omega,by rw[←ES.o],aN.o,aD.o.trans0 U.o⟩
      case measure=>simp[intOf];omega
    ·have aV:k=t.outs.length:=by omega
     have i3:¬(k:Int)<(t.outs.length:Int):=by omega
     have Z:t.outs.take k=t.outs:=by rw[aV,take_length]
     rw[Z] at B
     have af:=@J (zgz w t prev (.returned (.tuple #[.int .u64 (a-qW t.outs),.int .i64 0])) wr) (⟨by
      have q:vz t prev=0:=by rw[ae.o,if_pos B]
      have I:j7 t prev=a-qW t.outs:=by unfold j7;rw[if_pos q,aU.o]
      rw[q,I],FQ.o⟩)
     rw[Z]
     clear B NN Z
     go_wp2
     go_ret2
     exact af.o
section
open Go.ChangeShapes Go.WideShapes Go.ChangeAt Go.Deep
theorem laid:laidOutB prog=true:=by kernel_rfl
theorem own:ownKnob prog.godebug=none:=by kernel_rfl
section
variable {H:Type} {enc:TypeId×Value→H} {P:Program}
theorem zez {w w':World} (h:Fr No w w'):Below w.heap.size w w':=⟨h.os,h.tape,h.output,h.size,λk a=>h.block k a id⟩
theorem Qp (e:laidOutB P=true) {W b:World} (c:Below W.heap.size W b) {f:Nat→Bool}:∀ {ts:List TypeId} {vs:List Value} {ds:List (DataW H)} {ps:List MemPlace},
  (∀t∈ts,P.readableRec t=true∧t<P.types.size)→DataW.TrodAll enc P W 0 (λ_=>true) true ts vs ds ps→(∀p∈ps,p.block<W.heap.size)→(∀p∈ps,f p.block=true)→DataW.TrodAll enc P b 0 f true ts vs ds ps
 |[],_,_,_,_,h,_,_=>by
  obtain⟨rfl,rfl,rfl⟩:=trodAll_nil h
  exact trodAll_mk0
 |t::ts,_,_,_,hr,h,hlt,hs=>by
  obtain⟨v,o,d,g,p,q,rfl,rfl,rfl,i,j⟩:=trodAll_cons h
  obtain⟨l,m⟩:=hr t (List.mem_cons_self ..)
  exact trodAll_cons_mk (WideElems.Trod_stays e l m i (λx a=>c.same (hlt x (List.mem_append_left _ a))) (λx a=>hs x (List.mem_append_left _ a)))
   (Qp e c (λn k=>hr n (List.mem_cons_of_mem _ k)) j (λx a=>hlt x (List.mem_append_right _ a)) (λx a=>hs x (List.mem_append_right _ a)))
theorem zgd {f:Func} {s:ChangeSpec} {apart fresh a:Bool} {W j:World} {args:Array Value} {v:Value} {e:List (DataW H)} {before:List MemPlace}
  (z:laidOutB P=true) (B:∀t∈f.params.toList,P.readableRec t=true∧t<P.types.size) (r:s.vars=[])
  (k:DataW.Whole enc P f.params.toList s.vars apart W args.toList e [] before) (o:Fr No W j)
  (i:∀(b:Nat) (sp:Nat→Bool) (hd:Bool),DataW.TrodAll enc P j b sp hd f.resultTypes.toList (v.resultList f.resultTypes.size) (s.fn H (e++[])).results [])
  (d:(s.fn H (e++[])).args=e) (m:(s.fn H (e++[])).vars=[]):
  s.post enc P f apart fresh a false W args v j:=by
 have l:=k
 obtain⟨p,q,u,n,rfl,y,A⟩:=l
 rw[r] at n
 obtain⟨_,rfl⟩:=trodVars_none n
 have c:∀x∈p,x.block<W.heap.size:=λx g=>by simpa using k.lt x (List.mem_append_left _ g)
 refine⟨e,[],p++[],[],p,[],k,i _ _ _,?_,?_,World.keptBut_mono (λx g=>⟨g,.inr (by simpa using g)⟩) ((zez o).frame _),λh=>by cases h⟩
 ·rw[d]
  exact Qp z (zez o) B u c (λx g=>by simpa using c x g)
 ·rw[m,r]
  exact rfl
theorem zac {w:World} {a:Addr} {v:Value} (h:w.cell? a=some v):a=⟨a.block,a.off,none⟩∧a.block<w.heap.size:=by
 unfold World.cell? at h
 split at h
 ·rename_i c x y e
  split at h
  ·cases h
  ·rename_i hs
   refine⟨?_,(Array.getElem?_eq_some_iff.1 e).1⟩
   obtain⟨b,o,s⟩:=a
   cases s<;>simp_all
 ·cases h
variable {w:World} {base:Nat} {spare:Nat→Bool} {held:Bool}
end
end
section
open Go.ChangeShapes Go.WideShapes Go.ChangeAt Go.WideMaps Go.WideElems
def zeP:List (String×DataW Unit):=[("pappus/sha.constants",Rows.laid_pappus_sha_constants),("pappus/sha.first",Rows.laid_pappus_sha_first)]
theorem gK:prog.globalNamed "pappus/sha.constants" =some 3:=by kernel_rfl
theorem tK:(prog.globals[3]?).map (·.type)=some 312:=by kernel_rfl
theorem gI:prog.globalNamed "pappus/sha.first" =some 0:=by kernel_rfl
theorem tI:(prog.globals[0]?).map (·.type)=some 267:=by kernel_rfl
theorem zjj (os:Os) (args:Array Value):laidMetH prog zeP ((World.doorLaid prog 400 os).forCall (λ_ _=>0) ⟨#[],args,[]⟩).memory:=
 laidMetH_of_parts3 (fuel:=8) (laidMet_of_run' 8 (by kernel_rfl) (by kernel_rfl)) (by kernel_rfl) (by kernel_rfl)
theorem zki {W:World} {g n:Nat} {T:TypeId} {a:List Value} {t:Nat} {c:List Int} {u:Nat→Bool} {E:List MemPlace} {p:Nat} {h:Bool} {enc:TypeId×Value→Unit} (v:prog.underlying T=some (.array n 31)) (C:∀j,W.cell? ⟨g,j,none⟩=a[j]?) (w:DataW.trod enc prog W p u h t T a=some (.agg (c.map λx=>DataW.lit (.int .u32 x)),E)) (A:c.length=n):
  ∀(j:Nat) (x:Int),c[j]? =some x→W.cell? ⟨g,j,none⟩=some (.int .u32 x):=by
 obtain⟨xs,F,D,i,o,B,b⟩:=DataW.trod_array v w
 have q:prog.cellsOf 31=1:=by kernel_rfl
 rw[q] at b
 have d:(c.map λx=>DataW.lit (H:=Unit) (.int .u32 x))=xs.map (·.1):=by
  have e:=congrArg Prod.fst i
  exact DataW.agg.inj e
 intro j x m
 have f:j<n:=by rw[←A];exact(List.getElem?_eq_some_iff.1 m).1
 have e:=congrArg (·[j]?) d
 simp only[List.getElem?_map,m,Option.map_some] at e
 cases hy:xs[j]? with
 |none=>rw[hy] at e;cases e
 |some y=>
  rw[hy] at e
  have l:=b j f
  rw[hy] at l
  obtain⟨k,r,s,_⟩:=DataW.trod_int Tryz.underlying31 l
  simp only[Option.map_some,Option.some.injEq] at e
  rw[s] at e
  have z:x=k:=by simpa using e
  subst z
  have:=congrArg (·[0]?) r
  simp at this
  rw[C j]
  simpa using this
theorem zmI:Rows.laid_pappus_sha_constants (H:=Unit)=.agg (ziq.map λx=>DataW.lit (.int .u32 x)):=by kernel_rfl
theorem zmH:Rows.laid_pappus_sha_first (H:=Unit)=.agg (zio.map λx=>DataW.lit (.int .u32 x)):=by kernel_rfl
theorem zk8 {W:World} (h:laidMetH prog zeP W):vj W:=by
 rw[MakeChecks.laidMetH_plain _ _ _ (by kernel_rfl)] at h
 obtain⟨ps,⟨p,v,l,n,r,t,c,e,i,a,⟨q,w,m,o,s,u,d,f,k,b,_,_⟩,_⟩,_,_⟩:=h
 obtain rfl:=Option.some.inj (gK.symm.trans c)
 obtain rfl:=Option.some.inj (tK.symm.trans e)
 obtain rfl:=Option.some.inj (gI.symm.trans d)
 obtain rfl:=Option.some.inj (tI.symm.trans f)
 rw[zmI] at a
 rw[zmH] at b
 have K:=zki (g:=3) Tryz.underlying312 (λj=>by rw[Array.getElem?_toList];exact World.var?_cell c i j) a rfl
 have I:=zki (g:=0) Tryz.underlying267 (λj=>by rw[Array.getElem?_toList];exact World.var?_cell d k j) b rfl
 exact⟨⟨K,I⟩,(zac (K 0 _ rfl)).2⟩
end
section
open Go.ChangeShapes Go.WideShapes Go.Deep
theorem YG {b o k:Nat}:(⟨b,o,none⟩:Addr).add k=⟨b,o+k,none⟩:=by
 unfold Addr.add
 split
 ·subst_vars;rfl
 ·rfl
theorem Qv {α:Type} {n:Nat} {p:Nat→α→Prop} (h:∀i,i<n→∃a,p i a):∃L:List α,L.length=n∧∀i a,L[i]? =some a→p i a:=by
 induction n with
 |zero=>exact⟨[],rfl,λi a h=>by simp at h⟩
 |succ n ih=>
  obtain⟨L,c,e⟩:=ih (λi hi=>h i (by omega))
  obtain⟨a,d⟩:=h n (by omega)
  refine⟨L++[a],by simp[c],λi x b=>?_⟩
  by_cases hi:i<n
  ·rw[List.getElem?_append_left (by omega)] at b;exact e i x b
  ·have:i=n:=by have:=(List.getElem?_eq_some_iff.1 b).1;simp at this;omega
   subst this
   rw[List.getElem?_append_right (by omega)] at b
   simp[c] at b
   exact b▸d
section
variable {H:Type} {enc:TypeId×Value→H} {P:Program} {w:World} {base:Nat} {spare:Nat→Bool} {held:Bool}
theorem zgu {t e:TypeId} {n fuel:Nat} {cs:List Value} {x:DataW H×List MemPlace} (u:P.underlying t=some (.array n e)) (r:P.cellsOf t=n) (q:P.cellsOf e=1) (s:P.underlying e=some (.int .u8))
  (h:DataW.trod enc P w base spare held fuel t cs=some x):∃l:List Int,l.length=n∧(∀y∈l,0≤y∧y≤255)∧cs=l.map (Value.int .u8):=by
 obtain⟨xs,m,_,_,z,v,hi⟩:=DataW.trod_array u h
 obtain⟨l,f,j⟩:=Qv (n:=n) (p:=λi (y:Int)=>cs[i]? =some (.int .u8 y)∧0≤y∧y≤255) (λi d=>by
  have b:=hi i d
  rw[q,getElem?_eq_getElem (by omega)] at b
  obtain⟨y,a,_,g⟩:=DataW.trod_int s b
  have k:IntKind.u8.min=0:=rfl
  have o:IntKind.u8.max=255:=rfl
  simp[Lit.wf,k,o] at g
  refine⟨y,?_,g.1,g.2⟩
  rw[Nat.mul_one] at a
  have c:i<cs.length:=by omega
  rw[List.drop_eq_getElem_cons c] at a
  simp only[List.take_succ_cons,take_zero,List.cons.injEq,and_true] at a
  rw[getElem?_eq_getElem c,a])
 refine⟨l,f,λy a=>?_,?_⟩
 ·obtain⟨i,hi⟩:=List.mem_iff_getElem?.1 a
  exact(j i y hi).2
 ·apply List.ext_getElem?
  intro i
  by_cases d:i<n
  ·have b:l[i]? =some (l[i]'(by omega)):=getElem?_eq_getElem (by omega)
   rw[(j i _ b).1,List.getElem?_map,b]
   rfl
  ·rw[List.getElem?_eq_none (by omega),List.getElem?_eq_none (by simp;omega)]
theorem zcY {t e:TypeId} {k fuel:Nat} {α:Type} {f:α→List Value} {ok:α→Prop} {v:Value} {x:DataW H×List MemPlace} (ht:P.underlying t=some (.slice e)) (X:P.cellsOf e=k) (N:0<k) (C:∀a,ok a→(f a).length=k)
  (z:∀(fuel:Nat) (cs:List Value) (x:DataW H×List MemPlace),DataW.trod enc P w base spare held fuel e cs=some x→∃a,ok a∧cs=f a)
  (h:DataW.trod enc P w base spare held fuel t [v]=some x):∃L:List α,(∀a∈L,ok a)∧y7 w v L.length (L.flatMap f):=by
 rcases open_slice ht h with⟨Q,_⟩|⟨a,q,r,m,n,D,Pl,g,hb,hl,T,M,hx,hi⟩
 ·simp only[List.cons.injEq,and_true] at Q
  exact⟨[],(λa b=>by cases b),.inl (.inl ⟨Q,rfl,rfl⟩)⟩
 ·simp only[List.cons.injEq,and_true] at g
  rw[X] at hi
  have aa:q≤m:=by rw[M];split<;>omega
  by_cases hl0:q=0
  ·subst hl0
   exact⟨[],(λa b=>by cases b),.inr ⟨a,r,g,rfl,rfl,T⟩⟩
  have hs:a.spot=none∧a.block<w.heap.size:=by
   obtain⟨F,I,o⟩:=hi 0 (by omega)
   obtain⟨y,E,rfl⟩:=z _ _ _ o
   obtain⟨_,K,d⟩:=World.cells?_some I
   have s:=d 0 N
   rw[getElem?_eq_getElem (by rw[C y E];exact N)] at s
   have c:=zac s
   rw[Nat.zero_mul] at c
   exact⟨by simpa[Addr.add] using congrArg Addr.spot c.1,by simpa[Addr.add] using c.2⟩
  obtain⟨O,B,W⟩:=a
  obtain⟨rfl,G⟩:=hs
  obtain⟨L,Y,U⟩:=Qv (n:=q) (p:=λi (y:α)=>ok y∧w.rangeAt O (B+i*k) (f y)) (λi Z=>by
   obtain⟨F,I,o⟩:=hi i (by omega)
   obtain⟨y,E,rfl⟩:=z _ _ _ o
   obtain⟨_,K,d⟩:=World.cells?_some I
   refine⟨y,E,λj u A=>?_⟩
   have l:j<k:=by have:=(List.getElem?_eq_some_iff.1 A).1;rw[C y E] at this;exact this
   have s:=d j l
   rw[YG,YG] at s
   rw[s]
   exact A)
  have hok:∀a∈L,ok a:=λa b=>by
   obtain⟨i,hi⟩:=List.mem_iff_getElem?.1 b
   exact(U i a hi).1
  refine⟨L,hok,.inl (.inr ⟨O,B,r,by rw[Y];exact g,by omega,T,λj u A=>?_,G⟩)⟩
  have l:j<L.length*k:=by
   have:=(List.getElem?_eq_some_iff.1 A).1
   rwa [xJ f k L (λa b=>C a (hok a b))] at this
  have V:j / k<L.length:=Nat.div_lt_of_lt_mul (by rw[Nat.mul_comm];exact l)
  have hr:j % k<k:=Nat.mod_lt _ N
  have R:=Zz f k L (λa b=>C a (hok a b)) (j / k) L[j / k] (getElem?_eq_getElem V) (j % k) hr
  rw[Nat.div_add_mod' j k,A] at R
  have S:=(U (j / k) _ (getElem?_eq_getElem V)).2 (j % k) u R.symm
  rw[show B+j / k*k+j % k=B+(j / k*k+j % k) by omega,Nat.div_add_mod' j k] at S
  exact S
end
end
section
open Go.ChangeShapes Go.WideShapes Go.Deep
section
variable {H:Type} {enc:TypeId×Value→H} {P:Program} {w:World} {base:Nat} {spare:Nat→Bool} {held:Bool}
theorem zat {t e:TypeId} {k fuel:Nat} {α:Type} {q:α→List Value→Prop} {v:Value} {x:DataW H×List MemPlace} (Z:P.underlying t=some (.slice e)) (T:P.cellsOf e=k) (S:0<k) (R:∀a cs,q a cs→cs.length=k)
  (A:∀(fuel:Nat) (cs:List Value) (x:DataW H×List MemPlace),DataW.trod enc P w base spare held fuel e cs=some x→∃a,q a cs)
  (h:DataW.trod enc P w base spare held fuel t [v]=some x):∃(L:List α) (va:Option Addr) (vc:Nat),v=.slice va L.length vc∧L.length≤maxLen∧∀(i:Nat) (d:α),L[i]? =some d→∃b off cs,va=some ⟨b,off,none⟩∧w.rangeAt b (off+i*k) cs∧q d cs:=by
 rcases open_slice Z h with⟨O,_⟩|⟨a,o,r,m,n,D,Pl,g,hb,hl,hm,N,hx,hi⟩
 ·simp only[List.cons.injEq,and_true] at O
  exact⟨[],none,0,O,zero_le _,λi d K=>by simp at K⟩
 ·simp only[List.cons.injEq,and_true] at g
  rw[T] at hi
  have W:o≤m:=by rw[N];split<;>omega
  by_cases hl0:o=0
  ·subst hl0
   exact⟨[],some a,r,g,zero_le _,λi d K=>by simp at K⟩
  have Y:a.spot=none:=by
   obtain⟨s,G,l⟩:=hi 0 (by omega)
   obtain⟨y,B⟩:=A _ _ _ l
   obtain⟨_,I,f⟩:=World.cells?_some G
   have z:=f 0 S
   rw[getElem?_eq_getElem (by rw[R y _ B];exact S)] at z
   have c:=zac z
   rw[Nat.zero_mul] at c
   simpa[Addr.add] using congrArg Addr.spot c.1
  obtain⟨C,E,F⟩:=a
  obtain rfl:F=none:=Y
  obtain⟨L,U,X⟩:=Qv (n:=o) (p:=λi (y:α)=>∃b off cs,(some ⟨C,E,none⟩:Option Addr)=some ⟨b,off,none⟩∧w.rangeAt b (off+i*k) cs∧q y cs) (λi V=>by
   obtain⟨s,G,l⟩:=hi i (by omega)
   obtain⟨y,B⟩:=A _ _ _ l
   obtain⟨_,I,f⟩:=World.cells?_some G
   refine⟨y,C,E,s,rfl,λj u Q=>?_,B⟩
   have M:j<k:=by have:=(List.getElem?_eq_some_iff.1 Q).1;rw[R y _ B] at this;exact this
   have z:=f j M
   rw[Q,YG,YG] at z
   exact z)
  exact⟨L,some ⟨C,E,none⟩,r,by rw[U];exact g,by omega,X⟩
end
end
section
open Go.ChangeShapes Go.WideShapes Go.Deep
section
variable {H:Type} {enc:TypeId×Value→H} {w:World} {base:Nat} {spare:Nat→Bool} {held:Bool}
theorem zlL {n:Int} (h:(Lit.int .u32 n).wf=true):0≤n∧n≤4294967295:=by
 simp[Lit.wf,IntKind.min,IntKind.max,IntKind.signed,IntKind.bits] at h
 omega
theorem zlM {n:Int} (h:(Lit.int .u64 n).wf=true):0≤n∧n≤18446744073709551615:=by
 simp[Lit.wf,IntKind.min,IntKind.max,IntKind.signed,IntKind.bits] at h
 omega
theorem QP {fuel:Nat} {cs:List Value} {x:DataW H×List MemPlace} (h:DataW.trod enc prog w base spare held fuel 41 cs=some x):∃l:List Int,zX l∧cs=l.map zM:=by
 have d:prog.cellsOf 41=32:=by kernel_rfl
 have c:prog.cellsOf 5=1:=by kernel_rfl
 obtain⟨l,b,a,e⟩:=zgu Tryz.underlying41 d c Tryz.underlying5 h
 exact⟨l,⟨b,a⟩,e⟩
theorem zfs {fuel:Nat} {cs:List Value} {x:DataW H×List MemPlace} (h:DataW.trod enc prog w base spare held fuel 95 cs=some x):∃p:zF,p.ok∧cs=zn p:=by
 have i:prog.cellsOf 41=32:=by kernel_rfl
 have j:prog.cellsOf 95=33:=by kernel_rfl
 have k:prog.cellsOf 31=1:=by kernel_rfl
 obtain⟨e,n,_,_,q,d,g⟩:=DataW.trod_struct Tryz.underlying95 h
 have a:DataW.trod enc prog w base spare held n 41 ((cs.drop 0).take (prog.cellsOf 41))=e[0]? :=g 0 _ rfl
 have b:DataW.trod enc prog w base spare held n 31 ((cs.drop 32).take (prog.cellsOf 31))=e[1]? :=g 1 _ rfl
 rw[i] at a
 rw[k] at b
 rw[j] at q
 have r:e.length=2:=d
 rw[getElem?_eq_getElem (by omega)] at a b
 obtain⟨l,c,f⟩:=QP a
 obtain⟨s,m,_,t⟩:=DataW.trod_int Tryz.underlying31 b
 refine⟨⟨l,s⟩,⟨c,zlL t⟩,?_⟩
 rw[drop_zero] at f
 have o:cs.drop 32=[.int .u32 s]:=by rw[←m,take_of_length_le (by rw[length_drop];omega)]
 show cs=l.map zM++[.int .u32 s]
 rw[←f,←o,take_append_drop]
theorem ziE {fuel:Nat} {cs:List Value} {x:DataW H×List MemPlace} (h:DataW.trod enc prog w base spare held fuel 103 cs=some x):∃o:yE,o.ok∧cs=zJ o:=by
 have i:prog.cellsOf 41=32:=by kernel_rfl
 have j:prog.cellsOf 103=33:=by kernel_rfl
 have k:prog.cellsOf 48=1:=by kernel_rfl
 obtain⟨e,n,_,_,q,d,g⟩:=DataW.trod_struct Tryz.underlying103 h
 have a:DataW.trod enc prog w base spare held n 48 ((cs.drop 0).take (prog.cellsOf 48))=e[0]? :=g 0 _ rfl
 have b:DataW.trod enc prog w base spare held n 41 ((cs.drop 1).take (prog.cellsOf 41))=e[1]? :=g 1 _ rfl
 rw[k] at a
 rw[i] at b
 rw[j] at q
 have r:e.length=2:=d
 rw[getElem?_eq_getElem (by omega)] at a b
 obtain⟨s,f,_,t⟩:=DataW.trod_int Tryz.underlying48 a
 obtain⟨l,c,m⟩:=QP b
 refine⟨⟨s,l⟩,⟨zlM t,c⟩,?_⟩
 rw[drop_zero] at f
 have p:cs.drop 1=l.map zM:=by rw[←m,take_of_length_le (by rw[length_drop];omega)]
 show cs=[.int .u64 s]++l.map zM
 rw[←f,←p,take_append_drop]
end
end
section
open Go.ChangeShapes Go.WideShapes Go.Deep
section
variable {H:Type} {enc:TypeId×Value→H} {w:World} {base:Nat} {spare:Nat→Bool} {held:Bool}
theorem zas {fuel:Nat} {v:Value} {x:DataW H×List MemPlace} (h:DataW.trod enc prog w base spare held fuel 22 [v]=some x):∃L,xy w v L:=
 zcY Tryz.underlying22 (k:=33) (by kernel_rfl) (by decide) (λa=>yr) (λ_ _ _ h=>ziE h) h
theorem zjO {fuel:Nat} {v:Value} {x:DataW H×List MemPlace} (h:DataW.trod enc prog w base spare held fuel 106 [v]=some x):∃k,zbj w v k:=by
 obtain⟨L,ok,d⟩:=zcY (f:=λb:Int=>[zM b]) (ok:=λb:Int=>0≤b∧b≤255) Tryz.underlying106 (k:=1) (by kernel_rfl) (by decide) (λa _=>rfl) (λfuel cs x h=>by
  obtain⟨k,e,_,c⟩:=DataW.trod_int Tryz.underlying5 h
  have g:IntKind.u8.min=0:=rfl
  have i:IntKind.u8.max=255:=rfl
  simp[Lit.wf,g,i] at c
  exact⟨k,⟨c.1,c.2⟩,e⟩) h
 refine⟨L,ok,?_⟩
 have:L.flatMap (λb:Int=>[zM b])=L.map zM:=by
  clear d ok
  induction L with
  |nil=>rfl
  |cons a l ih=>simp[ih]
 rwa [this] at d
theorem zmN {cs:List Value} {n k:Nat} (b:cs.length=n) (a:k+1=n):∃u,cs.drop k=[u]:=by
 have:(cs.drop k).length=1:=by rw[length_drop];omega
 exact List.length_eq_one_iff.1 this
theorem zlD {fuel:Nat} {cs:List Value} {x:DataW H×List MemPlace} (h:DataW.trod enc prog w base spare held fuel 108 cs=some x):∃d,InQ w d cs:=by
 have c1:prog.cellsOf 95=33:=by kernel_rfl
 have c2:prog.cellsOf 106=1:=by kernel_rfl
 have q:prog.cellsOf 108=34:=by kernel_rfl
 obtain⟨f,n,_,_,l,c,i⟩:=DataW.trod_struct Tryz.underlying108 h
 have b:DataW.trod enc prog w base spare held n 95 ((cs.drop 0).take (prog.cellsOf 95))=f[0]? :=i 0 _ rfl
 have a:DataW.trod enc prog w base spare held n 106 ((cs.drop 33).take (prog.cellsOf 106))=f[1]? :=i 1 _ rfl
 rw[c1] at b
 rw[c2] at a
 rw[q] at l
 have s:f.length=2:=c
 rw[getElem?_eq_getElem (by omega)] at b a
 obtain⟨p,e,r⟩:=zfs b
 obtain⟨u,g⟩:=zmN l (k:=33) rfl
 rw[g,take_of_length_le (by simp)] at a
 obtain⟨k,j⟩:=zjO a
 obtain⟨m,o,rfl⟩:=j.2.form
 refine⟨⟨p,k⟩,m,o,?_,e,j⟩
 show cs=zn p++[.slice m k.length o]
 rw[←r,←g,drop_zero,take_append_drop]
theorem zjN {fuel:Nat} {v:Value} {x:DataW H×List MemPlace} (h:DataW.trod enc prog w base spare held fuel 32 [v]=some x):∃L,QS w v L:=by
 obtain⟨L,d,f,e,b,c⟩:=zat (q:=InQ w) Tryz.underlying32 (k:=34) (by kernel_rfl) (by decide) (λa cs ⟨_,_,e,ok,_⟩=>by rw[e];exact vo ok _) (λ_ _ _ h=>zlD h) h
 exact⟨L,d,f,e,b,c⟩
theorem zhb {fuel:Nat} {cs:List Value} {x:DataW H×List MemPlace} (h:DataW.trod enc prog w base spare held fuel 34 cs=some x):∃d,TxQ w d cs:=by
 have c1:prog.cellsOf 31=1:=by kernel_rfl
 have c2:prog.cellsOf 32=1:=by kernel_rfl
 have s:prog.cellsOf 22=1:=by kernel_rfl
 have t:prog.cellsOf 34=3:=by kernel_rfl
 obtain⟨i,n,_,_,r,m,j⟩:=DataW.trod_struct Tryz.underlying34 h
 have e:DataW.trod enc prog w base spare held n 31 ((cs.drop 0).take (prog.cellsOf 31))=i[0]? :=j 0 _ rfl
 have f:DataW.trod enc prog w base spare held n 32 ((cs.drop 1).take (prog.cellsOf 32))=i[1]? :=j 1 _ rfl
 have g:DataW.trod enc prog w base spare held n 22 ((cs.drop 2).take (prog.cellsOf 22))=i[2]? :=j 2 _ rfl
 rw[c1] at e
 rw[c2] at f
 rw[s] at g
 rw[t] at r
 have y:i.length=3:=m
 rw[getElem?_eq_getElem (by omega)] at e f g
 match cs,r with
 |[a,b,c],_=>
  simp only[drop_zero,List.drop_succ_cons,List.take_succ_cons,take_zero] at e f g
  obtain⟨k,o,_,l⟩:=DataW.trod_int Tryz.underlying31 e
  simp only[List.cons.injEq,and_true] at o
  subst o
  obtain⟨I,p⟩:=zjN f
  obtain⟨O,q⟩:=zas g
  obtain⟨z,A,rfl⟩:=p.form
  obtain⟨B,C,rfl⟩:=q.2.form
  have u:IntKind.u32.min=0:=rfl
  have v:IntKind.u32.max=4294967295:=rfl
  simp[Lit.wf,u,v] at l
  exact⟨⟨k,I,O⟩,z,A,B,C,rfl,⟨l.1,l.2⟩,p,q⟩
theorem TxQ.len3 {w:World} {t:TxD} {cs:List Value} (h:TxQ w t cs):cs.length=3:=by
 obtain⟨_,_,_,_,rfl,_⟩:=h
 rfl
theorem zjP {fuel:Nat} {v:Value} {x:DataW H×List MemPlace} (h:DataW.trod enc prog w base spare held fuel 23 [v]=some x):∃L,vC w v L:=by
 obtain⟨L,d,f,e,b,c⟩:=zat (q:=TxQ w) Tryz.underlying23 (k:=3) (by kernel_rfl) (by decide) (λa cs h=>h.len3) (λ_ _ _ h=>zhb h) h
 exact⟨L,d,f,e,b,c⟩
theorem zkn {fuel:Nat} {cs:List Value} {x:DataW H×List MemPlace} (h:DataW.trod enc prog w base spare held fuel 55 cs=some x):∃d,jB w d cs:=by
 have c1:prog.cellsOf 48=1:=by kernel_rfl
 have c2:prog.cellsOf 22=1:=by kernel_rfl
 have s:prog.cellsOf 23=1:=by kernel_rfl
 have t:prog.cellsOf 55=3:=by kernel_rfl
 obtain⟨i,n,_,_,r,m,j⟩:=DataW.trod_struct Tryz.underlying55 h
 have e:DataW.trod enc prog w base spare held n 48 ((cs.drop 0).take (prog.cellsOf 48))=i[0]? :=j 0 _ rfl
 have f:DataW.trod enc prog w base spare held n 22 ((cs.drop 1).take (prog.cellsOf 22))=i[1]? :=j 1 _ rfl
 have g:DataW.trod enc prog w base spare held n 23 ((cs.drop 2).take (prog.cellsOf 23))=i[2]? :=j 2 _ rfl
 rw[c1] at e
 rw[c2] at f
 rw[s] at g
 rw[t] at r
 have y:i.length=3:=m
 rw[getElem?_eq_getElem (by omega)] at e f g
 match cs,r with
 |[a,b,c],_=>
  simp only[drop_zero,List.drop_succ_cons,List.take_succ_cons,take_zero] at e f g
  obtain⟨k,o,_,l⟩:=DataW.trod_int Tryz.underlying48 e
  simp only[List.cons.injEq,and_true] at o
  subst o
  obtain⟨O,q⟩:=zas f
  obtain⟨I,p⟩:=zjP g
  obtain⟨B,C,rfl⟩:=q.2.form
  obtain⟨z,A,rfl⟩:=p.form
  have u:IntKind.u64.min=0:=rfl
  have v:IntKind.u64.max=18446744073709551615:=rfl
  simp[Lit.wf,u,v] at l
  exact⟨⟨k,O,I⟩,B,C,z,A,rfl,⟨l.1,l.2⟩,q,p⟩
end
end
def jZ (S:List zr) (t:TxD):List zr:=(zW t).map λq=>⟨q,yg S q⟩
def JK (S:List zr) (t:TxD):List yE:=(zW t).map (yg S)
def qG (t:TxD):List zr:=ZJ (idH t) t.outs
def spE (S:List zr) (t:TxD):Int:=
 if(zW t).all (xK S)=true then
  (if vz t (JK S t)=0 then(if jJ (qg S (zW t)) (qG t)=0 then 0 else 10) else vz t (JK S t))
 else 15
def spS (S:List zr) (t:TxD):List zr:=if spE S t=0 then jR (qg S (zW t)) (qG t) else S
def spG (S:List zr) (t:TxD):YE:=⟨jZ S t,(qG t).map (·.at_)⟩
theorem vJ (t:TxD):(zW t).length=t.ins.length:=by simp[zW]
theorem zaq (t:TxD):(qG t).length=t.outs.length:=Ja _ _
theorem XU (S:List zr) (t:TxD):(JK S t).length=t.ins.length:=by simp[JK,zW]
theorem Ju (S:List zr) (t:TxD):(jZ S t).length=t.ins.length:=by simp[jZ,zW]
theorem zfq (S:List zr) (t:TxD):(jZ S t).map (·.at_)=zW t:=by simp[jZ,Function.comp_def]
theorem JM {t:TxD} (h:yF t=0):qE t=true∧t.ins≠[]∧t.outs≠[]∧(zW t).Nodup∧(∀x∈t.outs,vS x=false)∧qW t.outs≤1125899906842624:=by
 unfold yF at h
 split at h
 ·rename_i h1
  split at h
  ·cases h
  ·rename_i h2
   split at h
   ·cases h
   ·rename_i h3
    split at h
    ·cases h
    ·rename_i h4
     split at h
     ·rename_i h5
      have a:t.outs.any vS=false:=by simpa using h3
      exact⟨h1,λe=>h2 (.inl (by rw[e];rfl)),λe=>h2 (.inr (by rw[e];rfl)),h5,λx b=>by simpa using List.any_eq_false.1 a x b,by omega⟩
     ·cases h
 ·cases h
theorem zcH {t:TxD} {prev:List yE} (h:vz t prev=0):yF t=0:=by
 unfold vz at h
 split at h
 ·rename_i h1;exact h1
 ·exact h
theorem zh4 {S:List zr} (a:qV S) {q:zF} (h:xK S q=true):(⟨q,yg S q⟩:zr)∈S:=by
 obtain⟨c,d,e⟩:=JW.1 h
 have b:=YM a d
 rw[e] at b
 have:yg S q=c.out:=by unfold yg;rw[b];rfl
 rw[this,←e]
 exact d
theorem zcW {S:List zr} (a:qV S) {t:TxD} (h:(zW t).all (xK S)=true) {x:zr}:x∈jZ S t↔x∈S∧x.at_∈zW t:=by
 unfold jZ
 rw[mem_map]
 constructor
 ·rintro⟨q,b,rfl⟩
  exact⟨zh4 a (all_eq_true.1 h q b),b⟩
 ·rintro⟨c,d⟩
  refine⟨x.at_,d,?_⟩
  have:=YM a c
  have e:yg S x.at_=x.out:=by unfold yg;rw[this];rfl
  rw[e]
theorem zfr {S:List zr} (ok:∀c∈S,c.ok) {t:TxD} (d:∀x∈t.ins,x.from_.ok):∀c∈jZ S t,c.ok:=by
 intro c a
 obtain⟨q,b,rfl⟩:=mem_map.1 a
 obtain⟨x,e,rfl⟩:=mem_map.1 b
 exact⟨d x e,vH ok _⟩
theorem zj0 {S:List zr} (ok:∀c∈S,c.ok) (t:TxD):∀x∈JK S t,x.ok:=by
 intro x a
 obtain⟨q,_,rfl⟩:=mem_map.1 a
 exact vH ok q
theorem zeU {t:TxD} (a:∀x∈t.outs,x.ok) (b:t.outs.length≤1000):∀c∈qG t,c.ok:=Vt (vG t) a (by omega)
theorem zfo {S:List zr} {ps:List zF} (a:ps.Nodup) (b:ps.all (xK S)=true):Y5 S ps=0∧JD S ps=qg S ps:=by
 have e:Y5 S ps=0:=by unfold Y5;rw[if_pos a,if_pos b]
 exact⟨e,by unfold JD;rw[if_pos e]⟩
theorem zfd {S:List zr} (b:qV S) {t:TxD} (h:(zW t).all (xK S)=true) (i:(zW t).Nodup):jJ (qg S (zW t)) (jZ S t)=0∧JI (qg S (zW t)) (jZ S t)=S:=by
 have f:∀c∈jZ S t,xK (qg S (zW t)) c.at_=false:=λc k=>by
  rw[ZB]
  intro d l e
  have:=(Jr.1 l).2
  rw[e] at this
  exact this ((zcW b h).1 k).2
 have g:=zgh (by rw[zfq];exact i) f
 refine⟨g.1,?_⟩
 rw[g.2]
 refine qV.same (J0 (YA b) (by rw[zfq];exact i) f) b (λx=>?_)
 rw[qL,Jr,zcW b h]
 constructor
 ·rintro(⟨a,_⟩|⟨a,_⟩)<;>exact a
 ·intro j
  by_cases hp:x.at_∈zW t
  ·exact .inr ⟨j,hp⟩
  ·exact .inl ⟨j,hp⟩
theorem Vv {S l:List zr} (h:jJ S l=0):(l.map (·.at_)).Nodup∧∀c∈l,xK S c.at_=false:=by
 unfold jJ at h
 split at h
 ·rename_i h1
  split at h
  ·cases h
  ·rename_i h2
   refine⟨h1,λc b=>?_⟩
   have a:l.any (λc=>xK S c.at_)=false:=by simpa using h2
   simpa using List.any_eq_false.1 a c b
 ·cases h
theorem zdb {S l:List zr} (d:qV S) (h:jJ S l=0):JD (jR S l) (l.map (·.at_))=S:=by
 obtain⟨i,g⟩:=Vv h
 have k:(l.map (·.at_)).all (xK (jR S l))=true:=all_eq_true.2 λq n=>by
  obtain⟨c,f,rfl⟩:=mem_map.1 n
  exact JW.2 ⟨c,qL.2 (.inr f),rfl⟩
 rw[(zfo i k).2]
 refine qV.same (YA (J0 d i g)) d (λx=>?_)
 rw[Jr,qL]
 constructor
 ·rintro⟨a|a,b⟩
  ·exact a
  ·exact absurd (mem_map.2 ⟨x,a,rfl⟩) b
 ·intro j
  refine⟨.inl j,λm=>?_⟩
  obtain⟨c,f,e⟩:=mem_map.1 m
  exact(ZB.1 (g c f)) x j e.symm
theorem sp0 {S:List zr} {t:TxD} (h:spE S t=0):(zW t).all (xK S)=true∧vz t (JK S t)=0∧jJ (qg S (zW t)) (qG t)=0:=by
 unfold spE at h
 split at h
 ·rename_i h1
  split at h
  ·rename_i h2
   split at h
   ·rename_i h3
    exact⟨h1,h2,h3⟩
   ·cases h
  ·rename_i h2
   exact absurd h h2
 ·cases h
theorem zly {S:List zr} (c:qV S) (t:TxD):qV (spS S t):=by
 unfold spS
 split
 ·rename_i h
  obtain⟨_,_,d⟩:=sp0 h
  obtain⟨a,b⟩:=Vv d
  exact J0 (YA c) a b
 ·exact c
theorem zm0 {S:List zr} (ok:∀c∈S,c.ok) {t:TxD} (d:∀x∈t.outs,x.ok) (b:t.outs.length≤1000):∀c∈spS S t,c.ok:=by
 unfold spS
 split
 ·intro c a
  rcases qL.1 a with h|h
  ·exact ok c (Jr.1 h).1
  ·exact zeU d b c h
 ·exact ok
theorem zlx (S:List zr) (t:TxD):(spS S t).length≤S.length+t.outs.length:=by
 unfold spS
 split
 ·rw[(Zt _ _).length_eq,length_append,zaq]
  have:(qg S (zW t)).length≤S.length:=List.length_filter_le _ _
  omega
 ·omega
theorem zlz {S:List zr} (a:qV S) {t:TxD} (h:spE S t=0):JI (JD (spS S t) (spG S t).made) (spG S t).took=S:=by
 obtain⟨b,c,d⟩:=sp0 h
 have f:=JM (zcH c)
 have e:spS S t=jR (qg S (zW t)) (qG t):=by unfold spS;rw[if_pos h]
 rw[e]
 show JI (JD (jR (qg S (zW t)) (qG t)) ((qG t).map (·.at_))) (jZ S t)=S
 rw[zdb (YA a) d]
 exact(zfd a b f.2.2.2.1).2
structure StD where
 S:List zr
 ids:List zd
 chg:List YE
def txE (K:List zd) (s:StD) (t:TxD):Int:=if yF t=0 then(if idH t∈K∨idH t∈s.ids then 19 else spE s.S t) else yF t
def txS (s:StD) (t:TxD):StD:=⟨spS s.S t,s.ids++[idH t],s.chg++[spG s.S t]⟩
def runT (K:List zd):List TxD→StD→Int×StD
 |[],s=>(0,s)
 |t::l,s=>if txE K s t=0 then runT K l (txS s t) else(txE K s t,s)
theorem zav {K:List zd} {t:TxD} {l:List TxD} {s:StD} (h:txE K s t=0):runT K (t::l) s=runT K l (txS s t):=by
 rw[runT,if_pos h]
theorem Vz {K:List zd} {t:TxD} {l:List TxD} {s:StD} (h:txE K s t≠0):runT K (t::l) s=(txE K s t,s):=by
 rw[runT,if_neg h]
theorem tx0 {K:List zd} {s:StD} {t:TxD} (h:txE K s t=0):yF t=0∧idH t∉K∧idH t∉s.ids∧spE s.S t=0:=by
 unfold txE at h
 split at h
 ·rename_i h1
  split at h
  ·cases h
  ·rename_i h2
   exact⟨h1,λe=>h2 (.inl e),λe=>h2 (.inr e),h⟩
 ·rename_i h1
  exact absurd h h1
def st0 (S:List zr):StD:=⟨S,[],[]⟩
def doR (K:List zd) (S:List zr) (b:qA):DoR:=
 if(runT K b.txs (st0 S)).1=0 then
  (if jJ (runT K b.txs (st0 S)).2.S (vI b)=0 then⟨0,jR (runT K b.txs (st0 S)).2.S (vI b),⟨b,(runT K b.txs (st0 S)).2.ids,(runT K b.txs (st0 S)).2.chg++[⟨[],(vI b).map (·.at_)⟩]⟩⟩
   else⟨10,(runT K b.txs (st0 S)).2.S,⟨b,(runT K b.txs (st0 S)).2.ids,(runT K b.txs (st0 S)).2.chg⟩⟩)
 else⟨(runT K b.txs (st0 S)).1,(runT K b.txs (st0 S)).2.S,⟨b,(runT K b.txs (st0 S)).2.ids,(runT K b.txs (st0 S)).2.chg⟩⟩
structure zck (S0:List zr) (K:List zd) (n:Nat) (s:StD):Prop where
 srt:qV s.S
 ok:∀c∈s.S,c.ok
 len:s.S.length≤S0.length+8*n
 undo:xU s.chg s.S=S0
 il:s.ids.length=n
 cl:s.chg.length=n
 took:Jc s.chg≤16*n
 new:∀x∈s.ids,x∉K
 iok:∀x∈s.ids,zX x
theorem zce (l:List YE) (c:YE):Jc (l++[c])=Jc l+(c.took.length+c.made.length):=by simp[Jc]
theorem zcg (l:List YE) (c:YE) (S:List zr):xU (l++[c]) S=xU l (JI (JD S c.made) c.took):=by simp[xU,List.foldr_append]
theorem zck.start {S:List zr} (a:qV S) (ok:∀c∈S,c.ok) (K:List zd):zck S K 0 (st0 S):=
 ⟨a,ok,le_refl _,rfl,rfl,rfl,le_refl _,λx h=>(by cases h),λx h=>(by cases h)⟩
theorem zlZ {t:TxD} (h:qE t=true):t.ins.length≤8∧t.outs.length≤8:=⟨(y5.1 h).2.1,(y5.1 h).2.2⟩
theorem zck.step {e:List zr} {K:List zd} {n:Nat} {s:StD} (h:zck e K n s) {t:TxD} (k:∀x∈t.outs,x.ok) (f:txE K s t=0):zck e K (n+1) (txS s t):=by
 obtain⟨g,i,l,j⟩:=tx0 f
 have m:=zlZ (JM g).1
 refine⟨zly h.srt t,zm0 h.ok k (by omega),?_,?_,?_,?_,?_,?_,?_⟩
 ·have a:=zlx s.S t
  have b:=h.len
  show(spS s.S t).length≤_
  omega
 ·show xU (s.chg++[spG s.S t]) (spS s.S t)=e
  rw[zcg,zlz h.srt j]
  exact h.undo
 ·show(s.ids++[idH t]).length=_
  rw[length_append,h.il];rfl
 ·show(s.chg++[spG s.S t]).length=_
  rw[length_append,h.cl];rfl
 ·show Jc (s.chg++[spG s.S t])≤_
  rw[zce]
  have a:=h.took
  have b:(spG s.S t).took.length=t.ins.length:=Ju _ _
  have c:(spG s.S t).made.length=t.outs.length:=by show((qG t).map (·.at_)).length=_;rw[length_map,zaq]
  omega
 ·intro x d
  rcases mem_append.1 d with d|d
  ·exact h.new x d
  ·simp at d;subst d;exact i
 ·intro x d
  rcases mem_append.1 d with d|d
  ·exact h.iok x d
  ·simp at d;subst d;exact vG t
theorem zg5 {a:List zr} {K:List zd}:∀(l:List TxD) {n:Nat} {s:StD},zck a K n s→(∀t∈l,∀x∈t.outs,x.ok)→∃m,m≤n+l.length∧zck a K m (runT K l s).2
 |[],n,s,h,_=>⟨n,le_refl _,h⟩
 |t::l,n,s,h,ho=>by
  by_cases h0:txE K s t=0
  ·rw[zav h0]
   obtain⟨m,d,b⟩:=zg5 l (h.step (ho t (.head _)) h0) (λu c=>ho u (.tail _ c))
   exact⟨m,by simp only[length_cons];omega,b⟩
  ·rw[Vz h0]
   exact⟨n,by omega,h⟩
theorem zfS {K:List zd} {S:List zr} (e:qV S) (ok:∀c∈S,c.ok) {b:qA} (f:∀t∈b.txs,∀x∈t.outs,x.ok) (k:∀x∈b.pay,x.ok) (q:b.txs.length≤16) (i:b.pay.length≤8):
  qV (doR K S b).S∧(∀c∈(doR K S b).S,c.ok)∧(doR K S b).S.length≤S.length+136∧xU (doR K S b).d.chg (doR K S b).S=S∧(doR K S b).d.blk=b∧(doR K S b).d.ids.length≤16∧(doR K S b).d.chg.length≤17∧Jc (doR K S b).d.chg≤264∧(∀x∈(doR K S b).d.ids,x∉K)∧∀x∈(doR K S b).d.ids,zX x:=by
 obtain⟨m,r,h⟩:=zg5 b.txs (zck.start e ok K) f
 have j:m≤16:=by omega
 have l:=h.len
 have n:=h.il
 have o:=h.cl
 have p:=h.took
 unfold doR
 split
 ·split
  ·rename_i hz hput
   obtain⟨a,c⟩:=Vv hput
   refine⟨J0 h.srt a c,?_,?_,?_,rfl,?_,?_,?_,h.new,h.iok⟩
   ·intro x d
    rcases qL.1 d with d|d
    ·exact h.ok x d
    ·exact Vt (za2 b) k (by omega) x d
   ·show(jR _ _).length≤_
    rw[(Zt _ _).length_eq,length_append,zbU]
    omega
   ·show xU (_++[_]) (jR _ _)=S
    rw[zcg]
    show xU _ (JI (JD (jR _ _) ((vI b).map (·.at_))) [])=S
    rw[zdb h.srt hput]
    rw[show JI (runT K b.txs (st0 S)).2.S []=(runT K b.txs (st0 S)).2.S from(zgh (by simp) (λc g=>by cases g)).2]
    exact h.undo
   ·dsimp only
    omega
   ·dsimp only
    rw[length_append]
    simp
    omega
   ·dsimp only
    rw[zce]
    simp only[List.length_nil,length_map,zbU]
    omega
  ·exact⟨h.srt,h.ok,(by dsimp only;omega),h.undo,rfl,(by dsimp only;omega),(by dsimp only;omega),(by dsimp only;omega),h.new,h.iok⟩
 ·exact⟨h.srt,h.ok,(by dsimp only;omega),h.undo,rfl,(by dsimp only;omega),(by dsimp only;omega),(by dsimp only;omega),h.new,h.iok⟩
def vZ (K:List zd) (S:List zr) (bs:List yx) (b:qA):Int:=if 1024≤bs.length then 18 else if vD b=true then(if b.pay.any vS=true then 11 else(doR K S b).E) else 5
def Xh (K:List zd) (S:List zr) (bs:List yx) (b:qA):List zr:=if vZ K S bs b=0 then(doR K S b).S else S
def Yo (K:List zd) (S:List zr) (bs:List yx) (b:qA):List yx:=if vZ K S bs b=0 then bs++[(doR K S b).d] else bs
theorem zja {K:List zd} {S:List zr} {a:List yx} {b:qA} (h:vZ K S a b=0):a.length<1024∧vD b=true∧b.pay.any vS=false∧(doR K S b).E=0:=by
 unfold vZ at h
 split at h
 ·cases h
 ·split at h
  ·split at h
   ·cases h
   ·exact⟨by omega,‹_›,by simpa using ‹¬(b.pay.any vS=true)›,h⟩
  ·cases h
theorem znr {K:List zd} {S:List zr} {b:qA} (h:(doR K S b).E=0):(runT K b.txs (st0 S)).1=0∧jJ (runT K b.txs (st0 S)).2.S (vI b)=0∧(doR K S b).S=jR (runT K b.txs (st0 S)).2.S (vI b)∧(doR K S b).d=⟨b,(runT K b.txs (st0 S)).2.ids,(runT K b.txs (st0 S)).2.chg++[⟨[],(vI b).map (·.at_)⟩]⟩:=by
 unfold doR at h⊢
 split at h
 ·rename_i h1
  split at h
  ·rename_i h2
   rw[if_pos h1,if_pos h2]
   exact⟨h1,h2,rfl,rfl⟩
  ·cases h
 ·rename_i h1
  exact absurd h h1
def BOk (b:qA):Prop:=(∀t∈b.txs,(∀x∈t.ins,x.from_.ok)∧∀x∈t.outs,x.ok)∧∀x∈b.pay,x.ok
theorem vC.oks {w:World} {v:Value} {L:List TxD} (h:vC w v L):∀t∈L,(∀x∈t.ins,x.from_.ok)∧∀x∈t.outs,x.ok:=λt b=>by
 obtain⟨i,hi⟩:=List.mem_iff_getElem?.1 b
 obtain⟨_,_,_,_,_,_,a⟩:=h.at_ hi
 exact a.oks
theorem jB.oks {w:World} {b:qA} {cs:List Value} (h:jB w b cs):BOk b:=by
 obtain⟨_,_,_,_,_,_,a,c⟩:=h
 exact⟨c.oks,a.1⟩
def yd (bs:List yx):List zd:=bs.flatMap (·.ids)
theorem zbC (a:List yx) (d:yx):yd (a++[d])=yd a++d.ids:=by simp[yd]
inductive VY (S0:List zr):List yx→List zr→Prop
 |nil:VY S0 [] S0
 |snoc {bs:List yx} {S:List zr} {b:qA} (h:VY S0 bs S) (hb:BOk b) (hc:vZ (yd bs) S bs b=0):VY S0 (bs++[(doR (yd bs) S b).d]) (doR (yd bs) S b).S
theorem VY.last {g:List zr} {a:List yx} {d:yx} {S:List zr} (h:VY g (a++[d]) S):∃c,VY g a c∧BOk d.blk∧vZ (yd a) c a d.blk=0∧d=(doR (yd a) c d.blk).d∧S=(doR (yd a) c d.blk).S:=by
 generalize i:a++[d]=l at h
 cases h with
 |nil=>simp at i
 |@snoc bs' c b h hb hc=>
  obtain⟨j,f⟩:=List.append_inj' i rfl
  simp only[List.cons.injEq,and_true] at f
  subst j
  have e:d.blk=b:=by
   rw[f]
   rw[(znr (zja hc).2.2.2).2.2.2]
  exact⟨c,h,by rw[e];exact hb,by rw[e];exact hc,by rw[e];exact f,by rw[e]⟩
theorem XD {b:qA} (h:vD b=true):b.pay.length≤8∧b.txs.length≤16∧∀t∈b.txs,qE t=true:=by
 simp only[vD,Bool.and_eq_true,decide_eq_true_eq,all_eq_true] at h
 exact⟨h.1,h.2.1,h.2.2⟩
structure HOk (S0:List zr) (bs:List yx) (S:List zr):Prop where
 srt:qV S
 ok:∀c∈S,c.ok
 len:S.length≤S0.length+136*bs.length
 ds:∀d∈bs,d.ids.length≤16∧d.chg.length≤17∧Jc d.chg≤264∧(∀x∈d.ids,zX x)∧BOk d.blk∧vD d.blk=true
theorem VY.good {e:List zr} {f:List yx} {S:List zr} (h:VY e f S) (i:qV e) (ok:∀c∈e,c.ok):HOk e f S:=by
 induction h with
 |nil=>exact⟨i,ok,by simp,λd h=>by cases h⟩
 |@snoc f S b h hb hc ih=>
  obtain⟨v,k,w,x⟩:=zja hc
  obtain⟨r,s,y⟩:=XD k
  obtain⟨l,m,u,-,j,n,o,p,-,g⟩:=zfS (K:=yd f) ih.srt ih.ok (λt q=>(hb.1 t q).2) hb.2 s r
  refine⟨l,m,?_,λd a=>?_⟩
  ·have:=ih.len
   rw[length_append]
   simp only[length_cons,List.length_nil]
   omega
  ·rcases mem_append.1 a with a|a
   ·exact ih.ds d a
   ·simp at a
    subst a
    exact⟨n,o,p,g,by rw[j];exact hb,by rw[j];exact k⟩
theorem VY.undo {b:List zr} {a:List yx} {d:yx} {S:List zr} (h:VY b (a++[d]) S) (g:qV b) (ok:∀c∈b,c.ok):VY b a (xU d.chg S)∧vZ (yd a) (xU d.chg S) a d.blk=0∧d=(doR (yd a) (xU d.chg S) d.blk).d∧S=(doR (yd a) (xU d.chg S) d.blk).S∧BOk d.blk∧∀x∈d.ids,x∉yd a:=by
 obtain⟨n,k,f,l,e,j⟩:=h.last
 have m:=k.good g ok
 obtain⟨w,q,y,z⟩:=zja l
 obtain⟨u,v,A⟩:=XD q
 obtain⟨-,-,-,i,-,-,-,-,o,-⟩:=zfS (K:=yd a) m.srt m.ok (λt r=>(f.1 t r).2) f.2 v u
 have p:xU d.chg S=n:=by rw[←e,←j] at i;exact i
 rw[p]
 exact⟨k,l,e,j,f,λx s=>o x (by rw[←e];exact s)⟩
theorem zdC {c:List yx} {d:yx} (h:∀x∈d.ids,x∉yd c):∀x,x∈(yd (c++[d])).filter (λx=> !decide (x∈d.ids))↔x∈yd c:=λx=>by
 rw[zbC]
 simp only[List.mem_filter,mem_append,Bool.not_eq_true',decide_eq_false_iff_not]
 constructor
 ·rintro⟨a|a,b⟩
  ·exact a
  ·exact absurd a b
 ·intro a
  exact⟨.inl a,λe=>h x e a⟩
def cnt (S:List zr) (p:zF):Int:=if xK S p=true then 1 else 0
theorem zcA {l:List zF} (h:l.Nodup) (p:zF):(l.count p:Int)=if p∈l then 1 else 0:=by
 split
 ·rename_i hm
  have:=List.nodup_iff_count.1 h p
  have:=List.count_pos_iff.2 hm
  omega
 ·rename_i hm
  rw[List.count_eq_zero.2 hm];rfl
theorem zbA {S l:List zr} {p:zF}:xK (jR S l) p=true↔xK S p=true∨p∈l.map (·.at_):=by
 rw[JW,JW,mem_map]
 constructor
 ·rintro⟨c,a,e⟩
  rcases qL.1 a with h|h
  ·exact .inl ⟨c,h,e⟩
  ·exact .inr ⟨c,h,e⟩
 ·rintro(⟨c,a,e⟩|⟨c,a,e⟩)
  ·exact⟨c,qL.2 (.inl a),e⟩
  ·exact⟨c,qL.2 (.inr a),e⟩
theorem zai {S:List zr} {ps:List zF} {p:zF}:xK (qg S ps) p=true↔xK S p=true∧p∉ps:=by
 rw[JW,JW]
 constructor
 ·rintro⟨c,d,e⟩
  obtain⟨a,b⟩:=Jr.1 d
  exact⟨⟨c,a,e⟩,e▸b⟩
 ·rintro⟨⟨c,d,e⟩,h⟩
  exact⟨c,Jr.2 ⟨d,e▸h⟩,e⟩
theorem zgL {S l:List zr} (h:jJ S l=0) (p:zF):cnt (jR S l) p=cnt S p+((l.map (·.at_)).count p:Int):=by
 obtain⟨a,b⟩:=Vv h
 rw[zcA a]
 unfold cnt
 by_cases hp:p∈l.map (·.at_)
 ·have f:xK S p=false:=by
   obtain⟨c,d,rfl⟩:=mem_map.1 hp
   exact b c d
  rw[if_pos (zbA.2 (.inr hp)),f,if_pos hp]
  rfl
 ·by_cases hs:xK S p=true
  ·rw[if_pos (zbA.2 (.inl hs)),if_pos hs,if_neg hp];rfl
  ·rw[if_neg (λe=>(zbA.1 e).elim hs hp),if_neg hs,if_neg hp];rfl
theorem zi8 {S:List zr} {ps:List zF} (h:ps.all (xK S)=true) (a:ps.Nodup) (p:zF):cnt (qg S ps) p=cnt S p-(ps.count p:Int):=by
 rw[zcA a]
 unfold cnt
 by_cases hp:p∈ps
 ·rw[if_neg (λe=>(zai.1 e).2 hp),if_pos (all_eq_true.1 h p hp),if_pos hp];rfl
 ·by_cases hs:xK S p=true
  ·rw[if_pos (zai.2 ⟨hs,hp⟩),if_pos hs,if_neg hp];rfl
  ·rw[if_neg (λe=>hs (zai.1 e).1),if_neg hs,if_neg hp];rfl
theorem zmm {S:List zr} {t:TxD} (h:spE S t=0) (p:zF):cnt (spS S t) p=cnt S p-((zW t).count p:Int)+(((qG t).map (·.at_)).count p:Int):=by
 obtain⟨a,b,c⟩:=sp0 h
 have d:=JM (zcH b)
 have e:spS S t=jR (qg S (zW t)) (qG t):=by unfold spS;rw[if_pos h]
 rw[e,zgL c,zi8 a d.2.2.2.1]
theorem zgM {K:List zd} (p:zF):∀(l:List TxD) (s:StD),(runT K l s).1=0→cnt (runT K l s).2.S p=cnt s.S p-((l.flatMap zW).count p:Int)+((l.flatMap λt=>(qG t).map (·.at_)).count p:Int)
 |[],s,_=>by simp[runT]
 |t::l,s,h=>by
  by_cases h0:txE K s t=0
  ·rw[zav h0] at h⊢
   rw[zgM p l (txS s t) h]
   have:cnt (txS s t).S p=_:=zmm (tx0 h0).2.2.2 p
   rw[this]
   simp only[List.flatMap_cons,List.count_append]
   omega
  ·rw[Vz h0] at h
   exact absurd h h0
theorem zm1 {K:List zd} {S:List zr} {b:qA} (h:(doR K S b).E=0) (p:zF):cnt (doR K S b).S p=cnt S p-((b.txs.flatMap zW).count p:Int)+(((vI b).map (·.at_)++b.txs.flatMap λt=>(qG t).map (·.at_)).count p:Int):=by
 obtain⟨a,c,d,e⟩:=znr h
 rw[d,zgL c,zgM p _ _ a,List.count_append]
 show cnt S p-_+_+_=_
 omega
theorem again {K:List zd} {S:List zr} {b:qA} {t:TxD} {l:List TxD} (c:b.txs=t::l) (d:yF t=0) (e:idH t∈K):(doR K S b).E=19:=by
 have a:txE K (st0 S) t=19:=by unfold txE;rw[if_pos d,if_pos (.inl e)]
 unfold doR
 rw[c,Vz (by rw[a];decide),a,if_neg (show ¬((19:Int)=0) by decide)]
theorem zf6 {w:World} {B:Nat} {v:Value} {l:List zr} (h:w.ownsRow B 214 66 v l.length (l.flatMap yT)) (ok:∀x∈l,x.ok) {V:Nat→Prop} (a:∀j,v.ownBlock=some j→¬V j):Kept V w (λw=>q9 w v l):=
 λw' f=>⟨ok,(zb h f a).slice.arg⟩
def znl (w0 w:World) (s:Nat) (U:Nat→Prop) (S:List zr) (t:TxD) (e:Ending) (w':World):Prop:=
 ∃ta tn tc ma mn mc,e=.returned (.tuple #[.agg #[.slice ta tn tc,.slice ma mn mc],.int .i64 (spE S t)])∧CS w0 w' s U (spS S t)∧Fr U w w'∧(spE S t=0→∀V:Nat→Prop,(∀j,V j→j<w.heap.size)→Kept V w' (λw=>zdj w (spG S t) [.slice ta tn tc,.slice ma mn mc]))
theorem zgo {j w w':World} {s:Nat} {U:Nat→Prop} {S:List zr} {t:TxD} {E:Int} (h:spE S t=E) (a:E≠0) (k:CS j w' s U S) (f:Fr U w w') (d:Option Addr) (i g:Nat) (ma:Option Addr) (c b:Nat):znl j w s U S t (.returned (.tuple #[.agg #[.slice d i g,.slice ma c b],.int .i64 E])) w':=
 ⟨d,i,g,ma,c,b,by rw[h],by unfold spS;rw[if_neg (by rw[h];exact a)];exact k,f,λe=>absurd (h.symm.trans e) a⟩
theorem ze0 {a b:Value} (d:a.oneCell'=true) (e:b.oneCell'=true):∀u∈[a,b],u.oneCell'=true:=λu c=>by
 simp only[List.mem_cons,List.not_mem_nil,or_false] at c
 rcases c with rfl|rfl
 ·exact d
 ·exact e
def zmf (w2:World) (x:yE) (h:Bool) (s10 s11:Value) (wc:World):Prop:=
 ∃qo,s10=.pointer (some ⟨qo,0,none⟩)∧s11=.bool h∧w2.heap.size≤qo∧Fr No w2 wc∧wc.heap[qo]? =some (.cells (zJ x).toArray 103 (0,0))
def SpL (w1:World) (q6:Nat) (S:List zr) (t:TxD) (n:Nat) (pv:Value) (wr:World):Prop:=
 ∃tv,(∀q∈(zW t).take n,xK S q=true)∧wr.ownsRow w1.heap.size 103 33 pv n (((JK S t).take n).flatMap zJ)∧wr.heap[q6]? =some (.cells #[tv,.slice none 0 0] 250 (0,0))∧
  wr.ownsRow w1.heap.size 214 66 tv n (((jZ S t).take n).flatMap yT)∧(∀j,pv.ownBlock=some j→tv.ownBlock=some j→False)∧Fr (λj=>j=q6) w1 wr
theorem YU {α:Type} (f:α→List Value) {L:List α} {n:Nat} {x:α} (h:L[n]? =some x):(L.take (n+1)).flatMap f=(L.take n).flatMap f++f x:=by
 rw[take_add_one,h]
 simp
theorem ziw {w0 w:World} (hg:vj w) {p s:Nat} {bv mv:Value} {U:Nat→Prop} {S:List zr} (bT:w.heap[p]? =some (.cells #[.pointer (some ⟨s,0,none⟩),bv,mv] 167 (0,0))) (bU:¬U p) (hs:CS w0 w s U S) {t:TxD} {cs:List Value} (ht:Kept U w (λw=>TxQ w t cs)) (hc:yF t=0) (hN:S.length≤90000):
  Calls prog 134 #[.pointer (some ⟨p,0,none⟩),.agg cs.toArray] w (znl w0 w s U S t):=by
 obtain⟨ia,ic,oa,oc,rfl⟩:=ht.now.form
 obtain⟨c1,c2,c3,c4,-,-⟩:=JM hc
 have f8:=zlZ c1
 have ad:=J ht.now.oks
 obtain⟨dT,uT,rT⟩:=zdw
 obtain⟨dO,uO,rO⟩:=Z0
 obtain⟨dC,uC,rC⟩:=zbs
 obtain⟨dG,uG,rG⟩:=zgO
 have zG:=zhh
 have zP:=vO
 have zO:=xm
 have zC:=zcj
 have f1:Fr No w (w.alloc (.cells #[.int .u32 t.ver,.slice ia t.ins.length ic,.slice oa t.outs.length oc] 34)):=(frN w).alloc _
 have f2:Fr No (w.alloc (.cells #[.int .u32 t.ver,.slice ia t.ins.length ic,.slice oa t.outs.length oc] 34)) ((w.alloc (.cells #[.int .u32 t.ver,.slice ia t.ins.length ic,.slice oa t.outs.length oc] 34)).alloc (.cells #[.slice none 0 0,.slice none 0 0] 250)):=(frN _).alloc _
 have f3:Fr No ((w.alloc (.cells #[.int .u32 t.ver,.slice ia t.ins.length ic,.slice oa t.outs.length oc] 34)).alloc (.cells #[.slice none 0 0,.slice none 0 0] 250)) (((w.alloc (.cells #[.int .u32 t.ver,.slice ia t.ins.length ic,.slice oa t.outs.length oc] 34)).alloc (.cells #[.slice none 0 0,.slice none 0 0] 250)).alloc (.cells #[.slice none 0 0,.slice none 0 0] 250)):=(frN _).alloc _
 have R0:=J (za (za (qN w t.ver (.slice ia t.ins.length ic) (.slice oa t.outs.length oc)).2.2.2 f2 _root_.id) f3 _root_.id)
 have B4:=J (f3.obj (yL (w.alloc (.cells #[.int .u32 t.ver,.slice ia t.ins.length ic,.slice oa t.outs.length oc] 34)) (.cells #[.slice none 0 0,.slice none 0 0] 250) (n:=w.heap.size+1) (by simp)) _root_.id)
 have B6:=J (yL ((w.alloc (.cells #[.int .u32 t.ver,.slice ia t.ins.length ic,.slice oa t.outs.length oc] 34)).alloc (.cells #[.slice none 0 0,.slice none 0 0] 250)) (.cells #[.slice none 0 0,.slice none 0 0] 250) (n:=w.heap.size+1+1) (by simp))
 have Z3:=@J ((((w.alloc (.cells #[.int .u32 t.ver,.slice ia t.ins.length ic,.slice oa t.outs.length oc] 34)).alloc (.cells #[.slice none 0 0,.slice none 0 0] 250)).alloc (.cells #[.slice none 0 0,.slice none 0 0] 250)).heap.size=w.heap.size+3) (by simp)
 have F3:=J ((f1.trans0 f2).trans0 f3)
 have cp:=J (ht.same F3.o.of0)
 have cH:=J (vY _ cp.o.now (by omega))
 have bJ:=J ht
 have bI:=@J (∀w',Fr U w w'→TxQ w' t [.int .u32 t.ver,.slice ia t.ins.length ic,.slice oa t.outs.length oc]) (λw' f=>ht w' f)
 have aq:=J bT
 have aN:=J bU
 have HS:=J hs
 have HG:=J hg
 have HF:=J c1
 have bB:=J c4
 have c0:=f8.1
 have c5:=f8.2
 have aM:=J hN
 have UL:=J hs.hi
 have ax:=J (vJ t)
 clear f1 f2 f3 ht bT bU hs hg hc c1 c2 c3 c4 f8 hN
 show Calls prog 134 #[.pointer (some ⟨p,0,none⟩),.agg #[.int .u32 t.ver,.slice ia t.ins.length ic,.slice oa t.outs.length oc]] w _
 go_enter Tryz.func134,Tryz.ntmps134
 have⟨r,D⟩:=tZ2
 go_wp2_with ((first|((with_reducible refine zt ?_);clear r;refine zn1 rfl rfl rfl R0.o rfl ?_;generalize (((w.alloc (.cells #[.int .u32 t.ver,.slice ia t.ins.length ic,.slice oa t.outs.length oc] 34)).alloc (.cells #[.slice none 0 0,.slice none 0 0] 250)).alloc (.cells #[.slice none 0 0,.slice none 0 0] 250))=w3 at*)|(clear D;go_at_call 33;refine cH.o.mono ?_;rintro e Z ⟨c8,rfl,o4,f4⟩;have O4:=J o4;have F4:=J f4;obtain⟨c9,da,cR⟩:=o4.slice.arg.form;subst cR;clear o4 f4));go_frame)
 obtain⟨d,bb⟩:∃q,q=w.heap.size+1+1:=⟨_,rfl⟩
 rw[←bb] at B6⊢
 obtain⟨Y,ba⟩:∃q,q=w.heap.size+1:=⟨_,rfl⟩
 rw[←ba] at B4⊢
 have H:=J ba
 have Q6:=@J (d=w.heap.size+2) (bb)
 clear ba bb
 have ab:=J (F3.o.trans0 F4.o)
 have bW:=J (F4.o.obj B4.o _root_.id)
 have aa:=J (F4.o.obj B6.o _root_.id)
 have cI:=J (za R0.o F4.o _root_.id)
 go_loopw [7,22] (λpv iv wr=>∃n:Nat,iv=.int .i64 n∧n≤t.ins.length∧SpL Z d S t n pv wr) (λ_ iv _=>t.ins.length-(intOf iv).toNat)
 case atStart=>exact⟨0,rfl,zero_le _,.slice none 0 0,(λq hq=>by simp at hq),World.ownsRow_nil _ _ _ 33,aa.o,World.ownsRow_nil _ _ _ 66,(λj e=>by cases e),Fr.refl _ _⟩
 case round=>
  obtain⟨n,rfl,hn,tv,aC,bh,bP,bj,aD,fr⟩:=hrel
  have FR:=J fr
  have aE:=J aC
  have ai:=J bh
  have aI:=J bP
  have aV:=J bj
  have bt:=J aD
  obtain⟨pa,pc,cQ⟩:=bh.slice.arg.form
  subst cQ
  obtain⟨u,v,cT⟩:=bj.slice.arg.form
  subst cT
  have FW:=@J (Fr No w wr) (ab.o.trans fr (λj a e=>by have:=Q6.o;omega))
  have ah:=J (HS.o.fr0 FW.o)
  have aB:=J (FW.o.obj aq.o _root_.id)
  have aG:=J (fr.obj bW.o (λe=>by have:=H.o;have:=Q6.o;omega))
  have aw:=J (za cI.o fr (λe=>by have:=Q6.o;omega))
  clear aC bh bP bj aD fr
  by_cases hlt:n<t.ins.length
  ·have i1:(n:Int)<(t.ins.length:Int):=by omega
   obtain⟨q,E⟩:∃x,(zW t)[n]? =some x:=⟨_,getElem?_eq_getElem (by rw[ax.o];exact hlt)⟩
   have HX:=J E
   have aj:=@J (q.ok) (by
    obtain⟨x,cV,cW⟩:=mem_map.1 (mem_of_getElem? E)
    rw[←cW]
    exact ad.o.1 x cV)
   have o:=J (zY aj.o)
   obtain⟨g,cP,hv,hr,-⟩:=JB (f:=zn) (k:=33) (L:=zW t) (by decide) (λx E=>by
    obtain⟨y,bf,bg⟩:=mem_map.1 E
    rw[←bg]
    exact zY (ad.o.1 y bf)) (zb O4.o FR.o (λj a e=>by have:=(O4.o.lt j a).1;have:=Q6.o;have:=Z3.o;omega)) E
   cases hv
   have R1:=J hr
   have FA:=J ((frN wr).alloc (.cells (zn q).toArray 95))
   have RQ:=J (zy wr (zn q) 95)
   have QA:=@J ((wr.alloc (.cells (zn q).toArray 95)).heap.size=wr.heap.size+1) (by simp)
   have aY:=J (vH ah.o.ok q)
   have XL:=J (yr aY.o)
   clear E hr
   have⟨r,D⟩:=tZ2
   go_wp2_with ((first|((with_reducible refine zt ?_);clear r;refine zn4 rfl rfl rfl R1.o o.o ?_)|((with_reducible refine zv ?_);clear D;refine zoc (w:=wr) (cs:=zn q) rfl rfl rfl rfl o.o yI ?_;generalize wr.alloc (.cells (zn q).toArray 95)=wA at*));go_frame)
   have b8:=@J (wA.cell? ⟨p,0,none⟩=some (.pointer (some ⟨s,0,none⟩))) (by have:=zq (FA.o.obj aB.o _root_.id) 0 _ rfl;simpa using this)
   have ck:=J (ah.o.fr0 FA.o)
   go_cut [10,11] from 26 to 34 (λcX cY wc=>zmf wA (yg S q) (xK S q) cX cY wc)
   case first=>
    have FD:=J (frN wA).drew
    have F:=J (FD.o.cell b8.o _root_.id)
    have I:=J (za RQ.o FD.o _root_.id)
    have bH:=J (ck.o.fr0 FD.o)
    have ZD:=@J (wA.drew.heap.size=wA.heap.size) (rfl)
    refine jM 12 [0,1,2,3,4,5,6,7,8,9,10,11] (λw'=>w'.cell? ⟨p,0,none⟩=some (.pointer (some ⟨s,0,none⟩))∧w'.rangeAt wr.heap.size 0 (zn q)) (by kernel_rfl) (by kernel_rfl) (by kernel_rfl) (by kernel_rfl) ?_ (λK hK=>?_)
    ·exact⟨F.o,I.o⟩
    generalize wA.drew=w5 at*
    (((first|(refine yB 0 (by kernel_rfl) rfl rfl ?_;apply Exists.intro;refine⟨?_,?_⟩;(focus(first|exact zn6 rfl (λw h=>h.2) o.o|(intro w' hS;obtain⟨N,O⟩:=hS;go_simp;(try with_reducible rfl);done))))|(refine yC 0 (by kernel_rfl) rfl rfl ?_));try simp only[Act.put,pA,pB,pC]);((first|(refine yB 1 (by kernel_rfl) rfl rfl ?_;apply Exists.intro;refine⟨?_,?_⟩;(focus(first|exact zn6 rfl (λw h=>h.2) o.o|(intro w' hS;obtain⟨N,O⟩:=hS;go_simp;(try with_reducible rfl);done))))|(refine yC 1 (by kernel_rfl) rfl rfl ?_));try simp only[Act.put,pA,pB,pC]);((first|(refine yB 2 (by kernel_rfl) rfl rfl ?_;apply Exists.intro;refine⟨?_,?_⟩;(focus(first|exact zn6 rfl (λw h=>h.2) o.o|(intro w' hS;obtain⟨N,O⟩:=hS;go_simp;(try with_reducible rfl);done))))|(refine yC 2 (by kernel_rfl) rfl rfl ?_));try simp only[Act.put,pA,pB,pC]);((first|(refine yB 3 (by kernel_rfl) rfl rfl ?_;apply Exists.intro;refine⟨?_,?_⟩;(focus(first|exact zn6 rfl (λw h=>h.2) o.o|(intro w' hS;obtain⟨N,O⟩:=hS;go_simp;(try with_reducible rfl);done))))|(refine yC 3 (by kernel_rfl) rfl rfl ?_));try simp only[Act.put,pA,pB,pC]);((first|(refine yB 4 (by kernel_rfl) rfl rfl ?_;apply Exists.intro;refine⟨?_,?_⟩;(focus(first|exact zn6 rfl (λw h=>h.2) o.o|(intro w' hS;obtain⟨N,O⟩:=hS;go_simp;(try with_reducible rfl);done))))|(refine yC 4 (by kernel_rfl) rfl rfl ?_));try simp only[Act.put,pA,pB,pC]))
    refine ZI 5 9 (by kernel_rfl) rfl rfl rfl rfl (λK' hK'=>?_) (λK' hK'=>?_)
    ·go_simp
     refine(zf0 bH.o aj.o).mono ?_
     rintro e A ⟨rfl,f6⟩
     have F6:=J f6
     clear f6
     refine nXt hK' ?_ λhS=>?_
     ·exact⟨F6.o.cell F.o _root_.id,za I.o F6.o _root_.id⟩
     try simp only[Act.put,pA,pB,pC]
     (((first|(refine yB 6 (by kernel_rfl) rfl rfl ?_;apply Exists.intro;refine⟨?_,?_⟩;(focus(first|(intro w' hS;obtain⟨N,O⟩:=hS;go_simp;(try with_reducible rfl);done))))|(refine yC 6 (by kernel_rfl) rfl rfl ?_));try simp only[Act.put,pA,pB,pC]);((first|(refine yB 7 (by kernel_rfl) rfl rfl ?_;apply Exists.intro;refine⟨?_,?_⟩;(focus(first|(intro w' hS;obtain⟨N,O⟩:=hS;go_simp;(try with_reducible rfl);done))))|(refine yC 7 (by kernel_rfl) rfl rfl ?_));try simp only[Act.put,pA,pB,pC]);((first|(refine yB 8 (by kernel_rfl) rfl rfl ?_;apply Exists.intro;refine⟨?_,?_⟩;(focus(first|(intro w' hS;obtain⟨N,O⟩:=hS;go_simp;(try with_reducible rfl);done))))|(refine yC 8 (by kernel_rfl) rfl rfl ?_));try simp only[Act.put,pA,pB,pC]))
     refine y9 9 (by kernel_rfl) rfl rfl (λK' hK'=>?_)
     refine yj (yA rfl (xm _)) ?_
     have B:=J ((frN A).alloc (.cells (zJ y6).toArray 103))
     refine nXt hK' ?_ λhS=>?_
     ·exact⟨B.o.cell (F6.o.cell F.o _root_.id) _root_.id,za (za I.o F6.o _root_.id) B.o _root_.id⟩
     try simp only[Act.put,pA,pB,pC]
     refine y9 10 (by kernel_rfl) rfl rfl (λK' hK'=>?_)
     refine yN (zm (w:=A) (ty:=103) (cs:=zJ (yg S q)) rfl rfl rfl (by rw[XL.o];rfl) (by rw[XL.o];exact yz) yc) ?_
     have aK:=J ((frN A).alloc (.cells (zJ (yg S q)).toArray 103))
     refine nXt hK' ?_ λhS=>?_
     ·exact⟨aK.o.cell (F6.o.cell F.o _root_.id) _root_.id,za (za I.o F6.o _root_.id) aK.o _root_.id⟩
     try simp only[Act.put,pA,pB,pC]
     (((first|(refine yB 11 (by kernel_rfl) rfl rfl ?_;apply Exists.intro;refine⟨?_,?_⟩;(focus(first|(intro w' hS;obtain⟨N,O⟩:=hS;go_simp;(try with_reducible rfl);done))))|(refine yC 11 (by kernel_rfl) rfl rfl ?_));try simp only[Act.put,pA,pB,pC]))
     refine jd (hK.out _ _ ?_)
     go_wp2_with fail
     go_meet
     case rel=>exact⟨A.heap.size,rfl,rfl,by have:=F6.o.size;have:=ZD.o;omega,FD.o.trans0 (F6.o.trans0 aK.o),ye A (.cells (zJ (yg S q)).toArray 103)⟩
    ·refine yj (yA rfl (xm _)) ?_
     have B:=J ((frN w5).alloc (.cells (zJ y6).toArray 103))
     have B7:=J (ye w5 (.cells (zJ y6).toArray 103))
     generalize w5.alloc (.cells (zJ y6).toArray 103)=A at*
     generalize bc:w5.heap.size=qo at*
     refine nXt hK' ?_ λhS=>?_
     ·exact⟨B.o.cell F.o _root_.id,za I.o B.o _root_.id⟩
     try simp only[Act.put,pA,pB,pC]
     refine y9 5 (by kernel_rfl) rfl rfl (λK' hK'=>?_)
     go_simp
     refine(zf0 (bH.o.fr0 B.o) aj.o).mono ?_
     rintro e w7 ⟨rfl,f7⟩
     have aJ:=J (B.o.trans0 f7)
     have bo:=J (f7.obj B7.o _root_.id)
     clear f7
     refine nXt hK' ?_ λhS=>?_
     ·exact⟨aJ.o.cell F.o _root_.id,za I.o aJ.o _root_.id⟩
     try simp only[Act.put,pA,pB,pC]
     (((first|(refine yB 6 (by kernel_rfl) rfl rfl ?_;apply Exists.intro;refine⟨?_,?_⟩;(focus(first|(intro w' hS;obtain⟨N,O⟩:=hS;go_simp;(try with_reducible rfl);done))))|(refine yC 6 (by kernel_rfl) rfl rfl ?_));try simp only[Act.put,pA,pB,pC]);((first|(refine yB 7 (by kernel_rfl) rfl rfl ?_;apply Exists.intro;refine⟨?_,?_⟩;(focus(first|(intro w' hS;obtain⟨N,O⟩:=hS;go_simp;(try with_reducible rfl);done))))|(refine yC 7 (by kernel_rfl) rfl rfl ?_));try simp only[Act.put,pA,pB,pC]);((first|(refine yB 8 (by kernel_rfl) rfl rfl ?_;apply Exists.intro;refine⟨?_,?_⟩;(focus(first|(intro w' hS;obtain⟨N,O⟩:=hS;go_simp;(try with_reducible rfl);done))))|(refine yC 8 (by kernel_rfl) rfl rfl ?_));try simp only[Act.put,pA,pB,pC]))
     refine y9 10 (by kernel_rfl) rfl rfl (λK' hK'=>?_)
     refine yN (zK (ty:=103) (b:=qo) (off:=0) (cs:=zJ (yg S q)) rfl rfl rfl (by rw[XL.o];exact zV bo.o (Nat.le_of_eq yu.symm)) (by rw[XL.o];exact yz) yc) ?_
     have W:=@J (Fr No w5 (w7.setCells qo 0 (zJ (yg S q)))) (aJ.o.trans (zu _ _ _ _) (λi hi e=>by omega))
     refine nXt hK' ?_ λhS=>?_
     ·exact⟨W.o.cell F.o _root_.id,za I.o W.o _root_.id⟩
     try simp only[Act.put,pA,pB,pC]
     (((first|(refine yB 11 (by kernel_rfl) rfl rfl ?_;apply Exists.intro;refine⟨?_,?_⟩;(focus(first|(intro w' hS;obtain⟨N,O⟩:=hS;go_simp;(try with_reducible rfl);done))))|(refine yC 11 (by kernel_rfl) rfl rfl ?_));try simp only[Act.put,pA,pB,pC]))
     refine jd (hK.out _ _ ?_)
     go_wp2_with fail
     go_meet
     case rel=>exact⟨qo,rfl,rfl,by have:=ZD.o;omega,FD.o.trans0 W.o,ZL (cs:=zJ (yg S q)) bo.o (by rw[XL.o,yr Zm])⟩
   case rest=>
    rename World=>wc
    obtain⟨qo,rfl,rfl,bc,fc,bQ⟩:=hcut
    have FC:=J (FA.o.trans0 fc)
    have RO:=J (zq bQ)
    have cN:=J (za RQ.o fc _root_.id)
    have bq:=J (FC.o.obj aI.o _root_.id)
    have au:=J (zb ai.o FC.o (λ_ _=>_root_.id))
    have av:=J (zb aV.o FC.o (λ_ _=>_root_.id))
    have cm:=J (ah.o.fr0 FC.o)
    have BZ:=J (FC.o.obj aG.o _root_.id)
    have QO:=J bc
    clear fc bQ bc
    by_cases hq:xK S q=true
    rotate_left
    ·have c6:xK S q=false:=by simpa using hq
     have HE:=@J (spE S t=15) (by
      unfold spE
      rw[if_neg]
      intro h
      exact hq (all_eq_true.1 h q (mem_of_getElem? HX.o)))
     have R6:=J (zq bq.o)
     clear hq
     have⟨r,D⟩:=tZ2
     go_wp2_with ((first|((with_reducible refine zt ?_);clear r;refine zg rfl (zZ (ty:=250) rfl rfl R6.o uG rG vA) ?_)|((with_reducible refine zv ?_);clear D;refine zi rfl (zK (ty:=250) (b:=Y) (off:=0) (cs:=[.slice u n v,.slice none 0 0]) rfl rfl rfl (zV BZ.o (le_refl 2)) vA (ze0 rfl rfl)) ?_));go_frame)
     have fE:=zu Y [.slice u n v,.slice none 0 0] 0 wc
     refine bodyPost_ret (yk (P:=prog) (fn:=Tryz.f134) rfl _ rfl (yv BZ.o rfl) uG rG vA rfl) rfl (zgo HE.o (by decide) ((cm.o.frV fE (λj a e=>by have:=UL.o j a;have:=H.o;omega) (λj e=>by have:=HS.o.fr.size;have:=H.o;omega))) ((FW.o.trans0 FC.o).of0.trans fE (λj a e=>by have:=H.o;omega)) _ _ _ _ _ _)
    ·have cr:=@J ((JK S t)[n]? =some (yg S q)) (by simp[JK,HX.o])
     have ct:=@J ((jZ S t)[n]? =some ⟨q,yg S q⟩) (by simp[jZ,HX.o])
     have ao:=@J ((⟨q,yg S q⟩:zr).ok) (⟨aj.o,aY.o⟩)
     have CL:=J (jP ao.o)
     obtain⟨v5,w5,a1,a2,a3,-,a5⟩:=yX (P:=prog) wc Z.heap.size 22 22 103 33 40 _ qO Jz (by rw[←yu];rfl) (by decide) au.o (zJ (yg S q)) XL.o yc (by omega) (by unfold maxLen;omega) (by have:=FR.o.size;have:=FC.o.size;omega)
     obtain⟨Q,R,bd⟩:=a2.slice.arg.form
     subst bd
     have A1:=J a1
     have O5:=@J (w5.ownsRow Z.heap.size 103 33 (.slice Q (n+1) R) (n+1) (((JK S t).take (n+1)).flatMap zJ)) (by rw[YU zJ cr.o];exact a2)
     have NB:=@J (∀j,(Value.slice pa n pc).ownBlock=some j→Z.heap.size≤j∧j<wc.heap.size∧j≠d) (λj a=>⟨(au.o.lt j a).1,(au.o.lt j a).2,λe=>by have:=(au.o.lt j a).1;have:=yG aa.o;omega⟩)
     have NT:=@J (∀j,(Value.slice u n v).ownBlock=some j→Z.heap.size≤j∧j<wc.heap.size∧j≠d) (λj a=>⟨(av.o.lt j a).1,(av.o.lt j a).2,λe=>by have:=(av.o.lt j a).1;have:=yG aa.o;omega⟩)
     have F5:=J a3
     have bw:=@J (Fr (λj=>j=d) Z w5) ((FR.o.trans0 FC.o).trans a3 (λj a e=>by have:=(NB.o j e).1;omega))
     have bm:=J (a3.obj bq.o (λe=>(NB.o _ e).2.2 rfl))
     have cD:=J (zb av.o a3 (λj a e=>bt.o j e a))
     have cL:=J (za RO.o a3 (λe=>by
      have h1:=(ai.o.lt _ e).2
      have:=QO.o
      have:=QA.o
      omega))
     have cM:=J (za cN.o a3 (λe=>by
      have h1:wr.heap.size<wr.heap.size:=(ai.o.lt _ e).2
      omega))
     have az:=@J (∀j,(Value.slice Q (n+1) R).ownBlock=some j→(Value.slice u n v).ownBlock=some j→False) (λj h1 h2=>(a5 j h1).elim (λh=>bt.o j h h2) (λh=>by have:=(NT.o j h2).2.1;omega))
     clear a1 a2 a3 a5
     obtain⟨v6,A,b1,b2,b3,-,b5⟩:=yX (P:=prog) w5 Z.heap.size 145 145 214 66 80 _ VP zam (by show(yT zcz).toArray.size=66;rfl) (by decide) cD.o (yT ⟨q,yg S q⟩) CL.o Zo (by omega) (by unfold maxLen;omega) (by have:=bw.o.size;omega)
     obtain⟨al,an,cU⟩:=b2.slice.arg.form
     subst cU
     have B1:=J b1
     have O6:=@J (A.ownsRow Z.heap.size 214 66 (.slice al (n+1) an) (n+1) (((jZ S t).take (n+1)).flatMap yT)) (by rw[YU yT ct.o];exact b2)
     have ca:=@J (Fr (λj=>j=d) Z A) (bw.o.trans b3 (λj a e=>by have:=(NT.o j e).1;omega))
     have ae:=J (b3.obj bm.o (λe=>(NT.o _ e).2.2 rfl))
     have cy:=J (zb O5.o b3 (λj a e=>az.o j a e))
     have bu:=@J (∀j,(Value.slice Q (n+1) R).ownBlock=some j→(Value.slice al (n+1) an).ownBlock=some j→False) (λj h1 h2=>(b5 j h2).elim (λh=>az.o j h1 h) (λh=>by have:=(O5.o.lt j h1).2;omega))
     have cv:=@J (∀j,(Value.slice al (n+1) an).ownBlock=some j→j≠d) (λj a e=>by have:=(O6.o.lt j a).1;have:=yG aa.o;omega)
     have aR:=@J (∀j,(Value.slice Q (n+1) R).ownBlock=some j→j≠d) (λj a e=>by have:=(O5.o.lt j a).1;have:=yG aa.o;omega)
     have cA:w5.cell? ⟨d,0,none⟩=some (.slice u n v):=by have:=zq bm.o 0 _ rfl;simpa using this
     have cB:A.cell? ⟨d,0,none⟩=some (.slice u n v):=by have:=zq ae.o 0 _ rfl;simpa using this
     have fB:=yl (i:=0) ae.o
     have bY:=J (heap_setCell_same A d 0 _ _ (.slice al (n+1) an) ae.o)
     have fs:Fr (λj=>j=d) A (A.setCell ⟨d,0,none⟩ (.slice al (n+1) an)):=(Fr.refl (λj=>j=d) A).setCell ⟨d,0,none⟩ (.inr rfl) _
     have FS:=J fs
     have bk:=@J (∀y∈(zW t).take (n+1),xK S y=true) (λy hy=>by
      rw[take_add_one,HX.o] at hy
      rcases mem_append.1 hy with hy|hy
      ·exact aE.o y hy
      ·simp at hy;subst hy;exact hq)
     clear b1 b2 b3 b5 fs
     have⟨r,D,K2,K3,K4,K5,K6,K7⟩:=tZ8
     go_wp2_with (((with_reducible refine zt ?_);first|(clear r;refine zg rfl (zZ (ty:=103) rfl rfl RO.o uO rO (by rw[List.toList_toArray,XL.o];exact yz)) ?_)|(clear D;refine zg rfl (zU (t:=22) rfl rfl qO Jo (by rw[←yu];rfl) (by decide) (by decide) XL.o) ?_)|(clear K2;at_builtin;refine zR rfl rfl rfl rfl A1.o ?_)|(clear K3;refine zn4 rfl rfl rfl cM.o o.o ?_)|(clear K4;refine zg rfl (zZ (ty:=103) rfl rfl cL.o uO rO (by rw[List.toList_toArray,XL.o];exact yz)) ?_)|(clear K5;refine zg rfl (yP (t:=214) (vs:=[(0,.agg (zn q).toArray),(1,.agg (zJ (yg S q)).toArray)]) rfl rfl zbW (zdz aj.o aY.o) (zbS _ _) (by rw[CL.o])) ?_)|(clear K6;refine zg rfl (zU (t:=145) rfl rfl VP zf4 (by show(yT zcz).toArray.size=66;rfl) (by decide) (by decide) CL.o) ?_)|(clear K7;at_builtin;refine zR rfl rfl rfl rfl B1.o ?_));go_frame)
     go_roundw
     case rel=>exact⟨n+1,by go_num,by omega,_,bk.o,zb cy.o FS.o (λj a e=>aR.o j a e),bY.o,zb O6.o FS.o (λj a e=>cv.o j a e),bu.o,ca.o.trans FS.o (λ_ _ e=>e)⟩
     case measure=>simp[intOf];omega
  ·have a7:n=t.ins.length:=by omega
   subst a7
   clear hlt hn
   have i1:¬(t.ins.length:Int)<(t.ins.length:Int):=by omega
   have C:=@J ((zW t).all (xK S)=true) (all_eq_true.2 (λq hq=>aE.o q (by rw[←ax.o,take_length];exact hq)))
   have cz:=@J (wr.ownsRow Z.heap.size 103 33 (.slice pa t.ins.length pc) t.ins.length ((JK S t).flatMap zJ)) (by have:=ai.o;rw[←XU S t,take_length,XU S t] at this;exact this)
   have bN:=@J (wr.ownsRow Z.heap.size 214 66 (.slice u t.ins.length v) t.ins.length ((jZ S t).flatMap yT)) (by have:=aV.o;rw[←Ju S t,take_length,Ju S t] at this;exact this)
   have cq:=J (bJ.o.same FW.o.of0)
   have GR:=J (HG.o.keep0 FW.o)
   have cw:=@J (xy wr (.slice pa t.ins.length pc) (JK S t)) (⟨zj0 HS.o.ok t,by rw[XU];exact cz.o.slice.arg⟩)
   have bx:=J (Zp GR.o cq.o.now cw.o (by rw[XU];omega))
   have NT:=@J (∀j,(Value.slice u t.ins.length v).ownBlock=some j→Z.heap.size≤j∧j<wr.heap.size) (λj a=>bN.o.lt j a)
   have m:=@J (Y<d∧d<Z.heap.size∧w.heap.size<Y) (⟨by have:=H.o;have:=Q6.o;omega,yG aa.o,by have:=H.o;omega⟩)
   clear ai aV aE bJ
   by_cases hfe:vz t (JK S t)=0
   rotate_left
   ·have HE:=@J (spE S t=vz t (JK S t)) (by unfold spE;rw[if_pos C.o,if_neg hfe])
    have cd:=J hfe
    have e0:(vz t (JK S t)==0)=false:=by simpa using hfe
    have e1:(vz t (JK S t) !=0)=true:=by simpa using hfe
    clear hfe i1
    have⟨r,D,K2,K3⟩:=tZ4
    go_wp2_with ((first|((with_reducible refine zt ?_);first|(clear r;refine zn1 rfl rfl rfl aw.o rfl ?_)|(clear K2;refine zg rfl (zZ (ty:=250) rfl rfl R6.o uG rG vA) ?_))|(clear D;go_at_call 77;refine bx.o.mono ?_;rintro e w5 ⟨rfl,f5⟩;have F5:=J f5;have R6:=J (zq (f5.obj aI.o _root_.id));have BZ:=J (f5.obj aG.o _root_.id);clear f5)|((with_reducible refine zv ?_);clear K3;refine zi rfl (zK (ty:=250) (b:=Y) (off:=0) (cs:=[.slice u t.ins.length v,.slice none 0 0]) rfl rfl rfl (zV BZ.o (le_refl 2)) vA (ze0 rfl rfl)) ?_));go_frame)
    have fE:=zu Y [.slice u t.ins.length v,.slice none 0 0] 0 w5
    refine bodyPost_ret (yk (P:=prog) (fn:=Tryz.f134) rfl _ rfl (yv BZ.o rfl) uG rG vA rfl) rfl (zgo HE.o cd.o (((ah.o.fr0 F5.o).frV fE (λj a e=>by have:=UL.o j a;have:=H.o;omega) (λj e=>by have:=HS.o.fr.size;have:=H.o;omega))) ((FW.o.trans0 F5.o).of0.trans fE (λj a e=>by have:=H.o;omega)) _ _ _ _ _ _)
   ·have bA:=J hfe
    have e0:(vz t (JK S t)==0)=true:=by simpa using hfe
    have e1:(vz t (JK S t) !=0)=false:=by simpa using hfe
    clear hfe i1
    have ar:=J (zeU ad.o.2 (by omega))
    have ML:=J (zaq t)
    have b6:=J (λ(w':World) (f:Fr No w w')=>zhw (HG.o.keep0 f) (bI.o w' f.of0))
    have⟨r,D,K2,K3⟩:=tZ4
    go_wp2_with ((first|((with_reducible refine zt ?_);first|(clear r;refine zn1 rfl rfl rfl aw.o rfl ?_)|(clear K2;refine zn1 rfl rfl rfl cJ.o rfl ?_))|(clear D;go_at_call 77;refine bx.o.mono ?_;rintro e w5 ⟨rfl,f5⟩;have F5:=J f5;have cJ:=J (za aw.o f5 _root_.id);clear f5)|(clear K3;go_at_call 165;refine(b6.o w5 (FW.o.trans0 F5.o)).mono ?_;rintro e A ⟨mv,rfl,f6,hm⟩;rw[if_pos HF.o] at hm;obtain⟨ma,mc,a6⟩:=hm.slice.arg.form;subst a6;have F6:=J f6;have aT:=J hm;clear f6 hm));go_frame)
    have G:=J ((F5.o.trans0 F6.o).trans0 (frN A).drew)
    have bz:=J (FW.o.trans0 G.o)
    have ch:=J (ah.o.fr0 G.o)
    have bC:=J (G.o.obj aB.o _root_.id)
    have br:=@J (A.drew.cell? ⟨p,0,none⟩=some (.pointer (some ⟨s,0,none⟩))) (by have:=zq bC.o 0 _ rfl;simpa using this)
    have aX:=J (za aw.o G.o _root_.id)
    have ae:=J (G.o.obj aI.o _root_.id)
    have bX:=J (G.o.obj aG.o _root_.id)
    have bK:=J (zb aT.o (frN A).drew (λ_ _=>_root_.id))
    have cE:=J (zb bN.o G.o (λ_ _=>_root_.id))
    have cO:=J (bI.o A.drew bz.o.of0)
    refine wrLx [ff,ff,ff,ff,ff,tt,tt] (λw'=>w'.cell? ⟨p,0,none⟩=some (.pointer (some ⟨s,0,none⟩))∧w'.rangeAt w.heap.size 0 [.int .u32 t.ver,.slice ia t.ins.length ic,.slice oa t.outs.length oc]) ?_ (λK hK=>?_)
    ·exact⟨br.o,aX.o⟩
    generalize A.drew=z at*
    repeat((first|(refine zj rfl ?_;constructor;constructor;(focus(first|exact yK (ty:=34) rfl (λw h=>h.2) uT rT yZ|(rintro w' ⟨N,O⟩;go_simp;(try with_reducible rfl);done))))|(refine zl rfl ?_));try simp only[Act.put,pA,pB,pC])
    (refine zE rfl (λK' hK'=>?_))
    go_simp
    refine(vY z cO.o (by omega)).mono ?_
    rintro e w7 ⟨qv,rfl,o7,f7⟩
    have B:=J f7
    have cG:=@J (xN w7 qv (zW t)) (⟨λx E=>by
     obtain⟨y,bf,bg⟩:=mem_map.1 E
     rw[←bg]
     exact ad.o.1 y bf,by rw[ax.o];exact o7.slice.arg⟩)
    obtain⟨qa,qc,cS⟩:=o7.slice.arg.form
    subst cS
    clear f7 o7
    refine nXt hK' ?_ λhS=>?_
    ·exact⟨B.o.cell br.o _root_.id,za aX.o B.o _root_.id⟩
    try simp only[Act.put,pA,pB,pC]
    repeat((first|(refine zj rfl ?_;constructor;constructor;(focus(first|(rintro w' ⟨N,O⟩;go_simp;(try with_reducible rfl);done))))|(refine zl rfl ?_));try simp only[Act.put,pA,pB,pC])
    (refine zE rfl (λK' hK'=>?_))
    go_simp
    have TA:=J (zfo bB.o C.o)
    refine(zkk (ch.o.fr0 B.o) cG.o (by rw[ax.o];have:=aM.o;omega)).mono ?_
    rintro e w8 ⟨x8,rfl,-,aZ,f8⟩
    rw[TA.o.2] at aZ
    have cj:=J aZ
    have aL:=@J (Fr U w w8) ((bz.o.trans0 B.o).of0.trans f8 (λ_ _ e=>e))
    have X:=@J (∀j,w.heap.size≤j→¬U j) (λj a e=>by have:=UL.o j e;omega)
    have bD:=J (aL.o.obj aq.o aN.o)
    have bs:=@J (w8.cell? ⟨p,0,none⟩=some (.pointer (some ⟨s,0,none⟩))) (by have:=zq bD.o 0 _ rfl;simpa using this)
    have bn:=J (f8.obj (B.o.obj ae.o _root_.id) (X.o d (by have:=m.o;omega)))
    have bl:=J (f8.obj (B.o.obj bX.o _root_.id) (X.o Y (by have:=m.o;omega)))
    have bL:=J (zb (zb bK.o B.o (λ_ _=>_root_.id)) f8 (λj a=>X.o j (by have:=(aT.o.lt j a).1;have:=FW.o.size;have:=F5.o.size;omega)))
    have bM:=J (zb (zb cE.o B.o (λ_ _=>_root_.id)) f8 (λj a=>X.o j (by have:=(NT.o j a).1;have:=ab.o.size;omega)))
    have cK:=J (za (za aX.o B.o _root_.id) f8 (X.o _ (le_refl _)))
    clear aZ f8
    refine nXt hK' ?_ λhS=>?_
    ·exact⟨bs.o,cK.o⟩
    try simp only[Act.put,pA,pB,pC]
    refine zL (hK.out _ _ ?_)
    have b4:=@J (q9 w8 (.slice ma t.outs.length mc) (qG t)) (⟨ar.o,by rw[ML.o];exact bL.o.slice.arg⟩)
    have TL:=@J ((qg S (zW t)).length≤S.length) (List.length_filter_le _ _)
    have bO:=J (zg3 cj.o b4.o (by rw[ML.o];have:=TL.o;have:=aM.o;omega))
    have bR:=bs.o
    by_cases hpe:jJ (qg S (zW t)) (qG t)=0
    rotate_left
    ·have HE:=@J (spE S t=10) (by unfold spE;rw[if_pos C.o,if_pos bA.o,if_neg hpe])
     have j0:(jJ (qg S (zW t)) (qG t)==0)=false:=by simpa using hpe
     have j1:(jJ (qg S (zW t)) (qG t) !=0)=true:=by simpa using hpe
     have PS:=@J (JI (qg S (zW t)) (qG t)=qg S (zW t)) (by unfold JI;rw[if_neg hpe])
     have PB:=J (zfd HS.o.srt C.o bB.o)
     clear hpe
     have r:=tru
     go_wp2_with (clear r;go_at_call 135;refine bO.o.mono ?_;rintro e w9 ⟨rfl,M,f9⟩;rw[PS.o] at M;have aP:=J M;have W:=J f9;clear M f9;go_frame)
     clear bR
     have FD:=J (frN w9).drew
     have ag:=@J (Fr U w w9.drew) ((aL.o.trans W.o (λ_ _ e=>e)).trans0 FD.o)
     have bE:=J (ag.o.obj aq.o aN.o)
     have b7:=@J (w9.drew.cell? ⟨p,0,none⟩=some (.pointer (some ⟨s,0,none⟩))) (by have:=zq bE.o 0 _ rfl;simpa using this)
     have af:=J (FD.o.obj (W.o.obj bn.o (X.o d (by have:=m.o;omega))) _root_.id)
     have aF:=J (FD.o.obj (W.o.obj bl.o (X.o Y (by have:=m.o;omega))) _root_.id)
     have b0:=@J (w9.drew.cell? ⟨d,0,none⟩=some (.slice u t.ins.length v)) (by have:=zq af.o 0 _ rfl;simpa using this)
     have aU:=J (zb (zb bM.o W.o (λj a=>X.o j (by have:=(NT.o j a).1;have:=ab.o.size;omega))) FD.o (λ_ _=>_root_.id))
     have bG:=J (aP.o.fr0 FD.o)
     refine wrLx [ff,ff,ff,ff,ff,ff,tt] (λw'=>w'.cell? ⟨p,0,none⟩=some (.pointer (some ⟨s,0,none⟩))∧w'.cell? ⟨d,0,none⟩=some (.slice u t.ins.length v)) ?_ (λK hK=>?_)
     ·exact⟨b7.o,b0.o⟩
     generalize w9.drew=z9 at*
     repeat((first|(refine zj rfl ?_;constructor;constructor;(focus(first|(rintro w' ⟨N,O⟩;go_simp;(try with_reducible rfl);done))))|(refine zl rfl ?_));try simp only[Act.put,pA,pB,pC])
     (refine zE rfl (λK' hK'=>?_))
     go_simp
     refine(zg3 (l:=jZ S t) bG.o ⟨zfr HS.o.ok ad.o.1,by rw[Ju];exact aU.o.slice.arg⟩ (by rw[Ju];have:=TL.o;have:=aM.o;omega)).mono ?_
     rintro e bV ⟨rfl,ak,ay⟩
     rw[PB.o.2] at ak
     have bF:=J ak
     have aA:=@J (Fr U w bV) (ag.o.trans ay (λ_ _ e=>e))
     have bZ:=J (ay.obj af.o (X.o d (by have:=m.o;omega)))
     have BZ:=J (ay.obj aF.o (X.o Y (by have:=m.o;omega)))
     have R6:=J (zq bZ.o)
     clear ak ay
     refine nXt hK' ?_ λhS=>?_
     ·exact⟨by have:=zq (aA.o.obj aq.o aN.o) 0 _ rfl;simpa using this,by have:=R6.o 0 _ rfl;simpa using this⟩
     try simp only[Act.put,pA,pB,pC]
     refine zL (hK.out _ _ ?_)
     have⟨r,D⟩:=tZ2
     go_wp2_with ((first|((with_reducible refine zt ?_);clear r;refine zg rfl (zZ (ty:=250) rfl rfl R6.o uG rG vA) ?_)|((with_reducible refine zv ?_);clear D;refine zi rfl (zK (ty:=250) (b:=Y) (off:=0) (cs:=[.slice u t.ins.length v,.slice none 0 0]) rfl rfl rfl (zV BZ.o (le_refl 2)) vA (ze0 rfl rfl)) ?_));go_frame)
     have fE:=zu Y [.slice u t.ins.length v,.slice none 0 0] 0 bV
     refine bodyPost_ret (yk (P:=prog) (fn:=Tryz.f134) rfl _ rfl (yv BZ.o rfl) uG rG vA rfl) rfl (zgo HE.o (by decide) (bF.o.frV fE (λj a e=>by have:=UL.o j a;have:=H.o;omega) (λj e=>by have:=HS.o.fr.size;have:=H.o;omega)) (aA.o.trans fE (λj a e=>by have:=H.o;omega)) _ _ _ _ _ _)
    ·have cZ:=J hpe
     have HE:=@J (spE S t=0) (by unfold spE;rw[if_pos C.o,if_pos bA.o,if_pos hpe])
     have j0:(jJ (qg S (zW t)) (qG t)==0)=true:=by simpa using hpe
     have j1:(jJ (qg S (zW t)) (qG t) !=0)=false:=by simpa using hpe
     have PS:=@J (JI (qg S (zW t)) (qG t)=spS S t) (by unfold JI spS;rw[if_pos hpe,if_pos HE.o])
     clear hpe
     have r:=tru
     go_wp2_with (clear r;go_at_call 135;refine bO.o.mono ?_;rintro e w9 ⟨rfl,M,f9⟩;rw[PS.o] at M;have aP:=J M;have W:=J f9;clear M f9;go_frame)
     clear bR
     have ag:=@J (Fr U w w9) (aL.o.trans W.o (λ_ _ e=>e))
     have af:=J (W.o.obj bn.o (X.o d (by have:=m.o;omega)))
     have aF:=J (W.o.obj bl.o (X.o Y (by have:=m.o;omega)))
     have aU:=J (zb bM.o W.o (λj a=>X.o j (by have:=(NT.o j a).1;have:=ab.o.size;omega)))
     have NM:=@J (∀j,(Value.slice ma t.outs.length mc).ownBlock=some j→Z.heap.size≤j) (λj a=>by have:=(aT.o.lt j a).1;have:=FR.o.size;have:=F5.o.size;omega)
     have cx:=J (zb bL.o W.o (λj a=>X.o j (by have:=NM.o j a;have:=ab.o.size;omega)))
     have aQ:=J (yG af.o)
     go_loopw [91] (λiv wq=>∃(n:Nat) (mv:Value),iv=.int .i64 n∧n≤t.outs.length∧wq.heap[d]? =some (.cells #[.slice u t.ins.length v,mv] 250 (0,0))∧wq.ownsRow w9.heap.size 95 33 mv n ((((qG t).map (·.at_)).take n).flatMap zn)∧Fr (λj=>j=d) w9 wq) (λiv _=>t.outs.length-(intOf iv).toNat)
     case atStart=>exact⟨0,.slice none 0 0,rfl,zero_le _,af.o,World.ownsRow_nil _ _ _ 33,Fr.refl _ _⟩
     case round=>
      obtain⟨n,c7,rfl,hn,bS,a8,fr⟩:=hrel
      rename World=>wq
      have FQ:=J fr
      have BQ:=J bS
      have OR:=J a8
      obtain⟨na,nc,a6⟩:=a8.slice.arg.form
      subst a6
      clear fr bS a8
      by_cases hlt:n<t.outs.length
      ·have i1:(n:Int)<(t.outs.length:Int):=by omega
       obtain⟨c,E⟩:∃x,(qG t)[n]? =some x:=⟨_,getElem?_eq_getElem (by rw[ML.o];exact hlt)⟩
       have ao:=J (ar.o c (mem_of_getElem? E))
       have CL:=J (jP ao.o)
       have aW:=J (zY ao.o.1)
       obtain⟨g,cP,hv,hr,-⟩:=JB (f:=yT) (k:=66) (L:=qG t) (by decide) (λx E=>jP (ar.o x E)) (zb cx.o FQ.o (λj a e=>by have:=NM.o j a;have:=m.o;omega)) E
       cases hv
       have R1:=J hr
       have FB:=J ((frN wq).alloc (.cells (yT c).toArray 214))
       have RP:=J (zds (zy wq (yT c) 214))
       have cf:=@J (((qG t).map (·.at_))[n]? =some c.at_) (by simp[E])
       have bp:=J (FB.o.obj BQ.o _root_.id)
       obtain⟨v5,T,a1,a2,a3,a4,a5⟩:=yX (P:=prog) (wq.alloc (.cells (yT c).toArray 214)) w9.heap.size 91 91 95 33 36 _ YC QC (by show(zn xQ).toArray.size=33;rfl) (by decide) (zb OR.o FB.o (λ_ _=>_root_.id)) (zn c.at_) aW.o yI (by omega) (by unfold maxLen;omega) (Nat.le_trans FQ.o.size FB.o.size)
       have A1:=J a1
       have aS:=@J (T.ownsRow w9.heap.size 95 33 v5 (n+1) ((((qG t).map (·.at_)).take (n+1)).flatMap zn)) (by rw[YU zn cf.o];exact a2)
       have cu:=@J (∀j,(Value.slice na n nc).ownBlock=some j→j≠d) (λj a e=>by have:=(OR.o.lt j a).1;have:=aQ.o;omega)
       have aR:=@J (∀j,v5.ownBlock=some j→j≠d) (λj a e=>by have:=(aS.o.lt j a).1;have:=aQ.o;omega)
       have aH:=J (a3.obj bp.o (λe=>cu.o _ e rfl))
       have b9:=@J (Fr (λj=>j=d) w9 T) ((FQ.o.trans0 FB.o).trans a3 (λj a e=>by have:=(OR.o.lt j e).1;omega))
       have cA:(wq.alloc (.cells (yT c).toArray 214)).cell? ⟨d,1,none⟩=some (.slice na n nc):=by have:=zq bp.o 1 _ rfl;simpa using this
       have cB:T.cell? ⟨d,1,none⟩=some (.slice na n nc):=by have:=zq aH.o 1 _ rfl;simpa using this
       have fB:=yl (i:=1) aH.o
       clear hr a1 a2 a3 a4 a5
       obtain⟨Q,R,bd⟩:=aS.o.slice.arg.form
       subst bd
       have cg:=J (heap_setCell_same T d 1 _ _ (.slice Q (n+1) R) aH.o)
       have fs:Fr (λj=>j=d) T (T.setCell ⟨d,1,none⟩ (.slice Q (n+1) R)):=(Fr.refl (λj=>j=d) T).setCell ⟨d,1,none⟩ (.inr rfl) _
       have cb:=J (b9.o.trans fs (λ_ _ e=>e))
       have cC:=J (zb aS.o fs (λj a e=>aR.o j a e))
       clear fs
       have⟨r,D,K2,K3,K4⟩:=tZ5
       go_wp2_with ((first|((with_reducible refine zt ?_);first|(clear r;refine zg rfl (zZ (ty:=214) rfl rfl R1.o uC rC (by rw[CL.o];exact JX)) ?_)|(clear K2;refine zn4 rfl rfl rfl RP.o aW.o ?_)|(clear K3;refine zg rfl (zU (t:=91) rfl rfl YC zaL rfl (by decide) (by decide) aW.o) ?_)|(clear K4;at_builtin;refine zR rfl rfl rfl rfl A1.o ?_))|((with_reducible refine zv ?_);clear D;refine zi rfl (zm (w:=wq) (ty:=214) (cs:=yT c) rfl rfl rfl (by rw[CL.o];rfl) (by rw[CL.o];exact JX) Zo) ?_;generalize wq.alloc (.cells (yT c).toArray 214)=wA at*));go_frame)
       go_roundw
       case rel=>exact⟨n+1,_,by go_num,by omega,cg.o,cC.o,cb.o⟩
       case measure=>simp[intOf];omega
      ·have a7:n=t.outs.length:=by omega
       subst a7
       clear hlt hn
       have i1:¬(t.outs.length:Int)<(t.outs.length:Int):=by omega
       have aO:=@J (wq.ownsRow w9.heap.size 95 33 (.slice na t.outs.length nc) t.outs.length (((qG t).map (·.at_)).flatMap zn)) (by
        have:=OR.o
        rw[take_of_length_le (by rw[length_map,ML.o];exact le_refl _)] at this
        exact this)
       have R6:=J (zq BQ.o)
       have BZ:=J (FQ.o.obj aF.o (λe=>by have:=m.o;omega))
       have cF:=J (zb aU.o FQ.o (λj a e=>by have:=(NT.o j a).1;have:=m.o;omega))
       have cn:=J (aP.o.frV FQ.o (λj a e=>by have:=UL.o j a;have:=m.o;omega) (λj e=>by have:=HS.o.fr.size;have:=m.o;omega))
       have cc:=@J (Fr U w wq) (ag.o.trans FQ.o (λj a e=>by have:=m.o;omega))
       have⟨r,D⟩:=tZ2
       go_wp2_with ((first|((with_reducible refine zt ?_);clear r;refine zg rfl (zZ (ty:=250) rfl rfl R6.o uG rG vA) ?_)|((with_reducible refine zv ?_);clear D;refine zi rfl (zK (ty:=250) (b:=Y) (off:=0) (cs:=[.slice u t.ins.length v,.slice na t.outs.length nc]) rfl rfl rfl (zV BZ.o (le_refl 2)) vA (ze0 rfl rfl)) ?_));go_frame)
       have fE:=zu Y [.slice u t.ins.length v,.slice na t.outs.length nc] 0 wq
       have FE:=J fE
       refine bodyPost_ret (yk (P:=prog) (fn:=Tryz.f134) rfl _ rfl (yv BZ.o rfl) uG rG vA rfl) rfl ⟨u,t.ins.length,v,na,t.outs.length,nc,by rw[HE.o];rfl,cn.o.frV fE (λj a e=>by have:=UL.o j a;have:=H.o;omega) (λj e=>by have:=HS.o.fr.size;have:=H.o;omega),cc.o.trans fE (λj a e=>by have:=H.o;omega),λ_ V hV w' f=>?_⟩
       have k1:=zf6 (l:=jZ S t) (V:=V) (by rw[Ju];exact zb cF.o FE.o (λj a e=>by have:=(NT.o j a).1;have:=m.o;omega)) (zfr HS.o.ok ad.o.1) (λj a e=>by have:=hV j e;have:=(NT.o j a).1;have:=ab.o.size;omega) w' f
       have k2:=zaM (l:=(qG t).map (·.at_)) (V:=V) (by rw[length_map,ML.o];exact zb aO.o FE.o (λj a e=>by have:=(aO.o.lt j a).1;have:=aQ.o;have:=m.o;omega)) (λx E=>by
        obtain⟨y,hy,rfl⟩:=mem_map.1 E
        exact(ar.o y hy).1) (λj a e=>by have:=hV j e;have:=(aO.o.lt j a).1;have:=ag.o.size;omega) w' f
       refine⟨u,v,na,nc,?_,(by show q9 w' (.slice u (jZ S t).length v) (jZ S t);rw[Ju];exact k1),(by show xN w' (.slice na ((qG t).map (·.at_)).length nc) ((qG t).map (·.at_));rw[length_map,ML.o];exact k2)⟩
       show _=[Value.slice u (jZ S t).length v,Value.slice na ((qG t).map (·.at_)).length nc]
       rw[Ju,length_map,ML.o]
end Go.Proofs.YtdkkjchclkjleaaGreatDoor
