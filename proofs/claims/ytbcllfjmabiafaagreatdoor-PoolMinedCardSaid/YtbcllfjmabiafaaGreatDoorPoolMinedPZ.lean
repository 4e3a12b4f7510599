/- PoolMined: the row and its tied card. -/
import Derived.Test.YtbcllfjmabiafaaGreatDoorTie
import Derived.Test.YtbcllfjmabiafaaGreatDoorCards
import Derived.SevenTiedAt
import Derived.Test.YtbcllfjmabiafaaGreatDoorPG34
import Derived.Test.YtbcllfjmabiafaaGreatDoorPG10
set_option linter.unusedVariables false
set_option linter.unusedSimpArgs false
set_option linter.unnecessarySimpa false
set_option linter.all false
set_option maxRecDepth 20000
set_option maxHeartbeats 16000000
namespace Go.Proofs.YtbcllfjmabiafaaGreatDoor.poolMined
open Go.Proofs.Tryz(prog)
open Go Go.ChangeShapes Go.WideShapes Go.ChangeAt Go.RowKit
set_option maxRecDepth 100000 in
theorem lifted (os:Os) (started:os.Started) (H:Type) (enc:TypeId×Value→H):
  ReturnsInHanded {} Tryz.checked os 4 .any (λw args=>(Rows.poolMinedSpec.pre enc prog Tryz.f4 [] false w args∧laidMetH prog jK w)∧sizedMet enc prog Tryz.f4 (OpenSpec.ofChange Rows.poolMinedSpec) false w args)
   (Rows.poolMinedSpec.post enc prog Tryz.f4 false true false false):=by
 refine returnsInHanded_of_change_and (C:=Tryz.checked) (X:=λw _=>laidMetH prog jK w) (λ_ _ _ P h=>h.of_heap P) own started (by kernel_rfl) Tryz.func4
  (ChangeSpec.witness_shaped (enc:=enc) (C:=Tryz.checked) (os:=os) (X:=λw _=>laidMetH prog jK w) false (World.doorLaid prog 400 os) #[.slice none 0 0,.slice none 0 0,.int .u8 0] 8 rfl (World.shaped_of_RefB (by kernel_rfl) (by kernel_rfl)) (by kernel_rfl) (by kernel_rfl) (by kernel_rfl) (ZI os _)) ?_
 intro W base args y gs before b o _ _ K _
 have a:∀(j:Nat) t v,Tryz.f4.params[j]? =some t→args[j]? =some v→Value.okWide prog W .any base t v:=b
 have g:=o
 obtain⟨p,q,c,L,rfl,N,Q⟩:=o
 have m:DataW.TrodAll enc prog W 0 (λ_=>true) true Tryz.f4.params.toList args.toList y p:=c
 rw[Tryz.params4] at m a
 obtain⟨r,U,d0,z,p0,q0,i,rfl,rfl,F,R⟩:=trodAll_cons m
 obtain⟨s,V,d1,A,p1,q1,rfl,rfl,rfl,G,S⟩:=trodAll_cons R
 obtain⟨u,Y,d2,B,p2,q2,rfl,rfl,rfl,I,T⟩:=trodAll_cons S
 obtain⟨rfl,rfl,rfl⟩:=trodAll_nil T
 obtain rfl:args= #[r,s,u]:=by cases args;simp_all
 obtain⟨rfl,rfl⟩:=trodVars_none L
 obtain⟨_,_,_,rfl⟩:=okWide_slice Tryz.underlying22 (a 0 22 r rfl rfl)
 obtain⟨_,k⟩:=F
 obtain⟨L0,d⟩:=jW k
 obtain⟨_,_,_,rfl⟩:=okWide_slice Tryz.underlying23 (a 1 23 s rfl rfl)
 obtain⟨_,l⟩:=G
 obtain⟨L1,f⟩:=jN l
 obtain⟨z2,rfl,-,-,Z⟩:=open_int Tryz.underlying5 (a 2 5 u rfl rfl) I
 have u2:0≤z2∧z2≤255:=by
  have D:IntKind.u8.min=0:=rfl
  have E:IntKind.u8.max=255:=rfl
  simp[Lit.wf,D,E] at Z
  omega
 obtain⟨x,rfl⟩:=Int.eq_ofNat_of_zero_le u2.1
 refine(zin (Y9 K) d f (n:=x) (by omega)).mono λe W' ⟨M,O⟩=>?_
 subst M
 exact⟨_,rfl,Jr laid (by decide+kernel) rfl g O (λ_ _ _=>(trodAll_cons_mk (shut_bool Tryz.underlying4 _) trodAll_mk0)) rfl rfl⟩
theorem over:Rows.PoolMinedSaid:=
 OpenClaim.holds_of_wide 4 Tryz.f4 rfl rfl rfl rfl rfl rfl rfl ⟨rfl,rfl,rfl,rfl,rfl⟩ rfl rfl rfl rfl rfl (by kernel_rfl) Tryz.func4 (by kernel_rfl)
  (of_decide_eq_true (by kernel_rfl)) (by unfold Func.isWrapper;first|(rw[if_pos (by decide+kernel)];kernel_rfl)|(rw[if_neg (by decide+kernel)];exact⟨rfl,rfl⟩))
  (λos started H enc _=>lifted os started H enc)
theorem proved:Rows.PoolMinedCardSaid:=
 Claim7.holds_tied_plain_at .later [] [.data,.data] true (true, "f97627da813a636bed0a7427c56996a732cfbc1836b45a65846d8f7ce1570b1e") false
  over (λ_ h=>by cases h) (by kernel_rfl) (λ_ h=>by cases h) poolMined_row_tie rfl ⟨rfl,rfl⟩ (by kernel_rfl) rfl
  (λf fn d b=>by
   obtain rfl:f=4:=Option.some.inj ((show prog.funcNamed "pappus/pappuslaw13.PoolMined" =some 4 by kernel_rfl).symm.trans d)|>.symm
   obtain rfl:fn=Tryz.f4:=(Option.some.inj (Tryz.func4.symm.trans b)).symm
   exact⟨by kernel_rfl,λj t c=>by
    rw[Tryz.params4] at c
    have e:t∈[22,23,5]:=by simpa using Array.mem_of_getElem? c
    have a:([22,23,5].all λu=> !prog.wantsStandIn u)=true:=by kernel_rfl
    exact(show prog.wantsStandIn t=false by simpa using List.all_eq_true.1 a t e)⟩)
  (by kernel_rfl)
#print axioms proved
end Go.Proofs.YtbcllfjmabiafaaGreatDoor.poolMined
