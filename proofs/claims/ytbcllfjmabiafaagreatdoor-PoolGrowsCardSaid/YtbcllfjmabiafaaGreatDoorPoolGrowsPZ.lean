/- PoolGrows: the row and its tied card. -/
import Derived.Test.YtbcllfjmabiafaaGreatDoorTie
import Derived.Test.YtbcllfjmabiafaaGreatDoorCards
import Derived.SevenTiedAt
import Derived.Test.YtbcllfjmabiafaaGreatDoorPG33
import Derived.Test.YtbcllfjmabiafaaGreatDoorPG10
set_option linter.unusedVariables false
set_option linter.unusedSimpArgs false
set_option linter.unnecessarySimpa false
set_option linter.all false
set_option maxRecDepth 20000
set_option maxHeartbeats 16000000
namespace Go.Proofs.YtbcllfjmabiafaaGreatDoor.poolGrows
open Go.Proofs.Tryz(prog)
open Go Go.ChangeShapes Go.WideShapes Go.ChangeAt Go.RowKit
set_option maxRecDepth 100000 in
theorem lifted (os:Os) (started:os.Started) (H:Type) (enc:TypeId×Value→H):
  ReturnsInHanded {} Tryz.checked os 8 .any (λw args=>(Rows.poolGrowsSpec.pre enc prog Tryz.f8 [] false w args∧laidMetH prog jK w)∧sizedMet enc prog Tryz.f8 (OpenSpec.ofChange Rows.poolGrowsSpec) false w args)
   (Rows.poolGrowsSpec.post enc prog Tryz.f8 false true false false):=by
 refine returnsInHanded_of_change_and (C:=Tryz.checked) (X:=λw _=>laidMetH prog jK w) (λ_ _ _ O h=>h.of_heap O) own started (by kernel_rfl) Tryz.func8
  (ChangeSpec.witness_shaped (enc:=enc) (C:=Tryz.checked) (os:=os) (X:=λw _=>laidMetH prog jK w) false (World.doorLaid prog 400 os) #[.slice none 0 0,.slice none 0 0,.int .u64 0] 8 rfl (World.shaped_of_RefB (by kernel_rfl) (by kernel_rfl)) (by kernel_rfl) (by kernel_rfl) (by kernel_rfl) (ZI os _)) ?_
 intro W base args x gs before b n _ _ I _
 have a:∀(j:Nat) t v,Tryz.f8.params[j]? =some t→args[j]? =some v→Value.okWide prog W .any base t v:=b
 have g:=n
 obtain⟨p,q,c,K,rfl,M,P⟩:=n
 have m:DataW.TrodAll enc prog W 0 (λ_=>true) true Tryz.f8.params.toList args.toList x p:=c
 rw[Tryz.params8] at m a
 obtain⟨o,T,d0,y,p0,q0,i,rfl,rfl,E,Q⟩:=trodAll_cons m
 obtain⟨r,U,d1,z,p1,q1,rfl,rfl,rfl,F,R⟩:=trodAll_cons Q
 obtain⟨s,V,d2,A,p2,q2,rfl,rfl,rfl,G,S⟩:=trodAll_cons R
 obtain⟨rfl,rfl,rfl⟩:=trodAll_nil S
 obtain rfl:args= #[o,r,s]:=by cases args;simp_all
 obtain⟨rfl,rfl⟩:=trodVars_none K
 obtain⟨_,_,_,rfl⟩:=okWide_slice Tryz.underlying22 (a 0 22 o rfl rfl)
 obtain⟨_,k⟩:=E
 obtain⟨Z,d⟩:=jW k
 obtain⟨_,_,_,rfl⟩:=okWide_slice Tryz.underlying23 (a 1 23 r rfl rfl)
 obtain⟨_,l⟩:=F
 obtain⟨L1,f⟩:=jN l
 obtain⟨z2,rfl,-,-,Y⟩:=open_int Tryz.underlying42 (a 2 42 s rfl rfl) G
 have u2:0≤z2∧z2≤18446744073709551615:=by
  have B:IntKind.u64.min=0:=rfl
  have D:IntKind.u64.max=18446744073709551615:=rfl
  simp[Lit.wf,B,D] at Y
  omega
 obtain⟨u,rfl⟩:=Int.eq_ofNat_of_zero_le u2.1
 refine(zh8 (Y9 I) d f (now:=u) (by omega)).mono λe W' ⟨L,N⟩=>?_
 subst L
 exact⟨_,rfl,Jr laid (by decide+kernel) rfl g N (λ_ _ _=>(trodAll_cons_mk (shut_bool Tryz.underlying4 _) trodAll_mk0)) rfl rfl⟩
theorem over:Rows.PoolGrowsSaid:=
 OpenClaim.holds_of_wide 8 Tryz.f8 rfl rfl rfl rfl rfl rfl rfl ⟨rfl,rfl,rfl,rfl,rfl⟩ rfl rfl rfl rfl rfl (by kernel_rfl) Tryz.func8 (by kernel_rfl)
  (of_decide_eq_true (by kernel_rfl)) (by unfold Func.isWrapper;first|(rw[if_pos (by decide+kernel)];kernel_rfl)|(rw[if_neg (by decide+kernel)];exact⟨rfl,rfl⟩))
  (λos started H enc _=>lifted os started H enc)
theorem proved:Rows.PoolGrowsCardSaid:=
 Claim7.holds_tied_plain_at .later [] [.data,.data] true (true, "f97627da813a636bed0a7427c56996a732cfbc1836b45a65846d8f7ce1570b1e") false
  over (λ_ h=>by cases h) (by kernel_rfl) (λ_ h=>by cases h) poolGrows_row_tie rfl ⟨rfl,rfl⟩ (by kernel_rfl) rfl
  (λf fn d b=>by
   obtain rfl:f=8:=Option.some.inj ((show prog.funcNamed "pappus/pappuslaw13.PoolGrows" =some 8 by kernel_rfl).symm.trans d)|>.symm
   obtain rfl:fn=Tryz.f8:=(Option.some.inj (Tryz.func8.symm.trans b)).symm
   exact⟨by kernel_rfl,λj t c=>by
    rw[Tryz.params8] at c
    have e:t∈[22,23,42]:=by simpa using Array.mem_of_getElem? c
    have a:([22,23,42].all λu=> !prog.wantsStandIn u)=true:=by kernel_rfl
    exact(show prog.wantsStandIn t=false by simpa using List.all_eq_true.1 a t e)⟩)
  (by kernel_rfl)
#print axioms proved
end Go.Proofs.YtbcllfjmabiafaaGreatDoor.poolGrows
