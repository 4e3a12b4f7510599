/- PoolRefuses: the row and its tied card. -/
import Derived.Test.YtbcllfjmabiafaaGreatDoorTie
import Derived.Test.YtbcllfjmabiafaaGreatDoorCards
import Derived.SevenTiedAt
import Derived.Test.YtbcllfjmabiafaaGreatDoorPG36
import Derived.Test.YtbcllfjmabiafaaGreatDoorPG10
import Derived.Test.YtbcllfjmabiafaaGreatDoorPG27
set_option linter.unusedVariables false
set_option linter.unusedSimpArgs false
set_option linter.unnecessarySimpa false
set_option linter.all false
set_option maxRecDepth 20000
set_option maxHeartbeats 16000000
namespace Go.Proofs.YtbcllfjmabiafaaGreatDoor.poolRefuses
open Go.Proofs.Tryz(prog)
open Go Go.ChangeShapes Go.WideShapes Go.ChangeAt Go.RowKit
set_option maxRecDepth 100000 in
theorem lifted (os:Os) (started:os.Started) (H:Type) (enc:TypeId×Value→H):
  ReturnsInHanded {} Tryz.checked os 3 .any (λw args=>(Rows.poolRefusesSpec.pre enc prog Tryz.f3 [] false w args∧laidMetH prog jK w)∧sizedMet enc prog Tryz.f3 (OpenSpec.ofChange Rows.poolRefusesSpec) false w args)
   (Rows.poolRefusesSpec.post enc prog Tryz.f3 false true false false):=by
 refine returnsInHanded_of_change_and (C:=Tryz.checked) (X:=λw _=>laidMetH prog jK w) (λ_ _ _ N h=>h.of_heap N) own started (by kernel_rfl) Tryz.func3
  (ChangeSpec.witness_shaped (enc:=enc) (C:=Tryz.checked) (os:=os) (X:=λw _=>laidMetH prog jK w) false (World.doorLaid prog 400 os) #[.slice none 0 0,.slice none 0 0,.agg #[.int .u32 0,.slice none 0 0,.slice none 0 0]] 8 rfl (World.shaped_of_RefB (by kernel_rfl) (by kernel_rfl)) (by kernel_rfl) (by kernel_rfl) (by kernel_rfl) (ZI os _)) ?_
 intro W base args y gs before b o _ _ G _
 have a:∀(j:Nat) t v,Tryz.f3.params[j]? =some t→args[j]? =some v→Value.okWide prog W .any base t v:=b
 have i:=o
 obtain⟨p,q,c,I,rfl,L,O⟩:=o
 have n:DataW.TrodAll enc prog W 0 (λ_=>true) true Tryz.f3.params.toList args.toList y p:=c
 rw[Tryz.params3] at n a
 obtain⟨r,S,d0,z,p0,q0,k,rfl,rfl,D,P⟩:=trodAll_cons n
 obtain⟨s,T,d1,A,p1,q1,rfl,rfl,rfl,E,Q⟩:=trodAll_cons P
 obtain⟨u,U,d2,B,p2,q2,rfl,rfl,rfl,F,R⟩:=trodAll_cons Q
 obtain⟨rfl,rfl,rfl⟩:=trodAll_nil R
 obtain rfl:args= #[r,s,u]:=by cases args;simp_all
 obtain⟨rfl,rfl⟩:=trodVars_none I
 obtain⟨_,_,_,rfl⟩:=okWide_slice Tryz.underlying22 (a 0 22 r rfl rfl)
 obtain⟨_,l⟩:=D
 obtain⟨V,f⟩:=jW l
 obtain⟨_,_,_,rfl⟩:=okWide_slice Tryz.underlying23 (a 1 23 s rfl rfl)
 obtain⟨_,m⟩:=E
 obtain⟨Y,g⟩:=jN m
 obtain⟨B2,x,d,rfl⟩:=zk7 (a 2 27 u rfl rfl) F
 refine(zfv (Y9 G) f g d).mono λe Z ⟨K,M⟩=>?_
 subst K
 exact⟨_,rfl,Jr laid (by decide+kernel) rfl i M (λ_ _ _=>(trodAll_cons_mk (shut_bool Tryz.underlying4 _) trodAll_mk0)) rfl rfl⟩
theorem over:Rows.PoolRefusesSaid:=
 OpenClaim.holds_of_wide 3 Tryz.f3 rfl rfl rfl rfl rfl rfl rfl ⟨rfl,rfl,rfl,rfl,rfl⟩ rfl rfl rfl rfl rfl (by kernel_rfl) Tryz.func3 (by kernel_rfl)
  (of_decide_eq_true (by kernel_rfl)) (by unfold Func.isWrapper;first|(rw[if_pos (by decide+kernel)];kernel_rfl)|(rw[if_neg (by decide+kernel)];exact⟨rfl,rfl⟩))
  (λos started H enc _=>lifted os started H enc)
theorem proved:Rows.PoolRefusesCardSaid:=
 Claim7.holds_tied_plain_at .later [] [.data,.data] true (true, "f97627da813a636bed0a7427c56996a732cfbc1836b45a65846d8f7ce1570b1e") false
  over (λ_ h=>by cases h) (by kernel_rfl) (λ_ h=>by cases h) poolRefuses_row_tie rfl ⟨rfl,rfl⟩ (by kernel_rfl) rfl
  (λf fn d b=>by
   obtain rfl:f=3:=Option.some.inj ((show prog.funcNamed "pappus/pappuslaw13.PoolRefuses" =some 3 by kernel_rfl).symm.trans d)|>.symm
   obtain rfl:fn=Tryz.f3:=(Option.some.inj (Tryz.func3.symm.trans b)).symm
   exact⟨by kernel_rfl,λj t c=>by
    rw[Tryz.params3] at c
    have e:t∈[22,23,27]:=by simpa using Array.mem_of_getElem? c
    have a:([22,23,27].all λu=> !prog.wantsStandIn u)=true:=by kernel_rfl
    exact(show prog.wantsStandIn t=false by simpa using List.all_eq_true.1 a t e)⟩)
  (by kernel_rfl)
#print axioms proved
end Go.Proofs.YtbcllfjmabiafaaGreatDoor.poolRefuses
