/- StemKeeps: the row and its tied card. -/
import Derived.Test.YtdkkjchclkjleaaGreatDoorTie
import Derived.Test.YtdkkjchclkjleaaGreatDoorCards
import Derived.SevenTiedAt
import Derived.Test.YtdkkjchclkjleaaGreatDoorSD8
import Derived.Test.YtdkkjchclkjleaaGreatDoorSD3
set_option linter.unusedVariables false
set_option linter.unusedSimpArgs false
set_option linter.unnecessarySimpa false
set_option linter.all false
set_option maxRecDepth 20000
set_option maxHeartbeats 16000000
namespace Go.Proofs.YtdkkjchclkjleaaGreatDoor.stemKeeps
open Go.Proofs.Tryz(prog)
open Go Go.ChangeShapes Go.WideShapes Go.ChangeAt Go.RowKit
set_option maxRecDepth 100000 in
theorem lifted (os:Os) (started:os.Started) (H:Type) (enc:TypeId×Value→H):
  ReturnsInHanded {} Tryz.checked os 8 .any (λw args=>(Rows.stemKeepsSpec.pre enc prog Tryz.f8 [] false w args∧laidMetH prog zeR w)∧sizedMet enc prog Tryz.f8 (OpenSpec.ofChange Rows.stemKeepsSpec) false w args)
   (Rows.stemKeepsSpec.post enc prog Tryz.f8 false true false false):=by
 refine returnsInHanded_of_change_and (C:=Tryz.checked) (X:=λw _=>laidMetH prog zeR w) (λ_ _ _ A h=>h.of_heap A) own started (by kernel_rfl) Tryz.func8
  (ChangeSpec.witness_shaped (enc:=enc) (C:=Tryz.checked) (os:=os) (X:=λw _=>laidMetH prog zeR w) false (World.doorLaid prog 400 os) #[.agg #[.slice none 0 0,.slice none 0 0,.int .i64 0,.int .u32 0,.slice none 0 0,.slice none 0 0]] 8 rfl (World.shaped_of_RefB (by kernel_rfl) (by kernel_rfl)) (by kernel_rfl) (by kernel_rfl) (by kernel_rfl) (zjq os _)) ?_
 intro W base args n K before b k _ _ s _
 have a:∀(j:Nat) t v,Tryz.f8.params[j]? =some t→args[j]? =some v→Value.okWide prog W .any base t v:=b
 have f:=k
 obtain⟨p,q,c,u,rfl,y,B⟩:=k
 have i:DataW.TrodAll enc prog W 0 (λ_=>true) true Tryz.f8.params.toList args.toList n p:=c
 rw[Tryz.params8] at i a
 obtain⟨l,E,I,o,L,M,g,rfl,rfl,r,D⟩:=trodAll_cons i
 obtain⟨rfl,rfl,rfl⟩:=trodAll_nil D
 obtain rfl:args= #[l]:=by cases args;simp_all
 obtain⟨rfl,rfl⟩:=trodVars_none u
 obtain⟨F,m,d,rfl⟩:=ze4 (a 0 97 l rfl rfl) r
 refine(zhY (zld s) d).mono λe G ⟨x,z⟩=>?_
 subst x
 exact⟨_,rfl,zgl laid (by decide+kernel) rfl f z (λ_ _ _=>(trodAll_cons_mk (shut_bool Tryz.underlying4 _) trodAll_mk0)) rfl rfl⟩
theorem over:Rows.StemKeepsSaid:=
 OpenClaim.holds_of_wide 8 Tryz.f8 rfl rfl rfl rfl rfl rfl rfl ⟨rfl,rfl,rfl,rfl,rfl⟩ rfl rfl rfl rfl rfl (by kernel_rfl) Tryz.func8 (by kernel_rfl)
  (of_decide_eq_true (by kernel_rfl)) (by unfold Func.isWrapper;first|(rw[if_pos (by decide+kernel)];kernel_rfl)|(rw[if_neg (by decide+kernel)];exact⟨rfl,rfl⟩))
  (λos started H enc _=>lifted os started H enc)
theorem proved:Rows.StemKeepsCardSaid:=
 Claim7.holds_tied_plain_at .later [] [.data,.data] true (true, "5333e624adf4ff4730fb7374239dd408f42bc1c529ffec1fd40a5f0db4ffb298") false
  over (λ_ h=>by cases h) (by kernel_rfl) (λ_ h=>by cases h) stemKeeps_row_tie rfl ⟨rfl,rfl⟩ (by kernel_rfl) rfl
  (λf fn d b=>by
   obtain rfl:f=8:=Option.some.inj ((show prog.funcNamed "pappus/pappuslaw15.StemKeeps" =some 8 by kernel_rfl).symm.trans d)|>.symm
   obtain rfl:fn=Tryz.f8:=(Option.some.inj (Tryz.func8.symm.trans b)).symm
   exact⟨by kernel_rfl,λj t c=>by
    rw[Tryz.params8] at c
    have e:t∈[97]:=by simpa using Array.mem_of_getElem? c
    have a:([97].all λu=> !prog.wantsStandIn u)=true:=by kernel_rfl
    exact(show prog.wantsStandIn t=false by simpa using List.all_eq_true.1 a t e)⟩)
  (by kernel_rfl)
#print axioms proved
end Go.Proofs.YtdkkjchclkjleaaGreatDoor.stemKeeps
