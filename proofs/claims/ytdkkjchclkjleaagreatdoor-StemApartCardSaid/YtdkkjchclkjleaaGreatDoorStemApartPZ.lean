/- StemApart: the row and its tied card. -/
import Derived.Test.YtdkkjchclkjleaaGreatDoorTie
import Derived.Test.YtdkkjchclkjleaaGreatDoorCards
import Derived.SevenTiedAt
import Derived.Test.YtdkkjchclkjleaaGreatDoorSC12
import Derived.Test.YtdkkjchclkjleaaGreatDoorSC5
import Derived.Test.YtdkkjchclkjleaaGreatDoorSC11
set_option linter.unusedVariables false
set_option linter.unusedSimpArgs false
set_option linter.unnecessarySimpa false
set_option linter.all false
set_option maxRecDepth 20000
set_option maxHeartbeats 16000000
namespace Go.Proofs.YtdkkjchclkjleaaGreatDoor.stemApart
open Go.Proofs.Tryz(prog)
open Go Go.ChangeShapes Go.WideShapes Go.ChangeAt Go.RowKit
set_option maxRecDepth 100000 in
theorem lifted (os:Os) (started:os.Started) (H:Type) (enc:TypeId×Value→H):
  ReturnsInHanded {} Tryz.checked os 5 .any (λw args=>(Rows.stemApartSpec.pre enc prog Tryz.f5 [] false w args∧laidMetH prog zeP w)∧sizedMet enc prog Tryz.f5 (OpenSpec.ofChange Rows.stemApartSpec) false w args)
   (Rows.stemApartSpec.post enc prog Tryz.f5 false true false false):=by
 refine returnsInHanded_of_change_and (C:=Tryz.checked) (X:=λw _=>laidMetH prog zeP w) (λ_ _ _ M h=>h.of_heap M) own started (by kernel_rfl) Tryz.func5
  (ChangeSpec.witness_shaped (enc:=enc) (C:=Tryz.checked) (os:=os) (X:=λw _=>laidMetH prog zeP w) false (World.doorLaid prog 400 os) #[.slice none 0 0,.slice none 0 0,.int .i64 0] 8 rfl (World.shaped_of_RefB (by kernel_rfl) (by kernel_rfl)) (by kernel_rfl) (by kernel_rfl) (by kernel_rfl) (zjj os _)) ?_
 intro W base args x gs before b n _ _ F _
 have a:∀(j:Nat) t v,Tryz.f5.params[j]? =some t→args[j]? =some v→Value.okWide prog W .any base t v:=b
 have g:=n
 obtain⟨p,q,c,G,rfl,K,N⟩:=n
 have m:DataW.TrodAll enc prog W 0 (λ_=>true) true Tryz.f5.params.toList args.toList x p:=c
 rw[Tryz.params5] at m a
 obtain⟨o,R,Z,y,p0,q0,i,rfl,rfl,B,O⟩:=trodAll_cons m
 obtain⟨r,S,d1,z,p1,q1,rfl,rfl,rfl,D,P⟩:=trodAll_cons O
 obtain⟨s,T,d2,A,p2,q2,rfl,rfl,rfl,E,Q⟩:=trodAll_cons P
 obtain⟨rfl,rfl,rfl⟩:=trodAll_nil Q
 obtain rfl:args= #[o,r,s]:=by cases args;simp_all
 obtain⟨rfl,rfl⟩:=trodVars_none G
 obtain⟨_,_,_,rfl⟩:=okWide_slice Tryz.underlying22 (a 0 22 o rfl rfl)
 obtain⟨_,k⟩:=B
 obtain⟨U,d⟩:=zas k
 obtain⟨_,_,_,rfl⟩:=okWide_slice Tryz.underlying52 (a 1 52 r rfl rfl)
 obtain⟨_,l⟩:=D
 obtain⟨V,f⟩:=ze1 l
 obtain⟨u,rfl,-,-,w2⟩:=open_int Tryz.underlying3 (a 2 3 s rfl rfl) E
 refine(zhn (zk8 F) u d f).mono λe Y ⟨I,L⟩=>?_
 subst I
 exact⟨_,rfl,zgd laid (by decide+kernel) rfl g L (λ_ _ _=>(trodAll_cons_mk (shut_bool Tryz.underlying4 _) trodAll_mk0)) rfl rfl⟩
theorem over:Rows.StemApartSaid:=
 OpenClaim.holds_of_wide 5 Tryz.f5 rfl rfl rfl rfl rfl rfl rfl ⟨rfl,rfl,rfl,rfl,rfl⟩ rfl rfl rfl rfl rfl (by kernel_rfl) Tryz.func5 (by kernel_rfl)
  (of_decide_eq_true (by kernel_rfl)) (by unfold Func.isWrapper;first|(rw[if_pos (by decide+kernel)];kernel_rfl)|(rw[if_neg (by decide+kernel)];exact⟨rfl,rfl⟩))
  (λos started H enc _=>lifted os started H enc)
theorem proved:Rows.StemApartCardSaid:=
 Claim7.holds_tied_plain_at .later [] [.data,.data] true (true, "5333e624adf4ff4730fb7374239dd408f42bc1c529ffec1fd40a5f0db4ffb298") false
  over (λ_ h=>by cases h) (by kernel_rfl) (λ_ h=>by cases h) stemApart_row_tie rfl ⟨rfl,rfl⟩ (by kernel_rfl) rfl
  (λf fn d b=>by
   obtain rfl:f=5:=Option.some.inj ((show prog.funcNamed "pappus/pappuslaw15.StemApart" =some 5 by kernel_rfl).symm.trans d)|>.symm
   obtain rfl:fn=Tryz.f5:=(Option.some.inj (Tryz.func5.symm.trans b)).symm
   exact⟨by kernel_rfl,λj t c=>by
    rw[Tryz.params5] at c
    have e:t∈[22,52,3]:=by simpa using Array.mem_of_getElem? c
    have a:([22,52,3].all λu=> !prog.wantsStandIn u)=true:=by kernel_rfl
    exact(show prog.wantsStandIn t=false by simpa using List.all_eq_true.1 a t e)⟩)
  (by kernel_rfl)
#print axioms proved
end Go.Proofs.YtdkkjchclkjleaaGreatDoor.stemApart
