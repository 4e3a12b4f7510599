/- ChainActs: the row and its tied card. -/
import Derived.Test.YtmpamcnlineceaaGreatDoorTie
import Derived.Test.YtmpamcnlineceaaGreatDoorCards
import Derived.SevenTiedAt
import Derived.Test.YtmpamcnlineceaaGreatDoorZG22
import Derived.Test.YtmpamcnlineceaaGreatDoorZG13
set_option linter.unusedVariables false
set_option linter.unusedSimpArgs false
set_option linter.unnecessarySimpa false
set_option linter.all false
set_option maxRecDepth 20000
set_option maxHeartbeats 16000000
namespace Go.Proofs.YtmpamcnlineceaaGreatDoor.chainActs
open Go.Proofs.Tryz(prog)
open Go Go.ChangeShapes Go.WideShapes Go.ChangeAt Go.RowKit
set_option maxRecDepth 100000 in
theorem lifted (os:Os) (started:os.Started) (H:Type) (enc:TypeId×Value→H):
  ReturnsInHanded {} Tryz.checked os 3 .any (λw args=>(Rows.chainActsSpec.pre enc prog Tryz.f3 [] false w args∧laidMetH prog zbA w)∧sizedMet enc prog Tryz.f3 (OpenSpec.ofChange Rows.chainActsSpec) false w args)
   (Rows.chainActsSpec.post enc prog Tryz.f3 false true false false):=by
 refine returnsInHanded_of_change_and (C:=Tryz.checked) (X:=λw _=>laidMetH prog zbA w) (λ_ _ _ G h=>h.of_heap G) own started (by kernel_rfl) Tryz.func3
  (ChangeSpec.witness_shaped (enc:=enc) (C:=Tryz.checked) (os:=os) (X:=λw _=>laidMetH prog zbA w) false (World.doorLaid prog 400 os) #[.slice none 0 0,.slice none 0 0] 8 rfl (World.shaped_of_RefB (by kernel_rfl) (by kernel_rfl)) (by kernel_rfl) (by kernel_rfl) (by kernel_rfl) (zfa os _)) ?_
 intro W base args s T before b n _ _ A _
 have a:∀(j:Nat) t v,Tryz.f3.params[j]? =some t→args[j]? =some v→Value.okWide prog W .any base t v:=b
 have g:=n
 obtain⟨p,q,c,B,rfl,E,I⟩:=n
 have m:DataW.TrodAll enc prog W 0 (λ_=>true) true Tryz.f3.params.toList args.toList s p:=c
 rw[Tryz.params3] at m a
 obtain⟨o,M,R,u,U,Y,i,rfl,rfl,y,K⟩:=trodAll_cons m
 obtain⟨r,N,S,x,V,Z,rfl,rfl,rfl,z,L⟩:=trodAll_cons K
 obtain⟨rfl,rfl,rfl⟩:=trodAll_nil L
 obtain rfl:args= #[o,r]:=by cases args;simp_all
 obtain⟨rfl,rfl⟩:=trodVars_none B
 obtain⟨_,_,_,rfl⟩:=okWide_slice Tryz.underlying22 (a 0 22 o rfl rfl)
 obtain⟨_,k⟩:=y
 obtain⟨O,d⟩:=XE k
 obtain⟨_,_,_,rfl⟩:=okWide_slice Tryz.underlying23 (a 1 23 r rfl rfl)
 obtain⟨_,l⟩:=z
 obtain⟨P,f⟩:=zbK l
 refine(za3 (zgF A) d f).mono λe Q ⟨D,F⟩=>?_
 subst D
 exact⟨_,rfl,zcY laid (by decide+kernel) rfl g F (λ_ _ _=>(trodAll_cons_mk (shut_bool Tryz.underlying4 _) trodAll_mk0)) rfl rfl⟩
theorem over:Rows.ChainActsSaid:=
 OpenClaim.holds_of_wide 3 Tryz.f3 rfl rfl rfl rfl rfl rfl rfl ⟨rfl,rfl,rfl,rfl,rfl⟩ rfl rfl rfl rfl rfl (by kernel_rfl) Tryz.func3 (by kernel_rfl)
  (of_decide_eq_true (by kernel_rfl)) (by unfold Func.isWrapper;first|(rw[if_pos (by decide+kernel)];kernel_rfl)|(rw[if_neg (by decide+kernel)];exact⟨rfl,rfl⟩))
  (λos started H enc _=>lifted os started H enc)
theorem proved:Rows.ChainActsCardSaid:=
 Claim7.holds_tied_plain_at .later [] [.data,.data] true (true, "944acd4414132fa7504b5a1659cbf2da71eecafdf8b44148192eae922d3f89f7") false
  over (λ_ h=>by cases h) (by kernel_rfl) (λ_ h=>by cases h) chainActs_row_tie rfl ⟨rfl,rfl⟩ (by kernel_rfl) rfl
  (λf fn d b=>by
   obtain rfl:f=3:=Option.some.inj ((show prog.funcNamed "pappus/pappuslaw11.ChainActs" =some 3 by kernel_rfl).symm.trans d)|>.symm
   obtain rfl:fn=Tryz.f3:=(Option.some.inj (Tryz.func3.symm.trans b)).symm
   exact⟨by kernel_rfl,λj t c=>by
    rw[Tryz.params3] at c
    have e:t∈[22,23]:=by simpa using Array.mem_of_getElem? c
    have a:([22,23].all λu=> !prog.wantsStandIn u)=true:=by kernel_rfl
    exact(show prog.wantsStandIn t=false by simpa using List.all_eq_true.1 a t e)⟩)
  (by kernel_rfl)
#print axioms proved
end Go.Proofs.YtmpamcnlineceaaGreatDoor.chainActs
