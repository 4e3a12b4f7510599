/- StemSeen: the row and its tied card. -/
import Derived.Test.YtdkkjchclkjleaaGreatDoorTie
import Derived.Test.YtdkkjchclkjleaaGreatDoorCards
import Derived.SevenTiedAt
import Derived.Test.YtdkkjchclkjleaaGreatDoorSB13
import Derived.Test.YtdkkjchclkjleaaGreatDoorSB5
set_option linter.unusedVariables false
set_option linter.unusedSimpArgs false
set_option linter.unnecessarySimpa false
set_option linter.all false
set_option maxRecDepth 20000
set_option maxHeartbeats 16000000
namespace Go.Proofs.YtdkkjchclkjleaaGreatDoor.stemSeen
open Go.Proofs.Tryz(prog)
open Go Go.ChangeShapes Go.WideShapes Go.ChangeAt Go.RowKit
set_option maxRecDepth 100000 in
theorem lifted (os:Os) (started:os.Started) (H:Type) (enc:TypeId×Value→H):
  ReturnsInHanded {} Tryz.checked os 4 .any (λw args=>(Rows.stemSeenSpec.pre enc prog Tryz.f4 [] false w args∧laidMetH prog zeK w)∧sizedMet enc prog Tryz.f4 (OpenSpec.ofChange Rows.stemSeenSpec) false w args)
   (Rows.stemSeenSpec.post enc prog Tryz.f4 false true false false):=by
 refine returnsInHanded_of_change_and (C:=Tryz.checked) (X:=λw _=>laidMetH prog zeK w) (λ_ _ _ M h=>h.of_heap M) own started (by kernel_rfl) Tryz.func4
  (ChangeSpec.witness_shaped (enc:=enc) (C:=Tryz.checked) (os:=os) (X:=λw _=>laidMetH prog zeK w) false (World.doorLaid prog 400 os) #[.slice none 0 0,.slice none 0 0,.agg (Array.replicate 32 (Value.int .u8 0))] 8 rfl (World.shaped_of_RefB (by kernel_rfl) (by kernel_rfl)) (by kernel_rfl) (by kernel_rfl) (by kernel_rfl) (zjg os _)) ?_
 intro W base args x gs before b o _ _ F _
 have a:∀(j:Nat) t v,Tryz.f4.params[j]? =some t→args[j]? =some v→Value.okWide prog W .any base t v:=b
 have i:=o
 obtain⟨p,q,d,G,rfl,K,N⟩:=o
 have n:DataW.TrodAll enc prog W 0 (λ_=>true) true Tryz.f4.params.toList args.toList x p:=d
 rw[Tryz.params4] at n a
 obtain⟨r,R,d0,y,p0,q0,k,rfl,rfl,B,O⟩:=trodAll_cons n
 obtain⟨s,S,d1,z,p1,q1,rfl,rfl,rfl,D,P⟩:=trodAll_cons O
 obtain⟨u,T,d2,A,p2,q2,rfl,rfl,rfl,E,Q⟩:=trodAll_cons P
 obtain⟨rfl,rfl,rfl⟩:=trodAll_nil Q
 obtain rfl:args= #[r,s,u]:=by cases args;simp_all
 obtain⟨rfl,rfl⟩:=trodVars_none G
 obtain⟨_,_,_,rfl⟩:=okWide_slice Tryz.underlying22 (a 0 22 r rfl rfl)
 obtain⟨_,l⟩:=B
 obtain⟨V,f⟩:=zaq l
 obtain⟨_,_,_,rfl⟩:=okWide_slice Tryz.underlying52 (a 1 52 s rfl rfl)
 obtain⟨_,m⟩:=D
 obtain⟨Y,g⟩:=zeW m
 obtain⟨U,c,rfl⟩:=zeX (a 2 41 u rfl rfl) E
 refine(zka (zk7 F) c f g).mono λe Z ⟨I,L⟩=>?_
 subst I
 exact⟨_,rfl,zgc laid (by decide+kernel) rfl i L (λ_ _ _=>(trodAll_cons_mk (shut_bool Tryz.underlying4 _) trodAll_mk0)) rfl rfl⟩
theorem over:Rows.StemSeenSaid:=
 OpenClaim.holds_of_wide 4 Tryz.f4 rfl rfl rfl rfl rfl rfl rfl ⟨rfl,rfl,rfl,rfl,rfl⟩ rfl rfl rfl rfl rfl (by kernel_rfl) Tryz.func4 (by kernel_rfl)
  (of_decide_eq_true (by kernel_rfl)) (by unfold Func.isWrapper;first|(rw[if_pos (by decide+kernel)];kernel_rfl)|(rw[if_neg (by decide+kernel)];exact⟨rfl,rfl⟩))
  (λos started H enc _=>lifted os started H enc)
theorem proved:Rows.StemSeenCardSaid:=
 Claim7.holds_tied_plain_at .later [] [.data,.data] true (true, "5333e624adf4ff4730fb7374239dd408f42bc1c529ffec1fd40a5f0db4ffb298") false
  over (λ_ h=>by cases h) (by kernel_rfl) (λ_ h=>by cases h) stemSeen_row_tie rfl ⟨rfl,rfl⟩ (by kernel_rfl) rfl
  (λf fn d b=>by
   obtain rfl:f=4:=Option.some.inj ((show prog.funcNamed "pappus/pappuslaw15.StemSeen" =some 4 by kernel_rfl).symm.trans d)|>.symm
   obtain rfl:fn=Tryz.f4:=(Option.some.inj (Tryz.func4.symm.trans b)).symm
   exact⟨by kernel_rfl,λj t c=>by
    rw[Tryz.params4] at c
    have e:t∈[22,52,41]:=by simpa using Array.mem_of_getElem? c
    have a:([22,52,41].all λu=> !prog.wantsStandIn u)=true:=by kernel_rfl
    exact(show prog.wantsStandIn t=false by simpa using List.all_eq_true.1 a t e)⟩)
  (by kernel_rfl)
#print axioms proved
end Go.Proofs.YtdkkjchclkjleaaGreatDoor.stemSeen
