/- pappusref11: Connect. (Written by gen_conn11.py.) -/
import Derived.Deep.CutRange
import Derived.Test.YtmpamcnlineceaaGreatDoorProg
import Derived.Lib.Hide
import Derived.Test.YtmpamcnlineceaaGreatDoorZG20
import Derived.Test.YtmpamcnlineceaaGreatDoorZG1
import Derived.Test.YtmpamcnlineceaaGreatDoorZG5
import Derived.Test.YtmpamcnlineceaaGreatDoorZG8
set_option linter.unusedVariables false
set_option linter.unusedSimpArgs false
set_option linter.unnecessarySimpa false
set_option linter.all false
set_option maxRecDepth 20000
set_option maxHeartbeats 16000000
namespace Go.Proofs.YtmpamcnlineceaaGreatDoor
open Go Go.RowKit Go.Maps Go.MapKept
open Go.Proofs.Tryz(prog)
open Nat(le_refl zero_le)
open List(getElem?_eq_getElem nil_append)
variable {cs:List Value}
def zhj (w0 w:World) (p:Nat) (U:Nat→Prop) (F:List yk) (bs:List zU) (S:List zh) (b:y7) (e:Ending) (w':World):Prop:=
 e=.returned (.int .i64 (blE (zJ bs) S b))∧Fr (λj=>j=p) w w'∧∃U',(blE (zJ bs) S b=0→RCh w0 w' p U' F (bs++[(doR (zJ bs) S b).d]) (doR (zJ bs) S b).S)∧(blE (zJ bs) S b≠0→RCh w0 w' p U' F bs S)∧∀j,U' j→U j∨w.heap.size≤j
theorem ZZ:ElT prog 48 36 3 56 (.agg xY.toArray):=⟨by kernel_rfl,by kernel_rfl,rfl,by decide,by decide⟩
theorem zaM {w:World} {B k:Nat} {e:TypeId} {v:Value} {xs:List Value} (h:w.ownsRow B e k v 1 xs):v≠.slice none 0 0:=λe=>by
 subst e
 rcases h.slice with⟨_,h,_⟩|⟨b,off,a,h,_⟩
 ·cases h
 ·cases h
theorem _root_.Go.AB.appS {P:Program} {t e:TypeId} {k bytes:Nat} {z:Value} {W w:World} {b:Option (Value×Nat×List Value)} {v:Value} {n:Nat} {S:List Value} (h:AB e k W w (some (v,n,S)) b) (E:ElT P t e k bytes z) {x:Value} {m:Nat} {news:List Value} (F:yP w x m news) (y:news.length=m*k) (q:∀u∈news,u.oneCell'=true) (r:(n+m)*bytes≤140737488355328) (A:n+m≤maxLen) (ty:TypeId):
  ∃f w',(Builtin.append_ #[t,t] ty #[v,x]).run P w=.ok f w'∧AB e k W w' (some (f,n+m,S++news)) b:=by
 have c:=h.a1 v n S rfl
 obtain⟨f,w',D,C,s,B⟩:=qT (P:=P) w W.heap.size t ty e k bytes z E.und E.info E.zs E.k0 v n S c x m news F y q r A h.fr.size
 exact⟨f,w',D,h.turn (V:=λj=>v.ownBlock=some j) s (λj g=>⟨(c.lt j g).1,λH G i l p=>h.sep v n S H G i rfl l j g p⟩) C B⟩
section
variable {w0 w:World} {p:Nat} {U:Nat→Prop} {F:List yk} {bs:List zU} {S:List zh}
theorem zcw (h:RCh w0 w p U F bs S) (hB:bs.length≤150) {b:y7} (hb:xT w0 b cs):
  Calls prog 11 #[.pointer (some ⟨p,0,none⟩),.agg cs.toArray] w (zhj w0 w p U F bs S b):=by
 have HR:=J h
 have BQ:=J hb
 have s:=J h.good.ok
 have N:=J h.good.srt
 have SL:=J (h.slen (by omega))
 have M:=J (h.klen (by omega))
 have o:=@J (∀k∈zJ bs,xU k) (λk hk=>by
  obtain⟨d,hd,bz⟩:=List.mem_flatMap.1 hk
  exact(h.good.ds d hd).2.2.2.1 k bz)
 obtain⟨C,E,G,H,rfl⟩:=hb.form
 obtain⟨fv,bv,cv,iv,css,hp,O,h2,h3,h4,h5,h6,h7,h8⟩:=h.ex
 obtain⟨ba,bc,rfl⟩:=h2.arg.form
 obtain⟨ca,cc,rfl⟩:=h6.arg.form
 obtain⟨ia,ic,rfl⟩:=h7.arg.form
 obtain⟨dS,uS,rS⟩:=zab
 have f1:Fr No w (w.alloc (.cells #[.int .u64 b.tag,.slice C b.pay.length E,.slice G b.txs.length H] 36)):=(frN w).alloc _
 have F1:=J f1
 have RB:=J (qC w (.int .u64 b.tag) (.slice C b.pay.length E) (.slice G b.txs.length H) 36).2.2.2
 have HP:=J (f1.obj hp id)
 have c1:(w.alloc (.cells #[.int .u64 b.tag,.slice C b.pay.length E,.slice G b.txs.length H] 36)).cell? ⟨p,1,none⟩=some (.slice ba bs.length bc):=by have:=zm HP.o 1 _ rfl;simpa using this
 have H1:=J O
 have H2:=J h2
 have H6:=J (h6.keep f1 (λ_ _=>id))
 have H7:=J (h7.keep f1 (λ_ _=>id))
 have H8:=J h8
 have HC:=J (And.intro h3 (And.intro h4 h5))
 have PL:=J (yu hp)
 have jf:¬(1024:Int)≤(bs.length:Int):=by omega
 clear h hb hp O h2 h3 h4 h5 h6 h7 h8 f1
 show Calls prog 11 #[.pointer (some ⟨p,0,none⟩),.agg #[.int .u64 b.tag,.slice C b.pay.length E,.slice G b.txs.length H]] w _
 go_enter Tryz.func11,Tryz.ntmps11
 go_wp2_with fail
 clear c1 jf
 have Z1:=@J (w.heap.size<(w.alloc (.cells #[.int .u64 b.tag,.slice C b.pay.length E,.slice G b.txs.length H] 36)).heap.size) (by simp)
 generalize w.alloc (.cells #[.int .u64 b.tag,.slice C b.pay.length E,.slice G b.txs.length H] 36)=w1 at*
 go_cut [5] from 13 to 27 (λs5 wz=>∃(r:Nat) (W:Nat→Prop),s5=.pointer (some ⟨r,0,none⟩)∧SX w1.drew wz r W S (zJ bs)∧Fr No w1.drew wz)
 case first=>
  have C2:=@J (w1.drew.cell? ⟨p,2,none⟩=some (.slice ca S.length cc)) (by have:=zm ((frN w1).drew.obj HP.o id) 2 _ rfl;simpa using this)
  have z:=@J (w1.drew.cell? ⟨p,3,none⟩=some (.slice ia (zJ bs).length ic)) (by have:=zm ((frN w1).drew.obj HP.o id) 3 _ rfl;simpa using this)
  have S2:=J (H6.o.keep (frN w1).drew (λ_ _=>id))
  have S3:=J (H7.o.keep (frN w1).drew (λ_ _=>id))
  have P0:=J (Pg.start w1.drew S)
  refine VI 17 16 [0,1,2,3,4,5,6,7,8,9,10,11,12,13,14,15,16] (λw'=>w'.cell? ⟨p,3,none⟩=some (.slice ia (zJ bs).length ic)) (by kernel_rfl) (by kernel_rfl) (by kernel_rfl) (by kernel_rfl) (by kernel_rfl) ?_ (λK hK=>?_)
  ·exact z.o
  generalize w1.drew=c at*
  (((first|(refine xu 0 (by kernel_rfl) rfl rfl ?_;apply Exists.intro;refine⟨?_,?_⟩;(focus(first|(intro w' hS;obtain m:=hS;exact goS))))|(refine xw 0 (by kernel_rfl) rfl rfl ?_));try simp only[Act.put,pA,pB,pC]);((first|(refine xu 1 (by kernel_rfl) rfl rfl ?_;apply Exists.intro;refine⟨?_,?_⟩;(focus(first|(intro w' hS;obtain m:=hS;exact goS))))|(refine xw 1 (by kernel_rfl) rfl rfl ?_));try simp only[Act.put,pA,pB,pC]);((first|(refine xu 2 (by kernel_rfl) rfl rfl ?_;apply Exists.intro;refine⟨?_,?_⟩;(focus(first|(intro w' hS;obtain m:=hS;exact goS))))|(refine xw 2 (by kernel_rfl) rfl rfl ?_));try simp only[Act.put,pA,pB,pC]);((first|(refine xu 3 (by kernel_rfl) rfl rfl ?_;apply Exists.intro;refine⟨?_,?_⟩;(focus(first|(intro w' hS;obtain m:=hS;exact goS))))|(refine xw 3 (by kernel_rfl) rfl rfl ?_));try simp only[Act.put,pA,pB,pC]);((first|(refine xu 8 (by kernel_rfl) rfl rfl ?_;apply Exists.intro;refine⟨?_,?_⟩;(focus(first|(intro w' hS;obtain m:=hS;exact goS))))|(refine xw 8 (by kernel_rfl) rfl rfl ?_));try simp only[Act.put,pA,pB,pC]);((first|(refine xu 9 (by kernel_rfl) rfl rfl ?_;apply Exists.intro;refine⟨?_,?_⟩;(focus(first|(intro w' hS;obtain m:=hS;exact goS))))|(refine xw 9 (by kernel_rfl) rfl rfl ?_));try simp only[Act.put,pA,pB,pC]);((first|(refine xu 10 (by kernel_rfl) rfl rfl ?_;apply Exists.intro;refine⟨?_,?_⟩;(focus(first|(intro w' hS;obtain m:=hS;exact goS))))|(refine xw 10 (by kernel_rfl) rfl rfl ?_));try simp only[Act.put,pA,pB,pC]);((first|(refine xu 11 (by kernel_rfl) rfl rfl ?_;apply Exists.intro;refine⟨?_,?_⟩;(focus(first|(intro w' hS;obtain m:=hS;exact goS))))|(refine xw 11 (by kernel_rfl) rfl rfl ?_));try simp only[Act.put,pA,pB,pC]);((first|(refine xu 12 (by kernel_rfl) rfl rfl ?_;apply Exists.intro;refine⟨?_,?_⟩;(focus(first|(intro w' hS;obtain m:=hS;exact goS))))|(refine xw 12 (by kernel_rfl) rfl rfl ?_));try simp only[Act.put,pA,pB,pC]))
  refine zfo 4 7 15 (by kernel_rfl) rfl rfl rfl rfl rfl rfl (λK' hK'=>?_) (λK' hK'=>?_) (λK' hK'=>?_)
  ·go_simp
   refine(Jt (P0.o.fr.cell C2.o _root_.id) (S2.o.keep P0.o.fr (λ_ _=>_root_.id)) s.o (by have:=SL.o;omega)).mono ?_
   rintro e wx ⟨q1,a2,c3,rfl,Y,lx,V,ox⟩
   have P4:=J (P0.o.stepC Y lx V ox)
   clear Y lx V ox
   refine hK'.out _ _ (λw'=>w'.cell? ⟨p,3,none⟩=some (.slice ia (zJ bs).length ic)∧w'.rangeAt q1 0 [.slice a2 S.length c3]) (λu hu=>?_) (λ_=>?_) (λhS=>?_)
   ·exact hu.1
   ·exact⟨P4.o.fr.cell z.o _root_.id,zm (P4.o.c _ _ rfl).2.1⟩
   try simp only[Act.put,pA,pB,pC]
   (((first|(refine xu 5 (by kernel_rfl) rfl rfl ?_;apply Exists.intro;refine⟨?_,?_⟩;(focus(first|exact zi2 rfl (λw h=>h.2) rfl|(intro w' hS;obtain⟨m,q⟩:=hS;exact goS))))|(refine xw 5 (by kernel_rfl) rfl rfl ?_));try simp only[Act.put,pA,pB,pC]);((first|(refine xu 6 (by kernel_rfl) rfl rfl ?_;apply Exists.intro;refine⟨?_,?_⟩;(focus(first|exact zi2 rfl (λw h=>h.2) rfl|(intro w' hS;obtain⟨m,q⟩:=hS;exact goS))))|(refine xw 6 (by kernel_rfl) rfl rfl ?_));try simp only[Act.put,pA,pB,pC]))
   refine Ya 7 15 (by kernel_rfl) rfl rfl rfl rfl (λK' hK'=>?_) (λK' hK'=>?_)
   ·obtain⟨v5,w6,a,l,f,g⟩:=jZ (P:=prog) zbp c.heap.size P4.o.fr.size
    have P7:=J (P4.o.stepA f l g)
    refine yg (qG (t:=52) (vs:=[]) rfl rfl a) ?_
    clear a l f g
    refine hK'.out _ _ _ (λ_ h=>h) (λ_=>?_) (λhS=>?_)
    ·exact⟨P7.o.fr.cell z.o _root_.id,zm (P7.o.c _ _ rfl).2.1⟩
    try simp only[Act.put,pA,pB,pC]
    refine Ya 13 15 (by kernel_rfl) rfl rfl rfl rfl (λK' hK'=>?_) (λK' hK'=>?_)
    ·obtain⟨v8,w9,a,l,f,g⟩:=qT (P:=prog) _ c.heap.size 52 52 40 32 32 _ jS qW rfl (by decide) v5 0 [] (P7.o.a _ _ _ rfl) _ (zJ bs).length _ (S3.o.keep P7.o.fr (λ_ _=>_root_.id)) (qI o.o) qJ (by have:=M.o;omega) (by unfold maxLen;have:=M.o;omega) P7.o.fr.size
     have au:=@J (Pg c w9 S _ (some (v8,(zJ bs).length,(zJ bs).flatMap zl)) _) (P7.o.stepP f (by simpa using l) g)
     refine zQ rfl rfl rfl a ?_
     obtain⟨a8,bl,rfl⟩:=(au.o.a _ _ _ rfl).slice.arg.form
     clear a l f g
     refine hK'.out _ _ _ (λ_ h=>h) (λ_=>?_) (λhS=>?_)
     ·exact⟨au.o.fr.cell z.o _root_.id,zm (au.o.c _ _ rfl).2.1⟩
     try simp only[Act.put,pA,pB,pC]
     (((first|(refine xu 14 (by kernel_rfl) rfl rfl ?_;apply Exists.intro;refine⟨?_,?_⟩;(focus(first|exact zi2 rfl (λw h=>h.2) rfl|exact λw' _=>yl (t:=54) rfl rfl (XY _ _ _ _ _ _ w')|(intro w' hS;obtain⟨m,q⟩:=hS;exact goS))))|(refine xw 14 (by kernel_rfl) rfl rfl ?_));try simp only[Act.put,pA,pB,pC]))
     refine xJ 15 (by kernel_rfl) rfl rfl (λK' hK'=>?_)
     have av:=J au.o.stepQ
     refine yg (y4 rfl (YY _)) ?_
     refine hK'.out _ _ _ (λ_ h=>h) (λ_=>?_) (λhS=>?_)
     ·exact⟨av.o.fr.cell z.o _root_.id,zm (av.o.c _ _ rfl).2.1⟩
     try simp only[Act.put,pA,pB,pC]
     refine xJ 16 (by kernel_rfl) rfl rfl (λK' hK'=>?_)
     refine xx (zy (ty:=54) (cs:=[.slice a2 S.length c3,.slice a8 (zJ bs).length bl]) rfl rfl rfl (zM (av.o.q _ rfl).2 (le_refl 2)) infoState Jd) ?_
     refine hK'.out _ _ (λ_=>False) (λ_ h=>h.elim) (λh=>absurd rfl h) (λhS=>?_)
     try simp only[Act.put,pA,pB,pC]
     refine j8 (hK.out _ _ ?_)
     go_wp2_with fail
     go_meet
     case rel=>exact⟨_,_,rfl,av.o.sx s.o o.o N.o⟩
    ·have aa:=J P7.o.stepQ
     refine yg (y4 rfl (YY _)) ?_
     refine hK'.out _ _ _ (λ_ h=>h) (λ_=>?_) (λhS=>?_)
     ·exact⟨aa.o.fr.cell z.o _root_.id,zm (aa.o.c _ _ rfl).2.1⟩
     try simp only[Act.put,pA,pB,pC]
     refine xJ 13 (by kernel_rfl) rfl rfl (λK' hK'=>?_)
     obtain⟨bG,bQ,a,l,f,g⟩:=qT (P:=prog) _ c.heap.size 52 52 40 32 32 _ jS qW rfl (by decide) v5 0 [] (aa.o.a _ _ _ rfl) _ (zJ bs).length _ (S3.o.keep aa.o.fr (λ_ _=>_root_.id)) (qI o.o) qJ (by have:=M.o;omega) (by unfold maxLen;have:=M.o;omega) aa.o.fr.size
     have aj:=@J (Pg c bQ S _ (some (bG,(zJ bs).length,(zJ bs).flatMap zl)) _) (aa.o.stepP f (by simpa using l) g)
     refine zQ rfl rfl rfl a ?_
     obtain⟨bb,bm,rfl⟩:=(aj.o.a _ _ _ rfl).slice.arg.form
     clear a l f g
     refine hK'.out _ _ _ (λ_ h=>h) (λ_=>?_) (λhS=>?_)
     ·exact⟨aj.o.fr.cell z.o _root_.id,zm (aj.o.c _ _ rfl).2.1⟩
     try simp only[Act.put,pA,pB,pC]
     (((first|(refine xu 14 (by kernel_rfl) rfl rfl ?_;apply Exists.intro;refine⟨?_,?_⟩;(focus(first|exact zi2 rfl (λw h=>h.2) rfl|exact λw' _=>yl (t:=54) rfl rfl (XY _ _ _ _ _ _ w')|(intro w' hS;obtain⟨m,q⟩:=hS;exact goS))))|(refine xw 14 (by kernel_rfl) rfl rfl ?_));try simp only[Act.put,pA,pB,pC]))
     refine xJ 16 (by kernel_rfl) rfl rfl (λK' hK'=>?_)
     refine xx (zy (ty:=54) (cs:=[.slice a2 S.length c3,.slice bb (zJ bs).length bm]) rfl rfl rfl (zM (aj.o.q _ rfl).2 (le_refl 2)) infoState Jd) ?_
     refine hK'.out _ _ (λ_=>False) (λ_ h=>h.elim) (λh=>absurd rfl h) (λhS=>?_)
     try simp only[Act.put,pA,pB,pC]
     refine j8 (hK.out _ _ ?_)
     go_wp2_with fail
     go_meet
     case rel=>exact⟨_,_,rfl,aj.o.sx s.o o.o N.o⟩
   ·have aw:=J P4.o.stepQ
    refine yg (y4 rfl (YY _)) ?_
    refine hK'.out _ _ _ (λ_ h=>h) (λ_=>?_) (λhS=>?_)
    ·exact⟨aw.o.fr.cell z.o _root_.id,zm (aw.o.c _ _ rfl).2.1⟩
    try simp only[Act.put,pA,pB,pC]
    refine xJ 7 (by kernel_rfl) rfl rfl (λK' hK'=>?_)
    obtain⟨bH,bZ,a,l,f,g⟩:=jZ (P:=prog) zbp c.heap.size aw.o.fr.size
    have ab:=J (aw.o.stepA f l g)
    refine yg (qG (t:=52) (vs:=[]) rfl rfl a) ?_
    clear a l f g
    refine hK'.out _ _ _ (λ_ h=>h) (λ_=>?_) (λhS=>?_)
    ·exact⟨ab.o.fr.cell z.o _root_.id,zm (ab.o.c _ _ rfl).2.1⟩
    try simp only[Act.put,pA,pB,pC]
    refine xJ 13 (by kernel_rfl) rfl rfl (λK' hK'=>?_)
    obtain⟨bI,bR,a,l,f,g⟩:=qT (P:=prog) _ c.heap.size 52 52 40 32 32 _ jS qW rfl (by decide) bH 0 [] (ab.o.a _ _ _ rfl) _ (zJ bs).length _ (S3.o.keep ab.o.fr (λ_ _=>_root_.id)) (qI o.o) qJ (by have:=M.o;omega) (by unfold maxLen;have:=M.o;omega) ab.o.fr.size
    have ak:=@J (Pg c bR S _ (some (bI,(zJ bs).length,(zJ bs).flatMap zl)) _) (ab.o.stepP f (by simpa using l) g)
    refine zQ rfl rfl rfl a ?_
    obtain⟨bd,bn,rfl⟩:=(ak.o.a _ _ _ rfl).slice.arg.form
    clear a l f g
    refine hK'.out _ _ _ (λ_ h=>h) (λ_=>?_) (λhS=>?_)
    ·exact⟨ak.o.fr.cell z.o _root_.id,zm (ak.o.c _ _ rfl).2.1⟩
    try simp only[Act.put,pA,pB,pC]
    (((first|(refine xu 14 (by kernel_rfl) rfl rfl ?_;apply Exists.intro;refine⟨?_,?_⟩;(focus(first|exact zi2 rfl (λw h=>h.2) rfl|exact λw' _=>yl (t:=54) rfl rfl (XY _ _ _ _ _ _ w')|(intro w' hS;obtain⟨m,q⟩:=hS;exact goS))))|(refine xw 14 (by kernel_rfl) rfl rfl ?_));try simp only[Act.put,pA,pB,pC]))
    refine xJ 16 (by kernel_rfl) rfl rfl (λK' hK'=>?_)
    refine xx (zy (ty:=54) (cs:=[.slice a2 S.length c3,.slice bd (zJ bs).length bn]) rfl rfl rfl (zM (ak.o.q _ rfl).2 (le_refl 2)) infoState Jd) ?_
    refine hK'.out _ _ (λ_=>False) (λ_ h=>h.elim) (λh=>absurd rfl h) (λhS=>?_)
    try simp only[Act.put,pA,pB,pC]
    refine j8 (hK.out _ _ ?_)
    go_wp2_with fail
    go_meet
    case rel=>exact⟨_,_,rfl,ak.o.sx s.o o.o N.o⟩
  ·obtain⟨aJ,b0,a,l,f,g⟩:=jZ (P:=prog) zbp c.heap.size P0.o.fr.size
   have al:=J (P0.o.stepA f l g)
   refine yg (qG (t:=52) (vs:=[]) rfl rfl a) ?_
   clear a l f g
   refine hK'.out _ _ _ (λ_ h=>h) (λ_=>?_) (λhS=>?_)
   ·exact al.o.fr.cell z.o _root_.id
   try simp only[Act.put,pA,pB,pC]
   refine Ya 4 15 (by kernel_rfl) rfl rfl rfl rfl (λK' hK'=>?_) (λK' hK'=>?_)
   ·go_simp
    refine(Jt (al.o.fr.cell C2.o _root_.id) (S2.o.keep al.o.fr (λ_ _=>_root_.id)) s.o (by have:=SL.o;omega)).mono ?_
    rintro e wx ⟨bB,aG,aH,rfl,Y,lx,V,ox⟩
    have R:=J (al.o.stepC Y lx V ox)
    clear Y lx V ox
    refine hK'.out _ _ (λw'=>w'.cell? ⟨p,3,none⟩=some (.slice ia (zJ bs).length ic)∧w'.rangeAt bB 0 [.slice aG S.length aH]) (λu hu=>?_) (λ_=>?_) (λhS=>?_)
    ·exact hu.1
    ·exact⟨R.o.fr.cell z.o _root_.id,zm (R.o.c _ _ rfl).2.1⟩
    try simp only[Act.put,pA,pB,pC]
    (((first|(refine xu 5 (by kernel_rfl) rfl rfl ?_;apply Exists.intro;refine⟨?_,?_⟩;(focus(first|exact zi2 rfl (λw h=>h.2) rfl|(intro w' hS;obtain⟨m,q⟩:=hS;exact goS))))|(refine xw 5 (by kernel_rfl) rfl rfl ?_));try simp only[Act.put,pA,pB,pC]);((first|(refine xu 6 (by kernel_rfl) rfl rfl ?_;apply Exists.intro;refine⟨?_,?_⟩;(focus(first|exact zi2 rfl (λw h=>h.2) rfl|(intro w' hS;obtain⟨m,q⟩:=hS;exact goS))))|(refine xw 6 (by kernel_rfl) rfl rfl ?_));try simp only[Act.put,pA,pB,pC]))
    refine Ya 13 15 (by kernel_rfl) rfl rfl rfl rfl (λK' hK'=>?_) (λK' hK'=>?_)
    ·obtain⟨bJ,bS,a,l,f,g⟩:=qT (P:=prog) _ c.heap.size 52 52 40 32 32 _ jS qW rfl (by decide) aJ 0 [] (R.o.a _ _ _ rfl) _ (zJ bs).length _ (S3.o.keep R.o.fr (λ_ _=>_root_.id)) (qI o.o) qJ (by have:=M.o;omega) (by unfold maxLen;have:=M.o;omega) R.o.fr.size
     have ax:=@J (Pg c bS S _ (some (bJ,(zJ bs).length,(zJ bs).flatMap zl)) _) (R.o.stepP f (by simpa using l) g)
     refine zQ rfl rfl rfl a ?_
     obtain⟨bf,bo,rfl⟩:=(ax.o.a _ _ _ rfl).slice.arg.form
     clear a l f g
     refine hK'.out _ _ _ (λ_ h=>h) (λ_=>?_) (λhS=>?_)
     ·exact⟨ax.o.fr.cell z.o _root_.id,zm (ax.o.c _ _ rfl).2.1⟩
     try simp only[Act.put,pA,pB,pC]
     (((first|(refine xu 14 (by kernel_rfl) rfl rfl ?_;apply Exists.intro;refine⟨?_,?_⟩;(focus(first|exact zi2 rfl (λw h=>h.2) rfl|exact λw' _=>yl (t:=54) rfl rfl (XY _ _ _ _ _ _ w')|(intro w' hS;obtain⟨m,q⟩:=hS;exact goS))))|(refine xw 14 (by kernel_rfl) rfl rfl ?_));try simp only[Act.put,pA,pB,pC]))
     refine xJ 15 (by kernel_rfl) rfl rfl (λK' hK'=>?_)
     have ay:=J ax.o.stepQ
     refine yg (y4 rfl (YY _)) ?_
     refine hK'.out _ _ _ (λ_ h=>h) (λ_=>?_) (λhS=>?_)
     ·exact⟨ay.o.fr.cell z.o _root_.id,zm (ay.o.c _ _ rfl).2.1⟩
     try simp only[Act.put,pA,pB,pC]
     refine xJ 16 (by kernel_rfl) rfl rfl (λK' hK'=>?_)
     refine xx (zy (ty:=54) (cs:=[.slice aG S.length aH,.slice bf (zJ bs).length bo]) rfl rfl rfl (zM (ay.o.q _ rfl).2 (le_refl 2)) infoState Jd) ?_
     refine hK'.out _ _ (λ_=>False) (λ_ h=>h.elim) (λh=>absurd rfl h) (λhS=>?_)
     try simp only[Act.put,pA,pB,pC]
     refine j8 (hK.out _ _ ?_)
     go_wp2_with fail
     go_meet
     case rel=>exact⟨_,_,rfl,ay.o.sx s.o o.o N.o⟩
    ·have ad:=J R.o.stepQ
     refine yg (y4 rfl (YY _)) ?_
     refine hK'.out _ _ _ (λ_ h=>h) (λ_=>?_) (λhS=>?_)
     ·exact⟨ad.o.fr.cell z.o _root_.id,zm (ad.o.c _ _ rfl).2.1⟩
     try simp only[Act.put,pA,pB,pC]
     refine xJ 13 (by kernel_rfl) rfl rfl (λK' hK'=>?_)
     obtain⟨bK,bT,a,l,f,g⟩:=qT (P:=prog) _ c.heap.size 52 52 40 32 32 _ jS qW rfl (by decide) aJ 0 [] (ad.o.a _ _ _ rfl) _ (zJ bs).length _ (S3.o.keep ad.o.fr (λ_ _=>_root_.id)) (qI o.o) qJ (by have:=M.o;omega) (by unfold maxLen;have:=M.o;omega) ad.o.fr.size
     have an:=@J (Pg c bT S _ (some (bK,(zJ bs).length,(zJ bs).flatMap zl)) _) (ad.o.stepP f (by simpa using l) g)
     refine zQ rfl rfl rfl a ?_
     obtain⟨bg,bp,rfl⟩:=(an.o.a _ _ _ rfl).slice.arg.form
     clear a l f g
     refine hK'.out _ _ _ (λ_ h=>h) (λ_=>?_) (λhS=>?_)
     ·exact⟨an.o.fr.cell z.o _root_.id,zm (an.o.c _ _ rfl).2.1⟩
     try simp only[Act.put,pA,pB,pC]
     (((first|(refine xu 14 (by kernel_rfl) rfl rfl ?_;apply Exists.intro;refine⟨?_,?_⟩;(focus(first|exact zi2 rfl (λw h=>h.2) rfl|exact λw' _=>yl (t:=54) rfl rfl (XY _ _ _ _ _ _ w')|(intro w' hS;obtain⟨m,q⟩:=hS;exact goS))))|(refine xw 14 (by kernel_rfl) rfl rfl ?_));try simp only[Act.put,pA,pB,pC]))
     refine xJ 16 (by kernel_rfl) rfl rfl (λK' hK'=>?_)
     refine xx (zy (ty:=54) (cs:=[.slice aG S.length aH,.slice bg (zJ bs).length bp]) rfl rfl rfl (zM (an.o.q _ rfl).2 (le_refl 2)) infoState Jd) ?_
     refine hK'.out _ _ (λ_=>False) (λ_ h=>h.elim) (λh=>absurd rfl h) (λhS=>?_)
     try simp only[Act.put,pA,pB,pC]
     refine j8 (hK.out _ _ ?_)
     go_wp2_with fail
     go_meet
     case rel=>exact⟨_,_,rfl,an.o.sx s.o o.o N.o⟩
   ·have az:=J al.o.stepQ
    refine yg (y4 rfl (YY _)) ?_
    refine hK'.out _ _ _ (λ_ h=>h) (λ_=>?_) (λhS=>?_)
    ·exact az.o.fr.cell z.o _root_.id
    try simp only[Act.put,pA,pB,pC]
    refine xJ 4 (by kernel_rfl) rfl rfl (λK' hK'=>?_)
    go_simp
    refine(Jt (az.o.fr.cell C2.o _root_.id) (S2.o.keep az.o.fr (λ_ _=>_root_.id)) s.o (by have:=SL.o;omega)).mono ?_
    rintro e wx ⟨bC,aN,aQ,rfl,Y,lx,V,ox⟩
    have ae:=J (az.o.stepC Y lx V ox)
    clear Y lx V ox
    refine hK'.out _ _ (λw'=>w'.cell? ⟨p,3,none⟩=some (.slice ia (zJ bs).length ic)∧w'.rangeAt bC 0 [.slice aN S.length aQ]) (λu hu=>?_) (λ_=>?_) (λhS=>?_)
    ·exact hu.1
    ·exact⟨ae.o.fr.cell z.o _root_.id,zm (ae.o.c _ _ rfl).2.1⟩
    try simp only[Act.put,pA,pB,pC]
    (((first|(refine xu 5 (by kernel_rfl) rfl rfl ?_;apply Exists.intro;refine⟨?_,?_⟩;(focus(first|exact zi2 rfl (λw h=>h.2) rfl|(intro w' hS;obtain⟨m,q⟩:=hS;exact goS))))|(refine xw 5 (by kernel_rfl) rfl rfl ?_));try simp only[Act.put,pA,pB,pC]);((first|(refine xu 6 (by kernel_rfl) rfl rfl ?_;apply Exists.intro;refine⟨?_,?_⟩;(focus(first|exact zi2 rfl (λw h=>h.2) rfl|(intro w' hS;obtain⟨m,q⟩:=hS;exact goS))))|(refine xw 6 (by kernel_rfl) rfl rfl ?_));try simp only[Act.put,pA,pB,pC]))
    refine xJ 13 (by kernel_rfl) rfl rfl (λK' hK'=>?_)
    obtain⟨bL,bU,a,l,f,g⟩:=qT (P:=prog) _ c.heap.size 52 52 40 32 32 _ jS qW rfl (by decide) aJ 0 [] (ae.o.a _ _ _ rfl) _ (zJ bs).length _ (S3.o.keep ae.o.fr (λ_ _=>_root_.id)) (qI o.o) qJ (by have:=M.o;omega) (by unfold maxLen;have:=M.o;omega) ae.o.fr.size
    have ao:=@J (Pg c bU S _ (some (bL,(zJ bs).length,(zJ bs).flatMap zl)) _) (ae.o.stepP f (by simpa using l) g)
    refine zQ rfl rfl rfl a ?_
    obtain⟨bh,bq,rfl⟩:=(ao.o.a _ _ _ rfl).slice.arg.form
    clear a l f g
    refine hK'.out _ _ _ (λ_ h=>h) (λ_=>?_) (λhS=>?_)
    ·exact⟨ao.o.fr.cell z.o _root_.id,zm (ao.o.c _ _ rfl).2.1⟩
    try simp only[Act.put,pA,pB,pC]
    (((first|(refine xu 14 (by kernel_rfl) rfl rfl ?_;apply Exists.intro;refine⟨?_,?_⟩;(focus(first|exact zi2 rfl (λw h=>h.2) rfl|exact λw' _=>yl (t:=54) rfl rfl (XY _ _ _ _ _ _ w')|(intro w' hS;obtain⟨m,q⟩:=hS;exact goS))))|(refine xw 14 (by kernel_rfl) rfl rfl ?_));try simp only[Act.put,pA,pB,pC]))
    refine xJ 16 (by kernel_rfl) rfl rfl (λK' hK'=>?_)
    refine xx (zy (ty:=54) (cs:=[.slice aN S.length aQ,.slice bh (zJ bs).length bq]) rfl rfl rfl (zM (ao.o.q _ rfl).2 (le_refl 2)) infoState Jd) ?_
    refine hK'.out _ _ (λ_=>False) (λ_ h=>h.elim) (λh=>absurd rfl h) (λhS=>?_)
    try simp only[Act.put,pA,pB,pC]
    refine j8 (hK.out _ _ ?_)
    go_wp2_with fail
    go_meet
    case rel=>exact⟨_,_,rfl,ao.o.sx s.o o.o N.o⟩
  ·have af:=J P0.o.stepQ
   refine yg (y4 rfl (YY _)) ?_
   refine hK'.out _ _ _ (λ_ h=>h) (λ_=>?_) (λhS=>?_)
   ·exact af.o.fr.cell z.o _root_.id
   try simp only[Act.put,pA,pB,pC]
   refine Ya 4 7 (by kernel_rfl) rfl rfl rfl rfl (λK' hK'=>?_) (λK' hK'=>?_)
   ·go_simp
    refine(Jt (af.o.fr.cell C2.o _root_.id) (S2.o.keep af.o.fr (λ_ _=>_root_.id)) s.o (by have:=SL.o;omega)).mono ?_
    rintro e wx ⟨bD,aO,aR,rfl,Y,lx,V,ox⟩
    have aA:=J (af.o.stepC Y lx V ox)
    clear Y lx V ox
    refine hK'.out _ _ (λw'=>w'.cell? ⟨p,3,none⟩=some (.slice ia (zJ bs).length ic)∧w'.rangeAt bD 0 [.slice aO S.length aR]) (λu hu=>?_) (λ_=>?_) (λhS=>?_)
    ·exact hu.1
    ·exact⟨aA.o.fr.cell z.o _root_.id,zm (aA.o.c _ _ rfl).2.1⟩
    try simp only[Act.put,pA,pB,pC]
    (((first|(refine xu 5 (by kernel_rfl) rfl rfl ?_;apply Exists.intro;refine⟨?_,?_⟩;(focus(first|exact zi2 rfl (λw h=>h.2) rfl|(intro w' hS;obtain⟨m,q⟩:=hS;exact goS))))|(refine xw 5 (by kernel_rfl) rfl rfl ?_));try simp only[Act.put,pA,pB,pC]);((first|(refine xu 6 (by kernel_rfl) rfl rfl ?_;apply Exists.intro;refine⟨?_,?_⟩;(focus(first|exact zi2 rfl (λw h=>h.2) rfl|(intro w' hS;obtain⟨m,q⟩:=hS;exact goS))))|(refine xw 6 (by kernel_rfl) rfl rfl ?_));try simp only[Act.put,pA,pB,pC]))
    refine xJ 7 (by kernel_rfl) rfl rfl (λK' hK'=>?_)
    obtain⟨bM,b2,a,l,f,g⟩:=jZ (P:=prog) zbp c.heap.size aA.o.fr.size
    have ag:=J (aA.o.stepA f l g)
    refine yg (qG (t:=52) (vs:=[]) rfl rfl a) ?_
    clear a l f g
    refine hK'.out _ _ _ (λ_ h=>h) (λ_=>?_) (λhS=>?_)
    ·exact⟨ag.o.fr.cell z.o _root_.id,zm (ag.o.c _ _ rfl).2.1⟩
    try simp only[Act.put,pA,pB,pC]
    refine xJ 13 (by kernel_rfl) rfl rfl (λK' hK'=>?_)
    obtain⟨bN,bV,a,l,f,g⟩:=qT (P:=prog) _ c.heap.size 52 52 40 32 32 _ jS qW rfl (by decide) bM 0 [] (ag.o.a _ _ _ rfl) _ (zJ bs).length _ (S3.o.keep ag.o.fr (λ_ _=>_root_.id)) (qI o.o) qJ (by have:=M.o;omega) (by unfold maxLen;have:=M.o;omega) ag.o.fr.size
    have aq:=@J (Pg c bV S _ (some (bN,(zJ bs).length,(zJ bs).flatMap zl)) _) (ag.o.stepP f (by simpa using l) g)
    refine zQ rfl rfl rfl a ?_
    obtain⟨bj,br,rfl⟩:=(aq.o.a _ _ _ rfl).slice.arg.form
    clear a l f g
    refine hK'.out _ _ _ (λ_ h=>h) (λ_=>?_) (λhS=>?_)
    ·exact⟨aq.o.fr.cell z.o _root_.id,zm (aq.o.c _ _ rfl).2.1⟩
    try simp only[Act.put,pA,pB,pC]
    (((first|(refine xu 14 (by kernel_rfl) rfl rfl ?_;apply Exists.intro;refine⟨?_,?_⟩;(focus(first|exact zi2 rfl (λw h=>h.2) rfl|exact λw' _=>yl (t:=54) rfl rfl (XY _ _ _ _ _ _ w')|(intro w' hS;obtain⟨m,q⟩:=hS;exact goS))))|(refine xw 14 (by kernel_rfl) rfl rfl ?_));try simp only[Act.put,pA,pB,pC]))
    refine xJ 16 (by kernel_rfl) rfl rfl (λK' hK'=>?_)
    refine xx (zy (ty:=54) (cs:=[.slice aO S.length aR,.slice bj (zJ bs).length br]) rfl rfl rfl (zM (aq.o.q _ rfl).2 (le_refl 2)) infoState Jd) ?_
    refine hK'.out _ _ (λ_=>False) (λ_ h=>h.elim) (λh=>absurd rfl h) (λhS=>?_)
    try simp only[Act.put,pA,pB,pC]
    refine j8 (hK.out _ _ ?_)
    go_wp2_with fail
    go_meet
    case rel=>exact⟨_,_,rfl,aq.o.sx s.o o.o N.o⟩
   ·obtain⟨bO,b3,a,l,f,g⟩:=jZ (P:=prog) zbp c.heap.size af.o.fr.size
    have aB:=J (af.o.stepA f l g)
    refine yg (qG (t:=52) (vs:=[]) rfl rfl a) ?_
    clear a l f g
    refine hK'.out _ _ _ (λ_ h=>h) (λ_=>?_) (λhS=>?_)
    ·exact aB.o.fr.cell z.o _root_.id
    try simp only[Act.put,pA,pB,pC]
    refine xJ 4 (by kernel_rfl) rfl rfl (λK' hK'=>?_)
    go_simp
    refine(Jt (aB.o.fr.cell C2.o _root_.id) (S2.o.keep aB.o.fr (λ_ _=>_root_.id)) s.o (by have:=SL.o;omega)).mono ?_
    rintro e wx ⟨bE,aP,aS,rfl,Y,lx,V,ox⟩
    have ah:=J (aB.o.stepC Y lx V ox)
    clear Y lx V ox
    refine hK'.out _ _ (λw'=>w'.cell? ⟨p,3,none⟩=some (.slice ia (zJ bs).length ic)∧w'.rangeAt bE 0 [.slice aP S.length aS]) (λu hu=>?_) (λ_=>?_) (λhS=>?_)
    ·exact hu.1
    ·exact⟨ah.o.fr.cell z.o _root_.id,zm (ah.o.c _ _ rfl).2.1⟩
    try simp only[Act.put,pA,pB,pC]
    (((first|(refine xu 5 (by kernel_rfl) rfl rfl ?_;apply Exists.intro;refine⟨?_,?_⟩;(focus(first|exact zi2 rfl (λw h=>h.2) rfl|(intro w' hS;obtain⟨m,q⟩:=hS;exact goS))))|(refine xw 5 (by kernel_rfl) rfl rfl ?_));try simp only[Act.put,pA,pB,pC]);((first|(refine xu 6 (by kernel_rfl) rfl rfl ?_;apply Exists.intro;refine⟨?_,?_⟩;(focus(first|exact zi2 rfl (λw h=>h.2) rfl|(intro w' hS;obtain⟨m,q⟩:=hS;exact goS))))|(refine xw 6 (by kernel_rfl) rfl rfl ?_));try simp only[Act.put,pA,pB,pC]))
    refine xJ 13 (by kernel_rfl) rfl rfl (λK' hK'=>?_)
    obtain⟨bP,bW,a,l,f,g⟩:=qT (P:=prog) _ c.heap.size 52 52 40 32 32 _ jS qW rfl (by decide) bO 0 [] (ah.o.a _ _ _ rfl) _ (zJ bs).length _ (S3.o.keep ah.o.fr (λ_ _=>_root_.id)) (qI o.o) qJ (by have:=M.o;omega) (by unfold maxLen;have:=M.o;omega) ah.o.fr.size
    have ar:=@J (Pg c bW S _ (some (bP,(zJ bs).length,(zJ bs).flatMap zl)) _) (ah.o.stepP f (by simpa using l) g)
    refine zQ rfl rfl rfl a ?_
    obtain⟨bk,bt,rfl⟩:=(ar.o.a _ _ _ rfl).slice.arg.form
    clear a l f g
    refine hK'.out _ _ _ (λ_ h=>h) (λ_=>?_) (λhS=>?_)
    ·exact⟨ar.o.fr.cell z.o _root_.id,zm (ar.o.c _ _ rfl).2.1⟩
    try simp only[Act.put,pA,pB,pC]
    (((first|(refine xu 14 (by kernel_rfl) rfl rfl ?_;apply Exists.intro;refine⟨?_,?_⟩;(focus(first|exact zi2 rfl (λw h=>h.2) rfl|exact λw' _=>yl (t:=54) rfl rfl (XY _ _ _ _ _ _ w')|(intro w' hS;obtain⟨m,q⟩:=hS;exact goS))))|(refine xw 14 (by kernel_rfl) rfl rfl ?_));try simp only[Act.put,pA,pB,pC]))
    refine xJ 16 (by kernel_rfl) rfl rfl (λK' hK'=>?_)
    refine xx (zy (ty:=54) (cs:=[.slice aP S.length aS,.slice bk (zJ bs).length bt]) rfl rfl rfl (zM (ar.o.q _ rfl).2 (le_refl 2)) infoState Jd) ?_
    refine hK'.out _ _ (λ_=>False) (λ_ h=>h.elim) (λh=>absurd rfl h) (λhS=>?_)
    try simp only[Act.put,pA,pB,pC]
    refine j8 (hK.out _ _ ?_)
    go_wp2_with fail
    go_meet
    case rel=>exact⟨_,_,rfl,ar.o.sx s.o o.o N.o⟩
 case rest=>
  obtain⟨r,W,rfl,aV,fz⟩:=hcut
  have ai:=J aV
  have FC:=J (F1.o.drew.trans0 fz)
  have aF:=J (zb (zb RB.o (frN w1).drew id) fz id)
  have aY:=J (fz.obj ((frN w1).drew.obj HP.o id) id)
  have I:=@J (w.heap.size<w1.drew.heap.size) (Z1.o)
  have aK:=J (XZ ai.o (by have:=SL.o;omega) (by have:=M.o;omega) (b:=b) (cs:=[.int .u64 b.tag,.slice C b.pay.length E,.slice G b.txs.length H]) (λw' f=>BQ.o.keep ((HR.o.fr.trans0 FC.o).trans f (λj hj e=>by have:=ai.o.lo j e;have:=HR.o.fr.size;have:=I.o;omega))))
  clear aV fz
  generalize w1.drew=c at*
  by_cases hE:blE (zJ bs) S b=0
  rotate_left
  ·have jz:(blE (zJ bs) S b==0)=false:=by rw[beq_eq_false_iff_ne];exact hE
   have HE:=J hE
   clear hE
   have⟨K0,K1⟩:=tZ2
   go_wp2_with ((first|((with_reducible refine zt ?_);clear K0;refine ziS rfl rfl rfl aF.o rfl ?_)|(clear K1;go_at_call 36;refine aK.o.mono ?_;rintro e w5 ⟨rfl,f5,-⟩;have F5:=@J (Fr No w w5) (FC.o.trans f5 (λj hj e=>by have:=ai.o.lo j e;have:=I.o;omega));clear f5));go_frame)
   go_ret
   exact⟨rfl,F5.o.of0,U,(λe=>absurd e HE.o),(λ_=>HR.o.fr0 F5.o),λ_ e=>.inl e⟩
  have HE:=J hE
  clear hE
  have⟨K0,K1⟩:=tZ2
  go_wp2_with ((first|((with_reducible refine zt ?_);clear K0;refine ziS rfl rfl rfl aF.o rfl ?_)|(clear K1;go_at_call 36;refine aK.o.mono ?_;rintro e w5 ⟨rfl,f5,h5⟩;rw[HE.o];obtain⟨W5,x5,l5⟩:=h5 HE.o;have F5:=@J (Fr No w w5) (FC.o.trans f5 (λj hj e=>by have:=ai.o.lo j e;have:=I.o;omega));have X5:=J x5;have aL:=J (f5.obj aY.o (λe=>by have:=ai.o.lo p e;have:=I.o;have:=PL.o;omega));have a1:=J (zb aF.o f5 (λe=>by have:=ai.o.lo _ e;have:=I.o;omega));clear f5 h5 x5 l5));go_frame)
  have aX:=@J (w5.drew.cell? ⟨p,1,none⟩=some (.slice ba bs.length bc)) (by have:=zm ((frN w5).drew.obj aL.o id) 1 _ rfl;simpa using this)
  have R5:=J (zb a1.o (frN w5).drew id)
  have BV:=J (H2.o.keep F5.o.drew (λ_ _=>id))
  have B:=J ((frN w5).drew.obj aL.o id)
  have aC:=J F5.o.drew
  have a7:=J (X5.o.fr0 (frN w5).drew)
  have LB:=@J ((css.flatMap id).length=bs.length*3) (by rw[←HC.o.1];exact qU id 3 css HC.o.2.1)
  have OB:=@J (∀u∈css.flatMap id,u.oneCell'=true) (λu hu=>by
   obtain⟨x,hx,aW⟩:=List.mem_flatMap.1 hu
   obtain⟨i,hi⟩:=List.mem_iff_getElem?.1 hx
   have bw:i<bs.length:=by have:=(List.getElem?_eq_some_iff.1 hi).1;have:=HC.o.1;omega
   obtain⟨_,_,_,_,e⟩:=(HC.o.2.2 i _ x (getElem?_eq_getElem bw) hi).form
   rw[e] at aW
   exact jV u aW)
  go_cut [] from 33 to 44 (λwz=>∃v':Value,wz.heap[p]? =some (.cells #[fv,v',.slice ca S.length cc,.slice ia (zJ bs).length ic] 56 (0,0))∧wz.ownsRow w5.drew.heap.size 36 3 v' (bs.length+1) ((css++[[Value.int .u64 b.tag,Value.slice C b.pay.length E,Value.slice G b.txs.length H]]).flatMap id)∧Fr (λj=>j=p) w5.drew wz)
  case first=>
   have Q:=@J (∀w',Fr No w5.drew w'→w'.cell? ⟨p,1,none⟩=some (.slice ba bs.length bc)∧w'.rangeAt w.heap.size 0 [.int .u64 b.tag,.slice C b.pay.length E,.slice G b.txs.length H]) (λw' f=>⟨f.cell aX.o _root_.id,zb R5.o f _root_.id⟩)
   refine VH 13 12 [0,1,2,3,4,5,6,7,8,9,10,11,12] (λw'=>w'.cell? ⟨p,1,none⟩=some (.slice ba bs.length bc)∧w'.rangeAt w.heap.size 0 [.int .u64 b.tag,.slice C b.pay.length E,.slice G b.txs.length H]) (by kernel_rfl) (by kernel_rfl) (by kernel_rfl) (by kernel_rfl) (by kernel_rfl) ?_ (λK hK=>?_)
   ·exact Q.o _ (Fr.refl _ _)
   generalize w5.drew=kd at*
   (((first|(refine vS 0 (by kernel_rfl) rfl rfl ?_;apply Exists.intro;refine⟨?_,?_⟩;(focus(first|exact ziZ rfl (λw h=>h.2) rfl|(intro w' hS;obtain⟨m,q⟩:=hS;exact goS))))|(refine vT 0 (by kernel_rfl) rfl rfl ?_));try simp only[Act.put,pA,pB,pC]);((first|(refine vS 2 (by kernel_rfl) rfl rfl ?_;apply Exists.intro;refine⟨?_,?_⟩;(focus(first|exact ziZ rfl (λw h=>h.2) rfl|(intro w' hS;obtain⟨m,q⟩:=hS;exact goS))))|(refine vT 2 (by kernel_rfl) rfl rfl ?_));try simp only[Act.put,pA,pB,pC]);((first|(refine vS 3 (by kernel_rfl) rfl rfl ?_;apply Exists.intro;refine⟨?_,?_⟩;(focus(first|exact ziZ rfl (λw h=>h.2) rfl|(intro w' hS;obtain⟨m,q⟩:=hS;exact goS))))|(refine vT 3 (by kernel_rfl) rfl rfl ?_));try simp only[Act.put,pA,pB,pC]);((first|(refine vS 4 (by kernel_rfl) rfl rfl ?_;apply Exists.intro;refine⟨?_,?_⟩;(focus(first|exact ziZ rfl (λw h=>h.2) rfl|(intro w' hS;obtain⟨m,q⟩:=hS;exact goS))))|(refine vT 4 (by kernel_rfl) rfl rfl ?_));try simp only[Act.put,pA,pB,pC]);((first|(refine vS 5 (by kernel_rfl) rfl rfl ?_;apply Exists.intro;refine⟨?_,?_⟩;(focus(first|exact ziZ rfl (λw h=>h.2) rfl|(intro w' hS;obtain⟨m,q⟩:=hS;exact goS))))|(refine vT 5 (by kernel_rfl) rfl rfl ?_));try simp only[Act.put,pA,pB,pC]);((first|(refine vS 7 (by kernel_rfl) rfl rfl ?_;apply Exists.intro;refine⟨?_,?_⟩;(focus(first|exact ziZ rfl (λw h=>h.2) rfl|(intro w' hS;obtain⟨m,q⟩:=hS;exact goS))))|(refine vT 7 (by kernel_rfl) rfl rfl ?_));try simp only[Act.put,pA,pB,pC]))
   refine zbC 1 8 (by kernel_rfl) rfl rfl rfl rfl (λK' hK'=>?_) (λK' hK'=>?_)
   ·skip
    obtain⟨v1,k1,a,A⟩:=((AB.start kd)).new0 ZZ
    have A1:=J A
    refine yg (qG (t:=48) (vs:=[]) rfl rfl a) ?_
    clear a A
    refine hK'.out _ _ (λ_=>?_) (λhS=>?_)
    ·exact Q.o _ A1.o.fr
    try simp only[Act.put,pA,pB,pC]
    refine zbC 6 8 (by kernel_rfl) rfl rfl rfl rfl (λK' hK'=>?_) (λK' hK'=>?_)
    ·skip
     obtain⟨v2,k2,a,A⟩:=(A1.o).appS ZZ (BV.o.keep (A1.o).fr (λ_ _=>_root_.id)) LB.o OB.o (by omega) (by unfold maxLen;omega) 48
     have A2:=J A
     refine zQ rfl rfl rfl a ?_
     clear a A
     refine hK'.out _ _ (λ_=>?_) (λhS=>?_)
     ·exact Q.o _ A2.o.fr
     try simp only[Act.put,pA,pB,pC]
     refine vP 8 (by kernel_rfl) rfl rfl (λK' hK'=>?_)
     obtain⟨v3,k3,a,A⟩:=(A2.o.swap).new1 ZZ (cs:=[.int .u64 b.tag,.slice C b.pay.length E,.slice G b.txs.length H]) (by decide) rfl
     have A3:=J A
     refine yg (qG (t:=48) (vs:=[(0,.agg #[.int .u64 b.tag,.slice C b.pay.length E,.slice G b.txs.length H])]) rfl rfl a) ?_
     clear a A
     refine hK'.out _ _ (λ_=>?_) (λhS=>?_)
     ·exact Q.o _ A3.o.fr
     try simp only[Act.put,pA,pB,pC]
     refine vP 9 (by kernel_rfl) rfl rfl (λK' hK'=>?_)
     obtain⟨v4,Z,a,o4,X⟩:=(A3.o.swap).join ZZ (T:=[.int .u64 b.tag,.slice C b.pay.length E,.slice G b.txs.length H]) rfl jV (by omega) (by unfold maxLen;omega) (zaM ((A3.o.swap).b1 _ _ _ rfl)) 48
     refine zQ rfl rfl rfl a ?_
     rw[show 0+bs.length+1=bs.length+1 by omega,nil_append] at o4
     obtain⟨xa,xc,rfl⟩:=o4.slice.arg.form
     have O4:=J o4
     have F4:=J X
     have L:=J (X.obj B.o _root_.id)
     have c4:=(Q.o _ X).1
     have aT:=qZ L.o 1
     clear a o4 X
     refine hK'.out _ _ (λ_=>?_) (λhS=>?_)
     ·exact Q.o _ F4.o
     try simp only[Act.put,pA,pB,pC]
     (((first|(refine vS 10 (by kernel_rfl) rfl rfl ?_;apply Exists.intro;refine⟨?_,?_⟩;(focus(first|(intro w' hS;obtain⟨m,q⟩:=hS;exact goS))))|(refine vT 10 (by kernel_rfl) rfl rfl ?_));try simp only[Act.put,pA,pB,pC]);((first|(refine vS 11 (by kernel_rfl) rfl rfl ?_;apply Exists.intro;refine⟨?_,?_⟩;(focus(first|(intro w' hS;obtain⟨m,q⟩:=hS;exact goS))))|(refine vT 11 (by kernel_rfl) rfl rfl ?_));try simp only[Act.put,pA,pB,pC]))
     refine vP 12 (by kernel_rfl) rfl rfl (λK' hK'=>?_)
     go_simp
     refine hK'.out _ _ (λh=>absurd rfl h) (λhS=>?_)
     refine Vf (hK.out _ _ ?_)
     go_wp2_with fail
     go_meet
     case rel=>
      have fs:Fr (λj=>j=p) Z (Z.setCell ⟨p,1,none⟩ (.slice xa (bs.length+1) xc)):=(Fr.refl (λj=>j=p) Z).setCell ⟨p,1,none⟩ (.inr rfl) _
      have hq:=heap_setCell_same Z p 1 _ _ (.slice xa (bs.length+1) xc) L.o
      have pk:=yu B.o
      refine⟨_,by simpa using hq,?_,F4.o.of0.trans fs (λ_ _ e=>e)⟩
      have O:=zf O4.o fs (λj e u=>by have:=(O4.o.lt j e).1;omega)
      rw[List.flatMap_append]
      simpa using O
    ·skip
     obtain⟨v2,k2,a,A⟩:=(A1.o.swap).new1 ZZ (cs:=[.int .u64 b.tag,.slice C b.pay.length E,.slice G b.txs.length H]) (by decide) rfl
     have A2:=J A
     refine yg (qG (t:=48) (vs:=[(0,.agg #[.int .u64 b.tag,.slice C b.pay.length E,.slice G b.txs.length H])]) rfl rfl a) ?_
     clear a A
     refine hK'.out _ _ (λ_=>?_) (λhS=>?_)
     ·exact Q.o _ A2.o.fr
     try simp only[Act.put,pA,pB,pC]
     refine vP 6 (by kernel_rfl) rfl rfl (λK' hK'=>?_)
     obtain⟨v3,k3,a,A⟩:=(A2.o.swap).appS ZZ (BV.o.keep (A2.o.swap).fr (λ_ _=>_root_.id)) LB.o OB.o (by omega) (by unfold maxLen;omega) 48
     have A3:=J A
     refine zQ rfl rfl rfl a ?_
     clear a A
     refine hK'.out _ _ (λ_=>?_) (λhS=>?_)
     ·exact Q.o _ A3.o.fr
     try simp only[Act.put,pA,pB,pC]
     refine vP 9 (by kernel_rfl) rfl rfl (λK' hK'=>?_)
     obtain⟨v4,Z,a,o4,X⟩:=(A3.o).join ZZ (T:=[.int .u64 b.tag,.slice C b.pay.length E,.slice G b.txs.length H]) rfl jV (by omega) (by unfold maxLen;omega) (zaM ((A3.o).b1 _ _ _ rfl)) 48
     refine zQ rfl rfl rfl a ?_
     rw[show 0+bs.length+1=bs.length+1 by omega,nil_append] at o4
     obtain⟨xa,xc,rfl⟩:=o4.slice.arg.form
     have O4:=J o4
     have F4:=J X
     have L:=J (X.obj B.o _root_.id)
     have c4:=(Q.o _ X).1
     have aT:=qZ L.o 1
     clear a o4 X
     refine hK'.out _ _ (λ_=>?_) (λhS=>?_)
     ·exact Q.o _ F4.o
     try simp only[Act.put,pA,pB,pC]
     (((first|(refine vS 10 (by kernel_rfl) rfl rfl ?_;apply Exists.intro;refine⟨?_,?_⟩;(focus(first|(intro w' hS;obtain⟨m,q⟩:=hS;exact goS))))|(refine vT 10 (by kernel_rfl) rfl rfl ?_));try simp only[Act.put,pA,pB,pC]);((first|(refine vS 11 (by kernel_rfl) rfl rfl ?_;apply Exists.intro;refine⟨?_,?_⟩;(focus(first|(intro w' hS;obtain⟨m,q⟩:=hS;exact goS))))|(refine vT 11 (by kernel_rfl) rfl rfl ?_));try simp only[Act.put,pA,pB,pC]))
     refine vP 12 (by kernel_rfl) rfl rfl (λK' hK'=>?_)
     go_simp
     refine hK'.out _ _ (λh=>absurd rfl h) (λhS=>?_)
     refine Vf (hK.out _ _ ?_)
     go_wp2_with fail
     go_meet
     case rel=>
      have fs:Fr (λj=>j=p) Z (Z.setCell ⟨p,1,none⟩ (.slice xa (bs.length+1) xc)):=(Fr.refl (λj=>j=p) Z).setCell ⟨p,1,none⟩ (.inr rfl) _
      have hq:=heap_setCell_same Z p 1 _ _ (.slice xa (bs.length+1) xc) L.o
      have pk:=yu B.o
      refine⟨_,by simpa using hq,?_,F4.o.of0.trans fs (λ_ _ e=>e)⟩
      have O:=zf O4.o fs (λj e u=>by have:=(O4.o.lt j e).1;omega)
      rw[List.flatMap_append]
      simpa using O
   ·skip
    obtain⟨v1,k1,a,A⟩:=((AB.start kd)).new1 ZZ (cs:=[.int .u64 b.tag,.slice C b.pay.length E,.slice G b.txs.length H]) (by decide) rfl
    have A1:=J A
    refine yg (qG (t:=48) (vs:=[(0,.agg #[.int .u64 b.tag,.slice C b.pay.length E,.slice G b.txs.length H])]) rfl rfl a) ?_
    clear a A
    refine hK'.out _ _ (λ_=>?_) (λhS=>?_)
    ·exact Q.o _ A1.o.fr
    try simp only[Act.put,pA,pB,pC]
    refine vP 1 (by kernel_rfl) rfl rfl (λK' hK'=>?_)
    obtain⟨v2,k2,a,A⟩:=(A1.o.swap).new0 ZZ
    have A2:=J A
    refine yg (qG (t:=48) (vs:=[]) rfl rfl a) ?_
    clear a A
    refine hK'.out _ _ (λ_=>?_) (λhS=>?_)
    ·exact Q.o _ A2.o.fr
    try simp only[Act.put,pA,pB,pC]
    refine vP 6 (by kernel_rfl) rfl rfl (λK' hK'=>?_)
    obtain⟨v3,k3,a,A⟩:=(A2.o).appS ZZ (BV.o.keep (A2.o).fr (λ_ _=>_root_.id)) LB.o OB.o (by omega) (by unfold maxLen;omega) 48
    have A3:=J A
    refine zQ rfl rfl rfl a ?_
    clear a A
    refine hK'.out _ _ (λ_=>?_) (λhS=>?_)
    ·exact Q.o _ A3.o.fr
    try simp only[Act.put,pA,pB,pC]
    refine vP 9 (by kernel_rfl) rfl rfl (λK' hK'=>?_)
    obtain⟨v4,Z,a,o4,X⟩:=(A3.o).join ZZ (T:=[.int .u64 b.tag,.slice C b.pay.length E,.slice G b.txs.length H]) rfl jV (by omega) (by unfold maxLen;omega) (zaM ((A3.o).b1 _ _ _ rfl)) 48
    refine zQ rfl rfl rfl a ?_
    rw[show 0+bs.length+1=bs.length+1 by omega,nil_append] at o4
    obtain⟨xa,xc,rfl⟩:=o4.slice.arg.form
    have O4:=J o4
    have F4:=J X
    have L:=J (X.obj B.o _root_.id)
    have c4:=(Q.o _ X).1
    have aT:=qZ L.o 1
    clear a o4 X
    refine hK'.out _ _ (λ_=>?_) (λhS=>?_)
    ·exact Q.o _ F4.o
    try simp only[Act.put,pA,pB,pC]
    (((first|(refine vS 10 (by kernel_rfl) rfl rfl ?_;apply Exists.intro;refine⟨?_,?_⟩;(focus(first|(intro w' hS;obtain⟨m,q⟩:=hS;exact goS))))|(refine vT 10 (by kernel_rfl) rfl rfl ?_));try simp only[Act.put,pA,pB,pC]);((first|(refine vS 11 (by kernel_rfl) rfl rfl ?_;apply Exists.intro;refine⟨?_,?_⟩;(focus(first|(intro w' hS;obtain⟨m,q⟩:=hS;exact goS))))|(refine vT 11 (by kernel_rfl) rfl rfl ?_));try simp only[Act.put,pA,pB,pC]))
    refine vP 12 (by kernel_rfl) rfl rfl (λK' hK'=>?_)
    go_simp
    refine hK'.out _ _ (λh=>absurd rfl h) (λhS=>?_)
    refine Vf (hK.out _ _ ?_)
    go_wp2_with fail
    go_meet
    case rel=>
     have fs:Fr (λj=>j=p) Z (Z.setCell ⟨p,1,none⟩ (.slice xa (bs.length+1) xc)):=(Fr.refl (λj=>j=p) Z).setCell ⟨p,1,none⟩ (.inr rfl) _
     have hq:=heap_setCell_same Z p 1 _ _ (.slice xa (bs.length+1) xc) L.o
     have pk:=yu B.o
     refine⟨_,by simpa using hq,?_,F4.o.of0.trans fs (λ_ _ e=>e)⟩
     have O:=zf O4.o fs (λj e u=>by have:=(O4.o.lt j e).1;omega)
     rw[List.flatMap_append]
     simpa using O
  case rest=>
   obtain⟨v',aU,oz,fz⟩:=hcut
   obtain⟨na,nc,rfl⟩:=oz.slice.arg.form
   obtain⟨bY,U2,hR,hO,hd,hU⟩:=a7.o.ex
   obtain⟨rv,hb,hs,aI,bA⟩:=hR.ex
   obtain⟨sa,sc,rfl⟩:=hs.arg.form
   obtain⟨ta,tc,rfl⟩:=hO.slice.arg.form
   have bF:c.heap.size≤r:=hR.lo r (by rw[aI];exact .inl rfl)
   have RP:=@J (r≠p) (by have:=I.o;have:=PL.o;omega)
   have a6:=J (zm (fz.obj hb RP.o))
   have aD:=@J (∀j,(Value.slice sa (doR (zJ bs) S b).S.length sc).ownBlock=some j→c.heap.size≤j) (λj e=>hR.lo j (by rw[aI];exact .inr e))
   have aE:=@J (∀j,(Value.slice ta (zJ bs++(doR (zJ bs) S b).d.ids).length tc).ownBlock=some j→c.heap.size≤j) (λj e=>(hO.lt j e).1)
   have aM:=@J (∀j,(Value.slice na (bs.length+1) nc).ownBlock=some j→w5.drew.heap.size≤j) (λj e=>(oz.lt j e).1)
   have HS:=J (hs.keep fz (λj e u=>by have:=aD.o j e;have:=I.o;have:=PL.o;omega))
   have HI:=J (hO.slice.keep fz (λj e u=>by have:=aE.o j e;have:=I.o;have:=PL.o;omega))
   have HZ:=J aU
   have OZ:=J oz
   have FZ:=J fz
   clear aU oz fz hR hO hd hU hb hs aI bA bF
   generalize hD:doR (zJ bs) S b=D at*
   generalize bu:zJ bs++D.d.ids=KK at*
   have⟨K0,K1⟩:=tZ2
   go_wp2_with ((first|((with_reducible refine zt ?_);clear K0;refine zg rfl (ye (ty:=54) rfl rfl a6.o uS rS infoState) ?_)|((with_reducible refine zr ?_);clear K1;refine ze rfl (zy (ty:=54) (b:=p) (off:=2) (cs:=[.slice sa D.S.length sc,.slice ta KK.length tc]) rfl rfl rfl (XQ HZ.o) infoState Jd) ?_));go_frame)
   go_ret
   have fs:=zv p [.slice sa D.S.length sc,.slice ta KK.length tc] 2 wc
   have hf:=zfS (x:=.slice sa D.S.length sc) (y:=.slice ta KK.length tc) HZ.o
   have F6:Fr (λj=>j=p) w (wc.setCells p 2 [.slice sa D.S.length sc,.slice ta KK.length tc]):=(aC.o.of0.trans FZ.o (λ_ _ e=>e)).trans fs (λ_ _ e=>e)
   have ER:(doR (zJ bs) S b).E=0:=by
    have h:=HE.o
    unfold blE at h
    split at h
    ·split at h
     ·cases h
     ·exact h
    ·cases h
   have ED:D.d.blk=b:=by rw[←hD,(zhz ER).2.2.2]
   have CE:jb (zJ bs) S bs b=0:=by
    have h:=HE.o
    unfold jb
    unfold blE at h
    rw[if_neg (by omega)]
    exact h
   have aZ:zJ (bs++[D.d])=KK:=by rw[←bu];exact Zw bs D.d
   have sz:=fs.size
   have NP:∀ {v:Value} {n:Nat} {xs:List Value},yP wc v n xs→(∀j,v.ownBlock=some j→j≠p)→yP (wc.setCells p 2 [.slice sa D.S.length sc,.slice ta KK.length tc]) v n xs:=λh g=>h.keep fs (λj e u=>g j e u)
   have pl:=PL.o
   have zd:=I.o
   have z5:w.heap.size≤w5.drew.heap.size:=aC.o.size
   have bX:=HZ.o
   refine⟨by rw[HE.o];rfl,F6,λj=>U j∨(w.heap.size≤j∧j<(wc.setCells p 2 [.slice sa D.S.length sc,.slice ta KK.length tc]).heap.size),λ_=>?_,λe=>absurd HE.o e,λj e=>e.imp id (λe=>e.1)⟩
   rw[hD]
   refine {ex:=⟨fv,_,_,_,css++[[.int .u64 b.tag,.slice C b.pay.length E,.slice G b.txs.length H]],hf,NP (((H1.o.keep aC.o (λ_ _=>id)).keep FZ.o (λj e u=>(H8.o j (.inl e)).2 u))) (λj e=>(H8.o j (.inl e)).2),?_,?_,?_,?_,NP HS.o (λj e=>by have:=aD.o j e;omega),?_,?_⟩,up:=.inl HR.o.up,lo:= ?_,hi:= ?_,fr:=HR.o.fr.trans F6 (λi hi e=>by have:=HR.o.lo p HR.o.up;omega),fok:=HR.o.fok,fl:=HR.o.fl,hist:= ?_}
   ·rw[show(bs++[D.d]).length=bs.length+1 by simp]
    exact NP OZ.o.slice (λj e=>by have:=aM.o j e;omega)
   ·simp[HC.o.1]
   ·intro x hx
    rcases List.mem_append.1 hx with hx|hx
    ·exact HC.o.2.1 x hx
    ·rw[List.mem_singleton.1 hx];rfl
   ·intro i d x O h2
    by_cases hi:i<bs.length
    ·rw[List.getElem?_append_left hi] at O
     rw[List.getElem?_append_left (by rw[HC.o.1];exact hi)] at h2
     exact HC.o.2.2 i d x O h2
    ·have hl:i=bs.length:=by have:=(List.getElem?_eq_some_iff.1 O).1;simp at this;omega
     subst hl
     rw[List.getElem?_append_right (le_refl _),Nat.sub_self] at O
     rw[List.getElem?_append_right (by rw[HC.o.1];exact le_refl _),HC.o.1,Nat.sub_self] at h2
     cases O
     cases h2
     rw[ED]
     exact BQ.o
   ·rw[aZ]
    exact NP HI.o (λj e=>by have:=aE.o j e;omega)
   ·rintro j (e|e|e|e)
    ·exact⟨.inl (H8.o j (.inl e)).1,(H8.o j (.inl e)).2⟩
    ·have O:=aM.o j e
     have h2:=(OZ.o.lt j e).2
     exact⟨.inr ⟨by omega,by omega⟩,by omega⟩
    ·have O:=aD.o j e
     have h2:=HS.o.lt e
     exact⟨.inr ⟨by omega,by omega⟩,by omega⟩
    ·have O:=aE.o j e
     have h2:=HI.o.lt e
     exact⟨.inr ⟨by omega,by omega⟩,by omega⟩
   ·intro j e
    rcases e with e|e
    ·exact HR.o.lo j e
    ·have:=HR.o.fr.size;omega
   ·intro j e
    rcases e with e|e
    ·have:=HR.o.hi j e;have:=F6.size;omega
    ·exact e.2
   ·rw[←hD]
    exact .snoc HR.o.hist BQ.o.oks CE
end
theorem zaW {α:Type} {x y:List α} {k:Nat} (h:x.take k=y.take k) (e:x[k]? =y[k]?):x.take (k+1)=y.take (k+1):=by rw[List.take_add_one,List.take_add_one,h,e]
def zaA (w:World) (x y:List Int) (e:Ending) (w':World):Prop:=e=.returned (.bool (decide (x=y)))∧Fr No w w'
theorem zeu (w:World) (a b:Value) (x y:List Int) (o:xG w a x.length (x.map zu)) (p:xG w b y.length (y.map zu)) (s:x.length≤maxLen):
  Calls prog 54 #[a,b] w (zaA w x y):=by
 unfold maxLen at s
 obtain⟨T,U,rfl⟩:=o.form
 obtain⟨V,W,rfl⟩:=p.form
 by_cases hl:x.length=y.length
 ·have q:((x.length:Int) !=(y.length:Int))=false:=by simp[hl]
  have v:=J hl
  clear hl
  go_enter Tryz.func54,Tryz.ntmps54
  go_wp2
  go_loopw [13] (λi wr=>∃n:Nat,n≤x.length∧i=.int .i64 n∧x.take n=y.take n∧Fr No w wr) (λi _=>x.length-(intOf i).toNat)
  case atStart=>exact⟨0,zero_le _,rfl,rfl,Fr.refl _ _⟩
  case round=>
   obtain⟨n,X,rfl,g,j⟩:=hrel
   by_cases hlt:n<x.length
   ·have h:n<y.length:=by have:=v.o;omega
    rcases o with(⟨_,e,_⟩|⟨z,E,c1,I,m,P,C,Q⟩)|⟨_,_,_,e,_⟩
    ·omega
    rotate_left
    ·omega
    rcases p with(⟨_,e,_⟩|⟨A,F,c2,L,M,N,B,O⟩)|⟨_,_,_,e,_⟩
    ·omega
    rotate_left
    ·omega
    cases I
    cases L
    have t:=j.cell (C n (zu x[n]) (by rw[List.getElem?_map,getElem?_eq_getElem hlt];rfl)) id
    have u:=j.cell (B n (zu y[n]) (by rw[List.getElem?_map,getElem?_eq_getElem h];rfl)) id
    unfold zu at t u
    have G:=J g
    have Y:(n:Int)<(x.length:Int):=by omega
    have Z:(n:Int)<(y.length:Int):=by omega
    clear g m P C Q M N B O
    by_cases hx:x[n]=y[n]
    ·have r:(x[n] !=y[n])=false:=by simp[hx]
     have H:=J hx
     clear hx
     go_wp2
     refine wrLx [ff,ff,ff,ff,ff,ff,ff,ff,ff] (λw'=>w'.cell? ⟨z,E+n,none⟩=some (.int .u8 x[n])∧w'.cell? ⟨A,F+n,none⟩=some (.int .u8 y[n])) ?_ (λK hK=>?_)
     ·exact⟨t,u⟩
     repeat((first|(refine zn rfl ?_;constructor;constructor;(focus(rintro w' ⟨R,S⟩;exact goS)))|(refine zq rfl ?_));try simp only[Act.put,pA,pB,pC])
     refine zZ (hK.out _ _ ?_)
     go_wp2
     go_roundw
     case rel=>exact⟨n+1,by omega,by go_num,zaW G.o (by simp[H.o,hlt,h]),by(repeat(first|with_reducible exact Fr.refl _ _|with_reducible assumption|with_reducible refine Fr.drew ?_|with_reducible refine Fr.drewN ?_ _|with_reducible refine Fr.alloc ?_ _|with_reducible refine Fr.setCell ?_ _ (.inl (by simp<;>omega)) _))⟩
     case measure=>simp[intOf];omega
    ·have r:(x[n] !=y[n])=true:=by simp[hx]
     have d:decide (x=y)=false:=by
      simp only[decide_eq_false_iff_not]
      intro e;subst e;exact hx rfl
     have c:∀w',Fr No w w'→zaA w x y (.returned (.bool false)) w':=λw' f=>⟨by rw[d],f⟩
     have k:=J c
     clear c d hx
     go_wp2
     refine wrLx [ff,ff,ff,ff,ff,ff,ff,ff,ff] (λw'=>w'.cell? ⟨z,E+n,none⟩=some (.int .u8 x[n])∧w'.cell? ⟨A,F+n,none⟩=some (.int .u8 y[n])) ?_ (λK hK=>?_)
     ·exact⟨t,u⟩
     repeat((first|(refine zn rfl ?_;constructor;constructor;(focus(rintro w' ⟨R,S⟩;exact goS)))|(refine zq rfl ?_));try simp only[Act.put,pA,pB,pC])
     refine zZ (hK.out _ _ ?_)
     go_wp2
     go_ret
     exact k.o _ (by(repeat(first|with_reducible exact Fr.refl _ _|with_reducible assumption|with_reducible refine Fr.drew ?_|with_reducible refine Fr.drewN ?_ _|with_reducible refine Fr.alloc ?_ _|with_reducible refine Fr.setCell ?_ _ (.inl (by simp<;>omega)) _)))
   ·have l:n=x.length:=by omega
    have D:decide (x=y)=true:=by
     have m:=v.o
     rw[l,List.take_length,m,List.take_length] at g
     simp[g]
    have c:zaA w x y (.returned (.bool true)) wr:=⟨by rw[D],j⟩
    have k:=J c
    clear c D g l
    go_wp2
    go_ret
    exact k.o
 ·have q:((x.length:Int) !=(y.length:Int))=true:=by simp;omega
  have d:decide (x=y)=false:=by
   simp only[decide_eq_false_iff_not]
   intro e;subst e;exact hl rfl
  have c:∀w',Fr No w w'→zaA w x y (.returned (.bool false)) w':=λw' f=>⟨by rw[d],f⟩
  have k:=J c
  clear c d hl o p
  go_enter Tryz.func54,Tryz.ntmps54
  go_wp2
  go_ret
  exact k.o _ (by(repeat(first|with_reducible exact Fr.refl _ _|with_reducible assumption|with_reducible refine Fr.drew ?_|with_reducible refine Fr.drewN ?_ _|with_reducible refine Fr.alloc ?_ _|with_reducible refine Fr.setCell ?_ _ (.inl (by simp<;>omega)) _)))
theorem zha (w:World):(zeroValue 62).run prog w=.ok (.agg (txC 0 (.slice none 0 0) (.slice none 0 0)).toArray) w:=by kernel_rfl
theorem Zi {a b:Option Addr} {n m c d:Nat} (h:Value.slice a n c=.slice b m d):a=b∧n=m∧c=d:=by
 injection h with h1 h2 h3
 exact⟨h1,h2,h3⟩
theorem zfQ (w:World) {t:TxD} {cs ds:List Value} (m:TxQ w t cs) (hy:TxQ w t ds) (hI:t.ins.length≤1000) (hO:t.outs.length≤1000):
  Calls prog 38 #[.agg cs.toArray,.agg ds.toArray] w λe w'=>e=.returned (.bool true)∧Fr No w w':=by
 obtain⟨q,r,s,y,rfl,-,xi,xo⟩:=m
 obtain⟨X,G,Y,H,rfl,-,yi,yo⟩:=hy
 obtain⟨dO,uO,rO⟩:=Zt
 have zI:=vX
 have zO:=yA
 have f1:Fr No w (w.alloc (.cells #[.int .u32 t.ver,.slice q t.ins.length r,.slice s t.outs.length y] 62)):=(frN w).alloc _
 have P:Fr No (w.alloc (.cells #[.int .u32 t.ver,.slice q t.ins.length r,.slice s t.outs.length y] 62)) ((w.alloc (.cells #[.int .u32 t.ver,.slice q t.ins.length r,.slice s t.outs.length y] 62)).alloc (.cells #[.int .u32 t.ver,.slice X t.ins.length G,.slice Y t.outs.length H] 62)):=(frN _).alloc _
 obtain⟨a0,a1,a2,-⟩:=qF w t.ver (.slice q t.ins.length r) (.slice s t.outs.length y)
 obtain⟨b0,b1,b2,-⟩:=qF (w.alloc (.cells #[.int .u32 t.ver,.slice q t.ins.length r,.slice s t.outs.length y] 62)) t.ver (.slice X t.ins.length G) (.slice Y t.outs.length H)
 rw[show(w.alloc (.cells #[.int .u32 t.ver,.slice q t.ins.length r,.slice s t.outs.length y] 62)).heap.size=w.heap.size+1 by simp] at b0 b1 b2
 have c1:=P.cell a1 _root_.id
 have c2:=P.cell a2 _root_.id
 have C2:=J c2
 have B1:=J b1
 have B2:=J b2
 have I:=J (f1.trans0 P)
 have XI:=J (xi.keep0 I.o)
 have YI:=J (yi.keep0 I.o)
 have XO:=J (xo.keep I.o)
 have YO:=J (yo.keep I.o)
 clear f1 xi yi xo yo a1 a2
 have c0:=P.cell a0 _root_.id
 clear a0 P
 show Calls prog 38 #[.agg #[.int .u32 t.ver,.slice q t.ins.length r,.slice s t.outs.length y],.agg #[.int .u32 t.ver,.slice X t.ins.length G,.slice Y t.outs.length H]] w _
 go_enter Tryz.func38,Tryz.ntmps38
 go_wp2_with fail
 generalize ((w.alloc (.cells #[.int .u32 t.ver,.slice q t.ins.length r,.slice s t.outs.length y] 62)).alloc (.cells #[.int .u32 t.ver,.slice X t.ins.length G,.slice Y t.outs.length H] 62))=w2 at*
 clear c0 c1 c2 b0 b1 b2
 go_loopw [35] (λC wr=>∃n:Nat,C=.int .i64 n∧n≤t.ins.length∧Fr No w2 wr) (λC _=>t.ins.length-(intOf C).toNat)
 case atStart=>exact⟨0,rfl,zero_le _,Fr.refl _ _⟩
 case round=>
  obtain⟨n,rfl,hn,fr⟩:=hrel
  have F:=J fr
  clear fr
  by_cases d:n<t.ins.length
  ·have i1:(n:Int)<(t.ins.length:Int):=by omega
   obtain⟨x,m⟩:∃x,t.ins[n]? =some x:=⟨_,getElem?_eq_getElem d⟩
   obtain⟨bx,ox,cx,xs,j,g,D,E,rfl,b,Q⟩:=(XI.o.keep0 F.o).at_ m
   obtain⟨a,l,cy,ys,k,i,ma,mc,rfl,-,R⟩:=(YI.o.keep0 F.o).at_ m
   obtain⟨rfl,-,rfl⟩:=Zi j
   obtain⟨rfl,-,rfl⟩:=Zi k
   have O:=J b
   have PL:=J (zF b)
   have IL:=J (vl b (.slice D x.key.length E))
   have R1:=J g
   have U:=J (zfg i b)
   have KX:=J Q
   have KY:=J R
   have o:=J ((frN wr).alloc (.cells (inC x.from_ (.slice D x.key.length E)).toArray 106))
   have N:=J (jO wr (p:=x.from_) (kv:=.slice D x.key.length E) b)
   clear g i Q R j k m b
   have⟨Z,K1⟩:=tZ2
   go_wp2_with ((first|((with_reducible refine zt ?_);clear Z;refine ziV rfl rfl rfl R1.o IL.o ?_)|((with_reducible refine zr ?_);clear K1;refine zi4 (w:=wr) (cs:=inC x.from_ (.slice D x.key.length E)) rfl rfl rfl rfl IL.o qD ?_;generalize wr.alloc (.cells (inC x.from_ (.slice D x.key.length E)).toArray 106)=c at*));go_frame)
   have S:=J ((o.o.trans0 (frN c).drew))
   have V:=J (λ(W:World) (f:Fr No c W)=>(⟨zb N.o.1 f _root_.id,f.cell N.o.2 _root_.id,((F.o.trans0 o.o).trans0 f).cell B1.o _root_.id,zb U.o.1 (o.o.trans0 f) _root_.id,(o.o.trans0 f).cell U.o.2 _root_.id⟩:W.rangeAt wr.heap.size 0 (zi x.from_)∧W.cell? ⟨wr.heap.size,33,none⟩=some (.slice D x.key.length E)∧W.cell? ⟨w.heap.size+1,1,none⟩=some (.slice (some ⟨a,l,none⟩) t.ins.length G)∧W.rangeAt a (l+n*34) (zi x.from_)∧W.cell? ⟨a,l+n*34+33,none⟩=some (.slice ma x.key.length mc)))
   have M:=@J (Fr No c c.drew) ((frN c).drew)
   refine wrLx [ff,ff,ff,ff,ff,ff,ff,ff,ff,ff,ff,ff,ff,ff,ff,ff,ff,ff,tt,ff,ff] (λW=>W.rangeAt wr.heap.size 0 (zi x.from_)∧W.cell? ⟨wr.heap.size,33,none⟩=some (.slice D x.key.length E)∧W.cell? ⟨w.heap.size+1,1,none⟩=some (.slice (some ⟨a,l,none⟩) t.ins.length G)∧W.rangeAt a (l+n*34) (zi x.from_)∧W.cell? ⟨a,l+n*34+33,none⟩=some (.slice ma x.key.length mc)) ?_ (λK hK=>?_)
   ·exact V.o _ M.o
   generalize c.drew=z at*
   repeat((first|(refine zn rfl ?_;constructor;constructor;(focus(first|exact zi1 rfl (λw h=>h.1) PL.o|exact zi1 rfl (λw h=>h.2.2.2.1) PL.o|exact λw' h=>vi.exec_neq (u:=(zi x.from_).toArray) (v:=(zi x.from_).toArray) rfl rfl rfl (yF O.o) (yF O.o) true ⟨λ_=>rfl,λ_=>rfl⟩ w'|(rintro w' ⟨s1,s2,s3,s4,s5⟩;exact goS))))|(refine zq rfl ?_));try simp only[Act.put,pA,pB,pC])
   (refine zN rfl (λK' hK'=>?_))
   go_simp
   refine(zeu z _ _ x.key x.key (KX.o.2.keep (o.o.trans0 M.o)) (KY.o.2.keep (o.o.trans0 M.o)) KX.o.2.len).mono ?_
   rintro e w5 ⟨rfl,f5⟩
   have F5:=J f5
   clear f5
   have DT:=@J (decide (x.key=x.key)=true) (by simp)
   rw[DT.o]
   refine nXt hK' ?_ λhS=>?_
   ·exact V.o _ (M.o.trans0 F5.o)
   try simp only[Act.put,pA,pB,pC]
   repeat((first|(refine zn rfl ?_;constructor;constructor;(focus(first|(rintro w' ⟨s1,s2,s3,s4,s5⟩;exact goS))))|(refine zq rfl ?_));try simp only[Act.put,pA,pB,pC])
   refine zZ (hK.out _ _ ?_)
   go_wp2_with fail
   go_roundw
   case rel=>exact⟨n+1,by go_num,by omega,(F.o.trans0 o.o).trans0 (M.o.trans0 F5.o)⟩
   case measure=>simp[intOf];omega
  ·have B:n=t.ins.length:=by omega
   subst B
   clear d hn
   have i1:¬(t.ins.length:Int)<(t.ins.length:Int):=by omega
   have c2:=F.o.cell C2.o _root_.id
   go_wp2_with fail
   (try simp only[Exit.inBlock,Exit.then])
   clear c2
   go_loopw [65] (λC A=>∃n:Nat,C=.int .i64 n∧n≤t.outs.length∧Fr No w2 A) (λC _=>t.outs.length-(intOf C).toNat)
   case atStart=>exact⟨0,rfl,zero_le _,F.o⟩
   case round=>
    obtain⟨n,rfl,hn,fr⟩:=hrel
    have L:=J fr
    clear fr
    by_cases d:n<t.outs.length
    ·have i1:(n:Int)<(t.outs.length:Int):=by omega
     obtain⟨x,m⟩:∃x,t.outs[n]? =some x:=⟨_,getElem?_eq_getElem d⟩
     obtain⟨bx,ox,cx,j,g,-⟩:=(XO.o.keep L.o).at_ m
     obtain⟨a,l,cy,k,i,-⟩:=(YO.o.keep L.o).at_ m
     obtain⟨rfl,-,rfl⟩:=Zi j
     obtain⟨rfl,-,rfl⟩:=Zi k
     have OK:=J (XO.o.1 x (List.mem_of_getElem? m))
     have T:=J (z6 OK.o)
     have R1:=J g
     have U:=J i
     rename World=>A
     have o:=J ((frN A).alloc (.cells (zx x).toArray 68))
     have RA:=J (zK A (zx x) 68)
     clear g i j k m
     have⟨Z,K1⟩:=tZ2
     go_wp2_with ((first|((with_reducible refine zt ?_);clear Z;refine ziW rfl rfl rfl R1.o T.o ?_)|((with_reducible refine zr ?_);clear K1;refine zi5 (w:=A) (cs:=zx x) rfl rfl rfl rfl T.o zV ?_;generalize A.alloc (.cells (zx x).toArray 68)=c at*));go_frame)
     have S:=J (o.o.trans0 (frN c).drew)
     have V:=@J (c.drew.rangeAt A.heap.size 0 (zx x)∧c.drew.cell? ⟨w.heap.size+1,2,none⟩=some (.slice (some ⟨a,l,none⟩) t.outs.length H)∧c.drew.rangeAt a (l+n*33) (zx x)) (⟨zb RA.o (frN c).drew _root_.id,(L.o.trans0 S.o).cell B2.o _root_.id,zb U.o S.o _root_.id⟩)
     refine wrLx [ff,ff,ff,ff,ff,ff,ff] (λW=>W.rangeAt A.heap.size 0 (zx x)∧W.cell? ⟨w.heap.size+1,2,none⟩=some (.slice (some ⟨a,l,none⟩) t.outs.length H)∧W.rangeAt a (l+n*33) (zx x)) ?_ (λK hK=>?_)
     ·exact V.o
     generalize c.drew=z at*
     repeat((first|(refine zn rfl ?_;constructor;constructor;(focus(first|exact yY (ty:=68) rfl (λw h=>h.1) uO rO (by rw[T.o];exact yW)|exact yY (ty:=68) rfl (λw h=>h.2.2) uO rO (by rw[T.o];exact yW)|exact λw' h=>zfc.exec_neq (u:=(zx x).toArray) (v:=(zx x).toArray) rfl rfl rfl (J4 OK.o) (J4 OK.o) true ⟨λ_=>rfl,λ_=>rfl⟩ w'|(rintro w' ⟨s1,s2,s3⟩;exact goS))))|(refine zq rfl ?_));try simp only[Act.put,pA,pB,pC])
     refine zZ (hK.out _ _ ?_)
     go_wp2_with fail
     go_roundw
     case rel=>exact⟨n+1,by go_num,by omega,L.o.trans0 S.o⟩
     case measure=>simp[intOf];omega
    ·have B:n=t.outs.length:=by omega
     subst B
     clear d hn
     have i1:¬(t.outs.length:Int)<(t.outs.length:Int):=by omega
     go_wp2
     go_ret
     exact⟨rfl,I.o.trans0 L.o⟩
theorem zaq (w:World) {b:y7} {cs ds:List Value} (m:xT w b cs) (hy:xT w b ds) (hP:b.pay.length≤1000) (hT:b.txs.length≤1000) (hI:∀t∈b.txs,t.ins.length≤1000∧t.outs.length≤1000):
  Calls prog 14 #[.agg cs.toArray,.agg ds.toArray] w λe w'=>e=.returned (.bool true)∧Fr No w w':=by
 obtain⟨d,g,i,a,rfl,-,xp,xt⟩:=m
 obtain⟨E,F,I,o,rfl,-,yp,yt⟩:=hy
 obtain⟨dT,uT,rT⟩:=zcA
 have zT:=zha
 have f1:Fr No w (w.alloc (.cells #[.int .u64 b.tag,.slice d b.pay.length g,.slice i b.txs.length a] 36)):=(frN w).alloc _
 have r:Fr No (w.alloc (.cells #[.int .u64 b.tag,.slice d b.pay.length g,.slice i b.txs.length a] 36)) ((w.alloc (.cells #[.int .u64 b.tag,.slice d b.pay.length g,.slice i b.txs.length a] 36)).alloc (.cells #[.int .u64 b.tag,.slice E b.pay.length F,.slice I b.txs.length o] 36)):=(frN _).alloc _
 obtain⟨U,V,X,-⟩:=qC w (.int .u64 b.tag) (.slice d b.pay.length g) (.slice i b.txs.length a) 36
 obtain⟨Y,Z,L,-⟩:=qC (w.alloc (.cells #[.int .u64 b.tag,.slice d b.pay.length g,.slice i b.txs.length a] 36)) (.int .u64 b.tag) (.slice E b.pay.length F) (.slice I b.txs.length o) 36
 rw[show(w.alloc (.cells #[.int .u64 b.tag,.slice d b.pay.length g,.slice i b.txs.length a] 36)).heap.size=w.heap.size+1 by simp] at Y Z L
 have c1:=r.cell V _root_.id
 have c2:=r.cell X _root_.id
 have c0:=r.cell U _root_.id
 have Q:=J c2
 have P:=J L
 have p:=J (f1.trans0 r)
 have XP:=J (xp.keep p.o)
 have YP:=J (yp.keep p.o)
 have XT:=J (xt.keep0 p.o)
 have YT:=J (yt.keep0 p.o)
 have HI:=J hI
 clear f1 xp yp xt yt U V X hI r
 show Calls prog 14 #[.agg #[.int .u64 b.tag,.slice d b.pay.length g,.slice i b.txs.length a],.agg #[.int .u64 b.tag,.slice E b.pay.length F,.slice I b.txs.length o]] w _
 go_enter Tryz.func14,Tryz.ntmps14
 have SO:=J (zaR _ XP.o YP.o (by omega) (by omega))
 go_wp2_with (go_at_call 37;generalize ((w.alloc (.cells #[.int .u64 b.tag,.slice d b.pay.length g,.slice i b.txs.length a] 36)).alloc (.cells #[.int .u64 b.tag,.slice E b.pay.length F,.slice I b.txs.length o] 36))=w2 at*;refine SO.o.mono ?_;rintro e w3 ⟨bb,rfl,s,D⟩;obtain rfl:bb=true:=s.2 rfl;have F3:=J D;have d2:=D.cell Q.o _root_.id;have d3:=D.cell P.o _root_.id;clear D s)
 clear c0 c1 c2 Y Z L d2 d3
 go_loopw [31] (λN wr=>∃n:Nat,N=.int .i64 n∧n≤b.txs.length∧Fr No w2 wr) (λN _=>b.txs.length-(intOf N).toNat)
 case atStart=>exact⟨0,rfl,zero_le _,F3.o⟩
 case round=>
  obtain⟨n,rfl,hn,fr⟩:=hrel
  have l:=J fr
  clear fr
  by_cases u:n<b.txs.length
  ·have i1:(n:Int)<(b.txs.length:Int):=by omega
   obtain⟨t,m⟩:∃x,b.txs[n]? =some x:=⟨_,getElem?_eq_getElem u⟩
   obtain⟨C,G,cx,xs,A,v,j⟩:=(XT.o.keep0 l.o).at_ m
   obtain⟨c,H,cy,O,B,y,k⟩:=(YT.o.keep0 l.o).at_ m
   obtain⟨rfl,-,rfl⟩:=Zi A
   obtain⟨rfl,-,rfl⟩:=Zi B
   have T:=J (HI.o t (List.mem_of_getElem? m))
   have QX:=J j
   have QY:=J k
   have LX:=@J (xs.length=3) (by obtain⟨_,_,_,_,rfl,_⟩:=j;rfl)
   have LY:=@J (O.length=3) (by obtain⟨_,_,_,_,rfl,_⟩:=k;rfl)
   have q:=@J (Fr No wr wr.drew) ((frN wr).drew)
   have S:=@J (∀W,Fr No wr W→W.cell? ⟨w.heap.size,2,none⟩=some (.slice (some ⟨C,G,none⟩) b.txs.length a)∧W.cell? ⟨w.heap.size+1,2,none⟩=some (.slice (some ⟨c,H,none⟩) b.txs.length o)∧W.rangeAt C (G+n*3) xs∧W.rangeAt c (H+n*3) O) (λW f=>⟨(l.o.trans0 f).cell Q.o _root_.id,(l.o.trans0 f).cell P.o _root_.id,zb v f _root_.id,zb y f _root_.id⟩)
   clear v y j k A B m
   go_wp2_with fail
   refine wrLx [ff,ff,ff,ff,ff,ff,ff,ff,ff,ff,tt,ff] (λW=>W.cell? ⟨w.heap.size,2,none⟩=some (.slice (some ⟨C,G,none⟩) b.txs.length a)∧W.cell? ⟨w.heap.size+1,2,none⟩=some (.slice (some ⟨c,H,none⟩) b.txs.length o)∧W.rangeAt C (G+n*3) xs∧W.rangeAt c (H+n*3) O) ?_ (λK hK=>?_)
   ·exact S.o _ q.o
   generalize wr.drew=z at*
   repeat((first|(refine zn rfl ?_;constructor;constructor;(focus(first|exact yY (ty:=62) rfl (λw h=>h.2.2.1) uT rT (by rw[LX.o];exact qN)|exact yY (ty:=62) rfl (λw h=>h.2.2.2) uT rT (by rw[LY.o];exact qN)|(rintro w' ⟨s1,s2,s3,s4⟩;exact goS))))|(refine zq rfl ?_));try simp only[Act.put,pA,pB,pC])
   (refine zN rfl (λK' hK'=>?_))
   go_simp
   refine(zfQ z (QX.o.keep q.o) (QY.o.keep q.o) T.o.1 T.o.2).mono ?_
   rintro e w5 ⟨rfl,f5⟩
   have R:=J f5
   clear f5
   refine nXt hK' ?_ λhS=>?_
   ·exact S.o _ (q.o.trans0 R.o)
   try simp only[Act.put,pA,pB,pC]
   repeat((first|(refine zn rfl ?_;constructor;constructor;(focus(first|(rintro w' ⟨s1,s2,s3,s4⟩;exact goS))))|(refine zq rfl ?_));try simp only[Act.put,pA,pB,pC])
   refine zZ (hK.out _ _ ?_)
   go_wp2_with fail
   go_roundw
   case rel=>exact⟨n+1,by go_num,by omega,l.o.trans0 (q.o.trans0 R.o)⟩
   case measure=>simp[intOf];omega
  ·have M:n=b.txs.length:=by omega
   subst M
   clear u hn
   have i1:¬(b.txs.length:Int)<(b.txs.length:Int):=by omega
   go_wp2
   go_ret
   exact⟨rfl,p.o.trans0 l.o⟩
end Go.Proofs.YtmpamcnlineceaaGreatDoor
