/- pappusref07.Check: what tx.Check answers. -/
import Derived.Test.YtmpamcnlineceaaGreatDoorZG14
import Derived.Test.YtmpamcnlineceaaGreatDoorZG8
import Derived.Test.YtmpamcnlineceaaGreatDoorZG3
import Derived.Test.YtmpamcnlineceaaGreatDoorZG4
import Derived.Test.YtmpamcnlineceaaGreatDoorZG6
set_option linter.unusedVariables false
set_option linter.unusedSimpArgs false
set_option linter.unnecessarySimpa false
set_option linter.all false
set_option maxRecDepth 20000
set_option maxHeartbeats 16000000
namespace Go.Proofs.YtmpamcnlineceaaGreatDoor
open Go Go.RowKit Go.Maps Go.MapKept
open Go.Proofs.Tryz(prog)
open Nat(le_refl zero_le)
open List(length_append)
variable {B F:List Int} {i t:Nat}
theorem zg3:prog.underlying 60=some (.slice (prog.elem 60)):=by kernel_rfl
theorem zfj:(prog.info? (prog.elem 60)).map (λi=>i.size)=some 34:=by kernel_rfl
theorem zgY (w:World):(sizeOf (prog.elem 60)).run prog w=.ok 34 w:=by
 have h:=zfj
 cases hi:prog.info? (prog.elem 60) with
 |none=>rw[hi] at h;cases h
 |some i=>
  rw[hi] at h
  injection h with h
  simp[sizeOf,typeInfo,hi,h]
theorem zgr (a:Addr) (n b q:Nat) (c:q≤b) (w:World):
  (Instr.slice 60 (.slice (some a) n b) none (some (.int .i64 (q:Int))) none).run prog w=.ok (.slice (some a) q b) w:=by
 rw[run_slice_h w 60 (some a) n b zg3 .i64 q (by omega) (by omega),zgY]
 simp[Result.andThen,sliced,Addr.add]
theorem zhT {l:List yk} (h:∀x∈l,0≤x.value) {n:Nat} {x:yk} (a:l[n]? =some x) (b:1125899906842624-xW (l.take n)<x.value):1125899906842624<xW l:=by
 have:=zar h (n+1)
 rw[Yz a] at this
 omega
theorem QC (w:World) {t:TxD} {cs:List Value} (ht:TxQ w t cs):
  Calls prog 70 #[.agg cs.toArray] w (xO w t):=by
 have HT:=J ht
 obtain⟨L,G,M,N,rfl,hv,hi,ho⟩:=ht
 have zI:=vX
 have zO:=yA
 have O:=J ((frN w).alloc (.cells #[.int .u32 t.ver,.slice L t.ins.length G,.slice M t.outs.length N] 62))
 obtain⟨-,c1,c2,r0⟩:=qF w t.ver (.slice L t.ins.length G) (.slice M t.outs.length N)
 have X:=J c1
 have C2:=J c2
 have R0:=J r0
 have HI:=J (hi.keep0 O.o)
 have HO:=J (ho.keep O.o)
 have Y:=J (zad (w.alloc (.cells #[.int .u32 t.ver,.slice L t.ins.length G,.slice M t.outs.length N] 62)) (HT.o.keep O.o))
 clear hi ho hv c1 c2 r0
 show Calls prog 70 #[.agg #[.int .u32 t.ver,.slice L t.ins.length G,.slice M t.outs.length N]] w _
 by_cases d:yV t=true
 rotate_left
 ·have u:yV t=false:=by simpa using d
  have q:=@J (∀w',Fr No w w'→xO w t (.returned (.int .i64 5)) w') (λw' f=>⟨by simp[yM,u],f⟩)
  rw[u] at Y
  clear d u
  go_enter Tryz.func70,Tryz.ntmps70
  go_wp2_with (first|(refine ziU rfl rfl rfl R0.o rfl ?_;generalize w.alloc (.cells #[.int .u32 t.ver,.slice L t.ins.length G,.slice M t.outs.length N] 62)=w1 at*)|(go_at_call 57;refine Y.o.mono ?_;rintro e w2 ⟨rfl,j⟩;have c:=J j;have C:=J (O.o.trans0 j);have d1:=c.o.cell X.o id;have d2:=c.o.cell C2.o id;clear j))
  go_ret
  exact q.o _ C.o
 obtain⟨hk,ae,ah⟩:=qi.1 d
 rw[d] at Y
 by_cases h0:t.ins.length=0
 ·have q:=@J (∀w',Fr No w w'→xO w t (.returned (.int .i64 9)) w') (λw' f=>⟨by simp[yM,d,h0],f⟩)
  have jz:((t.ins.length:Int)==0)=true:=by simp[h0]
  clear hk ae ah d h0
  go_enter Tryz.func70,Tryz.ntmps70
  go_wp2_with (first|(refine ziU rfl rfl rfl R0.o rfl ?_;generalize w.alloc (.cells #[.int .u32 t.ver,.slice L t.ins.length G,.slice M t.outs.length N] 62)=w1 at*)|(go_at_call 57;refine Y.o.mono ?_;rintro e w2 ⟨rfl,j⟩;have c:=J j;have C:=J (O.o.trans0 j);have d1:=c.o.cell X.o id;have d2:=c.o.cell C2.o id;clear j))
  go_ret
  exact q.o _ C.o
 have jz:((t.ins.length:Int)==0)=false:=by rw[beq_eq_false_iff_ne];omega
 by_cases h1:t.outs.length=0
 ·have q:=@J (∀w',Fr No w w'→xO w t (.returned (.int .i64 9)) w') (λw' f=>⟨by simp[yM,d,h1],f⟩)
  have jy:((t.outs.length:Int)==0)=true:=by simp[h1]
  clear hk ae ah d h0 h1
  go_enter Tryz.func70,Tryz.ntmps70
  go_wp2_with (first|(refine ziU rfl rfl rfl R0.o rfl ?_;generalize w.alloc (.cells #[.int .u32 t.ver,.slice L t.ins.length G,.slice M t.outs.length N] 62)=w1 at*)|(go_at_call 57;refine Y.o.mono ?_;rintro e w2 ⟨rfl,j⟩;have c:=J j;have C:=J (O.o.trans0 j);have d1:=c.o.cell X.o id;have d2:=c.o.cell C2.o id;clear j))
  go_ret
  exact q.o _ C.o
 have jy:((t.outs.length:Int)==0)=false:=by rw[beq_eq_false_iff_ne];omega
 have I:=@J (((∃x∈t.outs,xX x=true)∨1125899906842624<xW t.outs)→∀w',Fr No w w'→xO w t (.returned (.int .i64 11)) w') (λh w' f=>⟨by
  unfold yM
  rw[if_pos d,if_neg (by omega)]
  by_cases hb:t.outs.any xX=true
  ·rw[if_pos hb]
  ·rw[if_neg hb,if_pos (h.resolve_left (λh=>hb (List.any_eq_true.2 h)))],f⟩)
 have an:=@J (t.outs.any xX=false→¬1125899906842624<xW t.outs→∀w',Fr No w w'→xO w t (.returned (.int .i64 (if(yI t).Nodup then 0 else 12))) w') (λh h' w' f=>⟨by
  have e:yM t=if(yI t).Nodup then 0 else 12:=by
   unfold yM
   rw[if_pos d,if_neg (by omega),if_neg (by rw[h];simp),if_neg h']
  rw[e],f⟩)
 clear hk d h0 h1
 go_enter Tryz.func70,Tryz.ntmps70
 go_wp2_with (first|(refine ziU rfl rfl rfl R0.o rfl ?_;generalize w.alloc (.cells #[.int .u32 t.ver,.slice L t.ins.length G,.slice M t.outs.length N] 62)=w1 at*)|(go_at_call 57;refine Y.o.mono ?_;rintro e w2 ⟨rfl,j⟩;have c:=J j;have C:=J (O.o.trans0 j);have d1:=c.o.cell X.o id;have d2:=c.o.cell C2.o id;clear j))
 clear d1 d2 jz jy
 go_loopw [3,26] (λsv B wr=>∃n:Nat,B=.int .i64 n∧n≤t.outs.length∧sv=.int .u64 (1125899906842624-xW (t.outs.take n))∧xW (t.outs.take n)≤1125899906842624∧(∀x∈t.outs.take n,xX x=false)∧Fr No w2 wr) (λ_ B _=>t.outs.length-(intOf B).toNat)
 case atStart=>exact⟨0,rfl,zero_le _,rfl,by simp[xW],by simp,Fr.refl _ _⟩
 case round=>
  obtain⟨n,rfl,hn,rfl,o,K,fr⟩:=hrel
  have FR:=J fr
  have AL:=J K
  have LE:=J o
  have al:=J ((HO.o.keep c.o).keep fr)
  have aj:=Yy (l:=t.outs.take n) (λx k=>(HO.o.1 x (List.mem_of_mem_take k)).1.1)
  clear fr K
  by_cases W:n<t.outs.length
  ·have i1:(n:Int)<(t.outs.length:Int):=by omega
   obtain⟨x,k⟩:∃x,t.outs[n]? =some x:=⟨_,List.getElem?_eq_getElem W⟩
   obtain⟨bb,off,ay,hv,hr,-⟩:=al.o.at_ k
   cases hv
   have g:=HO.o.1 x (List.mem_of_getElem? k)
   have R1:=J hr
   have D:=J (z6 g)
   have H:=J (FR.o.trans0 ((frN wr).alloc (.cells (zx x).toArray 68)))
   have n1:=(vt wr g).1
   have SN:=J (Yz k)
   have HX:=J k
   have vv:=g.1
   have SG:=J (λh=>zhT (λy p=>(HO.o.1 y p).1.1) k h)
   clear hr g k
   obtain⟨S,hS⟩:∃S,S=xW (t.outs.take n):=⟨_,rfl⟩
   rw[←hS] at SG SN LE aj o⊢
   clear hS
   by_cases F:x.value=0
   ·have q:=J (I.o (.inl ⟨x,List.mem_of_getElem? HX.o,by simp[xX,F]⟩))
    have aB:(x.value==0)=true:=by simpa using F
    clear F o
    have⟨r,s⟩:=tZ2
    go_wp2_with ((first|((with_reducible refine zt ?_);clear r;refine ziW rfl rfl rfl R1.o D.o ?_)|((with_reducible refine zr ?_);clear s;refine zi5 (w:=wr) (cs:=zx x) rfl rfl rfl rfl D.o zV ?_;generalize wr.alloc (.cells (zx x).toArray 68)=wA at*));go_frame)
    go_ret
    exact q.o _ (C.o.trans0 H.o)
   have aB:(x.value==0)=false:=by simpa using F
   by_cases hg:1125899906842624-S<x.value
   ·have q:=J (I.o (.inr (SG.o hg)))
    have aC:decide (1125899906842624-S<x.value)=true:=by simpa using hg
    clear F hg o
    have⟨r,s⟩:=tZ2
    go_wp2_with ((first|((with_reducible refine zt ?_);clear r;refine ziW rfl rfl rfl R1.o D.o ?_)|((with_reducible refine zr ?_);clear s;refine zi5 (w:=wr) (cs:=zx x) rfl rfl rfl rfl D.o zV ?_;generalize wr.alloc (.cells (zx x).toArray 68)=wA at*));go_frame)
    go_ret
    exact q.o _ (C.o.trans0 H.o)
   have aC:decide (1125899906842624-S<x.value)=false:=by simpa using hg
   have es:(1125899906842624-S-x.value) % 18446744073709551616=1125899906842624-S-x.value:=by omega
   have EN:=@J (1125899906842624-S-x.value=1125899906842624-(S+x.value)∧S+x.value≤1125899906842624) (by omega)
   have AN:=@J (∀y∈t.outs.take (n+1),xX y=false) (λy p=>by
    rw[List.take_add_one,HX.o] at p
    rcases List.mem_append.1 p with p|p
    ·exact AL.o y p
    ·simp at p
     subst p
     simp only[xX,Bool.or_eq_false_iff,decide_eq_false_iff_not]
     exact⟨F,by omega⟩)
   clear F hg o
   have⟨r,s⟩:=tZ2
   go_wp2_with ((first|((with_reducible refine zt ?_);clear r;refine ziW rfl rfl rfl R1.o D.o ?_)|((with_reducible refine zr ?_);clear s;refine zi5 (w:=wr) (cs:=zx x) rfl rfl rfl rfl D.o zV ?_;generalize wr.alloc (.cells (zx x).toArray 68)=wA at*));go_frame)
   go_roundw
   case rel=>exact⟨n+1,by go_num,by omega,by rw[SN.o,EN.o.1],by rw[SN.o];exact EN.o.2,AN.o,H.o⟩
   case measure=>simp[intOf];omega
  ·have az:n=t.outs.length:=by omega
   have i1:¬(n:Int)<(t.outs.length:Int):=by omega
   rw[az,List.take_length] at AL LE
   have v:t.outs.any xX=false:=List.any_eq_false.2 (λx k=>by rw[AL.o x k];decide)
   have FW:=J (C.o.trans0 FR.o)
   have P:=J (c.o.trans0 FR.o)
   have q:=J (an.o v (by have:=LE.o;omega))
   have cI:=P.o.cell X.o id
   clear v o aj
   go_wp2_with fail
   clear cI
   have T:=J (HI.o.keep0 P.o)
   have ak:=J (P.o.cell X.o id)
   have aq:=@J ((yI t).Nodup→∀w',Fr No w w'→xO w t (.returned (.int .i64 0)) w') (λh w' f=>by have:=q.o w' f;rwa [if_pos h] at this)
   have ao:=@J (¬(yI t).Nodup→∀w',Fr No w w'→xO w t (.returned (.int .i64 12)) w') (λh w' f=>by have:=q.o w' f;rwa [if_neg h] at this)
   go_loopw [47] (λB w3=>∃n:Nat,B=.int .i64 n∧n≤t.ins.length∧((yI t).take n).Nodup∧Fr No wr w3) (λB _=>t.ins.length-(intOf B).toNat)
   case atStart=>exact⟨0,rfl,zero_le _,by simp,Fr.refl _ _⟩
   case round=>
    obtain⟨n,rfl,hn,ag,fr⟩:=hrel
    have R:=J fr
    have ND:=J ag
    clear fr ag
    by_cases W:n<t.ins.length
    ·have i1:(n:Int)<(t.ins.length:Int):=by omega
     obtain⟨x,k⟩:∃x,t.ins[n]? =some x:=⟨_,List.getElem?_eq_getElem W⟩
     obtain⟨bb,off,ay,cs,hv,hr,ka,kc,rfl,g,af⟩:=(T.o.keep0 R.o).at_ k
     cases hv
     have ad:=xB.capLe T.o
     have aA:=zgr ⟨bb,off,none⟩ t.ins.length G n (by omega)
     have R1:=J hr
     have V:=J g
     have D:=J (vl g (.slice ka x.key.length kc))
     have PL:=J (zF g)
     have HX:=@J ((yI t)[n]? =some x.from_) (by simp[yI,k])
     have RX:=J (jO wr (kv:=.slice ka x.key.length kc) g).1
     have H:=J (R.o.alloc (.cells (inC x.from_ (.slice ka x.key.length kc)).toArray 106))
     have cI:=H.o.cell ak.o id
     clear hr k af g ad
     have⟨r,s⟩:=tZ2
     go_wp2_with ((first|((with_reducible refine zt ?_);clear r;refine ziV rfl rfl rfl R1.o D.o ?_)|((with_reducible refine zr ?_);clear s;refine zi4 (w:=wr) (cs:=inC x.from_ (.slice ka x.key.length kc)) rfl rfl rfl rfl D.o qD ?_));go_frame)
     clear aA cI
     generalize aI:wr.heap.size=q0 at*
     generalize wr.alloc (.cells (inC x.from_ (.slice ka x.key.length kc)).toArray 106)=wa at*
     go_loopw [57] (λB aE=>∃m:Nat,B=.int .i64 m∧m≤n∧(∀y∈(yI t).take m,y≠x.from_)∧Fr No wa aE) (λB _=>n-(intOf B).toNat)
     case atStart=>exact⟨0,rfl,zero_le _,by simp,Fr.refl _ _⟩
     case round=>
      obtain⟨m,rfl,hm,A,ab⟩:=hrel
      have Q:=J ab
      have MI:=J A
      clear ab A
      by_cases h2:m<n
      ·have i2:(m:Int)<(n:Int):=by omega
       obtain⟨y,p⟩:∃y,t.ins[m]? =some y:=⟨_,List.getElem?_eq_getElem (by omega)⟩
       obtain⟨b2,aG,aF,aH,aD,ai,Z,kd,rfl,i,-⟩:=(T.o.keep0 (H.o.trans0 Q.o)).at_ p
       cases aD
       have ax:=J i
       have E:=J (vl i (.slice Z y.key.length kd))
       have av:=J (zF i)
       have HY:=@J ((yI t)[m]? =some y.from_) (by simp[yI,p])
       have R2:=J ai
       have RY:=J (jO wr (kv:=.slice Z y.key.length kd) i).1
       have FB:=J (Q.o.alloc (.cells (inC y.from_ (.slice Z y.key.length kd)).toArray 106))
       have aa:=J (zb RX.o FB.o id)
       clear ai i p
       by_cases hxy:y.from_=x.from_
       ·have U:=J (ao.o (zce HX.o (hxy▸HY.o) h2))
        have aw:=@J ((wr.alloc (.cells (inC y.from_ (.slice Z y.key.length kd)).toArray 106)).rangeAt wr.heap.size 0 (zi x.from_)) (by rw[←hxy];exact RY.o)
        clear hxy
        have⟨r,s,K2,K3,K4⟩:=tZ5
        go_wp2_with ((first|((with_reducible refine zt ?_);first|(clear r;refine ziV rfl rfl rfl R2.o E.o ?_)|(clear K2;refine ziX rfl rfl rfl aa.o PL.o ?_)|(clear K3;refine ziX rfl rfl rfl aw.o PL.o ?_)|(clear K4;refine zg rfl (vi.exec_eql rfl rfl rfl (yF V.o) (yF V.o) true ⟨λ_=>rfl,λ_=>rfl⟩ _) ?_))|((with_reducible refine zr ?_);clear s;refine zi4 (w:=wr) (cs:=inC y.from_ (.slice Z y.key.length kd)) rfl rfl rfl rfl E.o qD ?_));go_frame)
        go_ret
        exact U.o _ (FW.o.trans0 (H.o.trans0 FB.o))
       ·have NE:=@J (¬(zi x.from_).toArray=(zi y.from_).toArray) (λe=>hxy (qO (congrArg Value.agg e.symm)))
        have ar:=@J (∀z∈(yI t).take (m+1),z≠x.from_) (by
         rw[List.take_add_one,HY.o]
         simp only[Option.toList_some,List.mem_append,List.mem_singleton]
         rintro z (F|rfl)
         ·exact MI.o z F
         ·exact hxy)
        clear hxy
        have⟨r,s,K2,K3,K4⟩:=tZ5
        go_wp2_with ((first|((with_reducible refine zt ?_);first|(clear r;refine ziV rfl rfl rfl R2.o E.o ?_)|(clear K2;refine ziX rfl rfl rfl aa.o PL.o ?_)|(clear K3;refine ziX rfl rfl rfl RY.o av.o ?_)|(clear K4;refine zg rfl (vi.exec_eql rfl rfl rfl (yF V.o) (yF ax.o) false ⟨λe=>(by cases e),λe=>absurd e NE.o⟩ _) ?_))|((with_reducible refine zr ?_);clear s;refine zi4 (w:=wr) (cs:=inC y.from_ (.slice Z y.key.length kd)) rfl rfl rfl rfl E.o qD ?_));go_frame)
        go_roundw
        case rel=>exact⟨m+1,by simp,by omega,ar.o,FB.o⟩
        case measure=>show n-(m+1)<n-m;omega
      ·have i2:¬(m:Int)<(n:Int):=by omega
       have au:=@J (((yI t).take (n+1)).Nodup) (by
        have A:=MI.o
        rw[show m=n by omega] at A
        rw[List.take_add_one,HX.o]
        simp only[Option.toList_some]
        rw[List.nodup_append]
        exact⟨ND.o,by simp,λa ha b hb=>by rw[List.mem_singleton.1 hb];exact A a ha⟩)
       go_wp2
       go_roundw
       case rel=>exact⟨n+1,by simp,by omega,au.o,H.o.trans0 Q.o⟩
       case measure=>show t.ins.length-(n+1)<t.ins.length-n;omega
    ·have i1:¬(n:Int)<(t.ins.length:Int):=by omega
     have U:=J (aq.o (by have:=ND.o;rwa [List.take_of_length_le (by simp[yI];omega)] at this))
     go_wp2
     go_ret
     exact U.o _ (FW.o.trans0 R.o)
abbrev bv (x:Int):BitVec 32:=BitVec.ofInt 32 x
theorem ZW (v:BitVec 32):bv (v.toNat:Int)=v:=by
 apply BitVec.eq_of_toNat_eq
 simp[bv,BitVec.toNat_ofInt]
theorem VJ (v:BitVec 32):IntKind.u32.wrap (v.toNat:Int)=(v.toNat:Int):=by
 have:=v.isLt
 simp[IntKind.wrap,IntKind.bits,IntKind.signed]
 omega
theorem za9 (x y:Int):bits .and .u32 x y=((bv x &&& bv y).toNat:Int):=VJ _
theorem Zs (x y:Int):bits .or .u32 x y=((bv x|||bv y).toNat:Int):=VJ _
theorem Qw (x y:Int):bits .xor .u32 x y=((bv x ^^^ bv y).toNat:Int):=VJ _
theorem choice (e f g n:Int) (a:bv n= ~~~ bv e):bits .xor .u32 (bits .and .u32 e f) (bits .and .u32 n g)=bits .xor .u32 g (bits .and .u32 e (bits .xor .u32 f g)):=by
 simp only[za9,Qw,ZW,a]
 congr 2
 apply BitVec.eq_of_getLsbD_eq
 intro i hi
 simp only[BitVec.getLsbD_xor,BitVec.getLsbD_and,BitVec.getLsbD_not,decide_eq_true hi,Bool.true_and]
 cases (bv e).getLsbD i<;>cases (bv f).getLsbD i<;>cases (bv g).getLsbD i<;>rfl
theorem zbG (a b c:Int):bits .xor .u32 (bits .xor .u32 (bits .and .u32 a b) (bits .and .u32 a c)) (bits .and .u32 b c)=bits .or .u32 (bits .and .u32 a b) (bits .and .u32 c (bits .or .u32 a b)):=by
 simp only[za9,Qw,Zs,ZW]
 congr 2
 apply BitVec.eq_of_getLsbD_eq
 intro i _
 simp only[BitVec.getLsbD_xor,BitVec.getLsbD_and,BitVec.getLsbD_or]
 cases (bv a).getLsbD i<;>cases (bv b).getLsbD i<;>cases (bv c).getLsbD i<;>rfl
def wL (F:List Int):Nat→List Int
 |0=>F
 |k+1=>wL F k++[JK ((wL F k).getD (k+14) 0) ((wL F k).getD (k+1) 0) ((wL F k).getD (k+9) 0) ((wL F k).getD k 0)]
theorem XU (h:F.length=16):∀k,(wL F k).length=16+k
 |0=>h
 |k+1=>by rw[wL,length_append,XU h k];rfl
theorem zdh (h:F.length=16) {j:Nat}:∀ {k m:Nat},j<16+k→k≤m→(wL F m).getD j 0=(wL F k).getD j 0:=by
 intro k m a b
 induction m with
 |zero=>rw[show k=0 by omega]
 |succ m ih=>
  by_cases e:k=m+1
  ·rw[e]
  ·rw[wL,←ih (by omega)]
   simp only[List.getD_eq_getElem?_getD]
   rw[List.getElem?_append_left (by rw[XU h];omega)]
def rW (F:List Int):Nat→List Int
 |0=>F
 |t+1=>vx (rW F t) t
theorem zfM (h:F.length=16):∀t,(rW F t).length=16
 |0=>h
 |t+1=>by rw[rW,zaw,zfM h t]
theorem Vt (F:List Int):∀ {t:Nat},t≤16→rW F t=F
 |0,_=>rfl
 |t+1,h=>by rw[rW,Vt F (by omega)];unfold vx;rw[if_pos (by omega)]
theorem zfL (h:F.length=16):∀(k j:Nat),k≤j→j<k+16→(rW F (16+k)).getD (j % 16) 0=(wL F k).getD j 0
 |0,j,_,hj=>by rw[Vt F (by omega),wL,Nat.mod_eq_of_lt (by omega)]
 |k+1,j,h1,h2=>by
  have ih:=zfL h k
  have e:rW F (16+(k+1))=vx (rW F (16+k)) (16+k):=rfl
  rw[e]
  unfold vx
  rw[if_neg (by omega),show 16+k-2=k+14 by omega,show 16+k-15=k+1 by omega,show 16+k-7=k+9 by omega,show(16+k) % 16=k % 16 by omega,ih (k+14) (by omega) (by omega),ih (k+1) (by omega) (by omega),ih (k+9) (by omega) (by omega),ih k (by omega) (by omega)]
  by_cases hj:j=k+16
  ·subst hj
   rw[show(k+16) % 16=k % 16 by omega]
   simp only[List.getD_eq_getElem?_getD]
   rw[List.getElem?_set_self (by rw[zfM h];omega),wL,List.getElem?_append_right (by rw[XU h];omega),XU h,show k+16-(16+k)=0 by omega]
   simp[List.getD_eq_getElem?_getD]
  ·rw[zdh h (show j<16+k by omega) (Nat.le_succ k),←ih j (by omega) (by omega)]
   simp only[List.getD_eq_getElem?_getD]
   rw[List.getElem?_set_ne (by omega)]
theorem zgM (h:F.length=16) (a:t<64):(vx (rW F t) t).getD (t % 16) 0=(wL F 48).getD t 0:=by
 by_cases h16:t<16
 ·unfold vx
  rw[if_pos h16,Vt F (by omega),Nat.mod_eq_of_lt h16,zdh h (k:=0) (by omega) (by omega)]
  rfl
 ·obtain⟨k,rfl⟩:∃k,t=16+k:=⟨t-16,by omega⟩
  have e:vx (rW F (16+k)) (16+k)=rW F (16+(k+1)):=rfl
  rw[e,zfL h (k+1) (16+k) (by omega) (by omega),zdh h (k:=k+1) (m:=48) (by omega) (by omega)]
theorem zb8 (s:ZP):∀t,(yX s t).W=rW s.W t
 |0=>rfl
 |t+1=>by rw[yX,rW,←zb8 s t];rfl
theorem zb5:∀(c xs pre:List Int),xs.length=c.length→JS (pre++xs) pre.length c=pre++c
 |[],xs,pre,h=>by rw[List.eq_nil_of_length_eq_zero h];rfl
 |a::c,x::xs,pre,h=>by
  have:=zb5 c xs (pre++[a]) (by simpa using h)
  rw[JS]
  rw[List.set_append_right _ _ (le_refl _),Nat.sub_self,List.set_cons_zero]
  rw[length_append,List.append_assoc,List.append_assoc] at this
  exact this
def Zj (b:List Int) (i:Nat):List Int:=((b.take (64*i)).foldl xS vL).st
theorem zeA {b:List Int} (h:64*(i+1)≤b.length):Zj b (i+1)=xl (Zj b i) ((b.drop (64*i)).take 64):=by
 unfold Zj
 have a:((b.drop (64*i)).take 64).length=64:=by rw[List.length_take,List.length_drop];omega
 have c:((b.take (64*i)).foldl xS vL).n=64*i:=by
  rw[JG,List.length_take]
  show 0+_=_
  omega
 have d:qE ((b.take (64*i)).foldl xS vL):=qE.adds ⟨rfl,rfl⟩
 rw[show 64*(i+1)=64*i+64 by omega,List.take_add,List.foldl_append,YQ _ _ (λe=>by rw[e] at a;cases a) (by rw[c,a];omega)]
 unfold zcl
 dsimp only
 rw[if_pos (by rw[c,a];omega),c,show 64*i % 64=0 by omega]
 congr 1
 have:=zb5 ((b.drop (64*i)).take 64) ((b.take (64*i)).foldl xS vL).op [] (by rw[d.op,a])
 simpa using this
def zbQ (m:List Int):List Int:=m++[128]++List.replicate (Jy (m.length+1)) 0++Yg m.length
theorem zbR (m:List Int):(zbQ m).length % 64=0:=by
 have:=Vk (m.length+1)
 have e:(Yg m.length).length=8:=rfl
 unfold zbQ
 rw[length_append,length_append,length_append,List.length_replicate,e,List.length_singleton]
 omega
theorem zc6 (m:List Int):y9 m=(Zj (zbQ m) ((zbQ m).length / 64)).flatMap JC:=by
 have a:64*((zbQ m).length / 64)=(zbQ m).length:=by have:=zbR m;omega
 unfold y9 VR Zj
 rw[a,List.take_length]
 congr 2
 unfold Jz zbQ
 have b:(m.foldl xS vL).n=m.length:=by rw[JG];show 0+_=_;omega
 rw[List.foldl_append,List.foldl_append,List.foldl_append,b]
 rfl
theorem bits_or_comm (x y:Int):bits .or .u32 x y=bits .or .u32 y x:=by rw[Zs,Zs,BitVec.or_comm]
theorem ziz (w:World) (x:Int):Calls prog 86 #[.int .u32 x,.int .u64 2] w λe w'=>e=.returned (.int .u32 (zfN x))∧w=w':=by
 go_enter Tryz.func86,Tryz.ntmps86
 go_wp2
 go_ret
 exact⟨congrArg (λz=>Ending.returned (.int .u32 z)) (bits_or_comm _ _),rfl⟩
theorem ziA (w:World) (x:Int):Calls prog 86 #[.int .u32 x,.int .u64 6] w λe w'=>e=.returned (.int .u32 (zet x))∧w=w':=by
 go_enter Tryz.func86,Tryz.ntmps86
 go_wp2
 go_ret
 exact⟨congrArg (λz=>Ending.returned (.int .u32 z)) (bits_or_comm _ _),rfl⟩
theorem ziB (w:World) (x:Int):Calls prog 86 #[.int .u32 x,.int .u64 7] w λe w'=>e=.returned (.int .u32 (zfO x))∧w=w':=by
 go_enter Tryz.func86,Tryz.ntmps86
 go_wp2
 go_ret
 exact⟨congrArg (λz=>Ending.returned (.int .u32 z)) (bits_or_comm _ _),rfl⟩
theorem zhU (w:World) (x:Int):Calls prog 86 #[.int .u32 x,.int .u64 11] w λe w'=>e=.returned (.int .u32 (zao x))∧w=w':=by
 go_enter Tryz.func86,Tryz.ntmps86
 go_wp2
 go_ret
 exact⟨congrArg (λz=>Ending.returned (.int .u32 z)) (bits_or_comm _ _),rfl⟩
theorem zhV (w:World) (x:Int):Calls prog 86 #[.int .u32 x,.int .u64 13] w λe w'=>e=.returned (.int .u32 (zbZ x))∧w=w':=by
 go_enter Tryz.func86,Tryz.ntmps86
 go_wp2
 go_ret
 exact⟨congrArg (λz=>Ending.returned (.int .u32 z)) (bits_or_comm _ _),rfl⟩
theorem zhW (w:World) (x:Int):Calls prog 86 #[.int .u32 x,.int .u64 17] w λe w'=>e=.returned (.int .u32 (zb0 x))∧w=w':=by
 go_enter Tryz.func86,Tryz.ntmps86
 go_wp2
 go_ret
 exact⟨congrArg (λz=>Ending.returned (.int .u32 z)) (bits_or_comm _ _),rfl⟩
theorem zhX (w:World) (x:Int):Calls prog 86 #[.int .u32 x,.int .u64 18] w λe w'=>e=.returned (.int .u32 (zb1 x))∧w=w':=by
 go_enter Tryz.func86,Tryz.ntmps86
 go_wp2
 go_ret
 exact⟨congrArg (λz=>Ending.returned (.int .u32 z)) (bits_or_comm _ _),rfl⟩
theorem zhY (w:World) (x:Int):Calls prog 86 #[.int .u32 x,.int .u64 19] w λe w'=>e=.returned (.int .u32 (zb2 x))∧w=w':=by
 go_enter Tryz.func86,Tryz.ntmps86
 go_wp2
 go_ret
 exact⟨congrArg (λz=>Ending.returned (.int .u32 z)) (bits_or_comm _ _),rfl⟩
theorem zhZ (w:World) (x:Int):Calls prog 86 #[.int .u32 x,.int .u64 22] w λe w'=>e=.returned (.int .u32 (zb3 x))∧w=w':=by
 go_enter Tryz.func86,Tryz.ntmps86
 go_wp2
 go_ret
 exact⟨congrArg (λz=>Ending.returned (.int .u32 z)) (bits_or_comm _ _),rfl⟩
theorem zh0 (w:World) (x:Int):Calls prog 86 #[.int .u32 x,.int .u64 25] w λe w'=>e=.returned (.int .u32 (zap x))∧w=w':=by
 go_enter Tryz.func86,Tryz.ntmps86
 go_wp2
 go_ret
 exact⟨congrArg (λz=>Ending.returned (.int .u32 z)) (bits_or_comm _ _),rfl⟩
theorem zge (w:World):(zeroValue 134).run prog w=.ok (.agg (xm (List.replicate 8 0))) w:=by kernel_rfl
theorem zdJ (w:World):(zeroValue 159).run prog w=.ok (.agg (xm (List.replicate 64 0))) w:=by kernel_rfl
theorem Jc:(prog.info? 134).map (·.size)=some 8:=by kernel_rfl
theorem zaG:(prog.info? 159).map (·.size)=some 64:=by kernel_rfl
theorem ze7:∃d,prog.underlying 134=some d∧d.isRow=true:=vq (by kernel_rfl)
theorem Ja {l:List Int}:∀v∈l.map yJ,v.oneCell'=true:=λv a=>by obtain⟨x,-,rfl⟩:=List.mem_map.1 a;rfl
def vs8:List (Nat×Value):=(List.range 8).zip (ZT.map yJ)
def vs64:List (Nat×Value):=(List.range 64).zip (JD.map yJ)
theorem bldI (w:World):(Instr.build 134 vs8.toArray).run prog w=.ok (.agg (xm ZT)) w:=by kernel_rfl
theorem bldK (w:World):(Instr.build 159 vs64.toArray).run prog w=.ok (.agg (xm JD)) w:=by kernel_rfl
theorem ziJ (w:World) (a b c d e f g h:Int):(Instr.build 134 #[(0,.int .u32 a),(1,.int .u32 b),(2,.int .u32 c),(3,.int .u32 d),(4,.int .u32 e),(5,.int .u32 f),(6,.int .u32 g),(7,.int .u32 h)]).run prog w=.ok (.agg (xm [a,b,c,d,e,f,g,h])) w:=by kernel_rfl
theorem zdL (w:World):Calls prog 64 #[] w λe w'=>e=.returned (.agg (xm ZT))∧Fr No w w':=by
 have z:=zge
 have f:=@J (Fr No w (w.alloc (.cells (xm (List.replicate 8 0)) 134))) ((frN w).alloc _)
 have c:=J (zS w (.cells (xm (List.replicate 8 0)) 134))
 have a:=@J ((ZT.map yJ).length=8) (rfl)
 go_enter Tryz.func64,Tryz.ntmps64
 go_wp2_with (first|(refine zg rfl (yl (t:=134) (vs:=vs8) rfl rfl (bldI _)) ?_)|((with_reducible refine zr ?_);refine ze rfl (zy (ty:=134) (b:=w.heap.size) (off:=0) (cs:=ZT.map yJ) rfl rfl rfl (by rw[a.o];exact zM c.o (le_refl 8)) (by rw[a.o];exact Jc) Ja) ?_))
 have d:=yN w.heap.size 134 (ZT.map yJ) 0 _ (xm (List.replicate 8 0)) c.o
 have e:=qL (ZT.map yJ) [] (xm (List.replicate 8 0)).toList [] (by rw[a.o];rfl)
 simp only[List.nil_append,List.append_nil,List.length_nil] at e
 rw[e] at d
 exact bodyPost_ret (v:=.agg (ZT.map yJ).toArray) (results_cell_row (P:=prog) (fn:=Tryz.f64) rfl _ _ w.heap.size 134 (ZT.map yJ).toArray (0,0) _ rfl d Tryz.underlying134 rfl (by rw[List.size_toArray,a.o];exact Jc)) rfl ⟨rfl,f.o.trans (zv _ _ _ _) (λi hi e=>(show False by omega))⟩
theorem VN (w:World):Calls prog 85 #[] w λe w'=>e=.returned (.agg (xm JD))∧Fr No w w':=by
 have z:=zdJ
 have f:=@J (Fr No w (w.alloc (.cells (xm (List.replicate 64 0)) 159))) ((frN w).alloc _)
 have c:=J (zS w (.cells (xm (List.replicate 64 0)) 159))
 have a:=@J ((JD.map yJ).length=64) (rfl)
 go_enter Tryz.func85,Tryz.ntmps85
 go_wp2_with (first|(refine zg rfl (yl (t:=159) (vs:=vs64) rfl rfl (bldK _)) ?_)|((with_reducible refine zr ?_);refine ze rfl (zy (ty:=159) (b:=w.heap.size) (off:=0) (cs:=JD.map yJ) rfl rfl rfl (by rw[a.o];exact zM c.o (le_refl 64)) (by rw[a.o];exact zaG) Ja) ?_))
 have d:=yN w.heap.size 159 (JD.map yJ) 0 _ (xm (List.replicate 64 0)) c.o
 have e:=qL (JD.map yJ) [] (xm (List.replicate 64 0)).toList [] (by rw[a.o];rfl)
 simp only[List.nil_append,List.append_nil,List.length_nil] at e
 rw[e] at d
 exact bodyPost_ret (v:=.agg (JD.map yJ).toArray) (results_cell_row (P:=prog) (fn:=Tryz.f85) rfl _ _ w.heap.size 159 (JD.map yJ).toArray (0,0) _ rfl d Tryz.underlying159 rfl (by rw[List.size_toArray,a.o];exact zaG)) rfl ⟨rfl,f.o.trans (zv _ _ _ _) (λi hi e=>(show False by omega))⟩
theorem wrap32 (x:Int):IntKind.u32.wrap x=x % 4294967296:=by
 simp[IntKind.wrap,IntKind.bits,IntKind.signed]
theorem zdn (x:Int):bv (x*256 % 4294967296)=bv x<<<8:=by
 apply BitVec.eq_of_toNat_eq
 simp[bv,BitVec.toNat_ofInt,BitVec.toNat_shiftLeft,Nat.shiftLeft_eq]
 omega
theorem zeW (x:Int):bv (x*65536 % 4294967296)=bv x<<<16:=by
 apply BitVec.eq_of_toNat_eq
 simp[bv,BitVec.toNat_ofInt,BitVec.toNat_shiftLeft,Nat.shiftLeft_eq]
 omega
theorem zeX (x:Int):bv (x*16777216 % 4294967296)=bv x<<<24:=by
 apply BitVec.eq_of_toNat_eq
 simp[bv,BitVec.toNat_ofInt,BitVec.toNat_shiftLeft,Nat.shiftLeft_eq]
 omega
theorem zeV (x:Int):bv (x % 4294967296)=bv x:=by
 apply BitVec.eq_of_toNat_eq
 simp[bv,BitVec.toNat_ofInt]
def orW (a b c d:Int):Int:=bits .or .u32 (bits .or .u32 (bits .or .u32 (a*16777216 % 4294967296) (b*65536 % 4294967296)) (c*256 % 4294967296)) d
def Zk (v x:Int):Int:=bits .or .u32 (v*256 % 4294967296) (x % 4294967296)
theorem Xn (v x:Int):Zk v x=((bv v<<<8|||bv x).toNat:Int):=by unfold Zk;rw[Zs,zdn,zeV]
theorem zhL (a b c d:Int):orW a b c d=((bv a<<<24|||bv b<<<16|||bv c<<<8|||bv d).toNat:Int):=by unfold orW;rw[Zs,Zs,Zs,zdn,zeW,zeX,ZW,ZW]
theorem zfz (a b c d:Int):Zk (Zk (Zk (Zk 0 a) b) c) d=orW a b c d:=by
 rw[zhL,Xn (Zk (Zk (Zk 0 a) b) c),Xn (Zk (Zk 0 a) b),Xn (Zk 0 a),Xn 0,ZW,ZW,ZW]
 congr 2
 have e:bv 0=0#32:=rfl
 rw[e,BitVec.zero_shiftLeft,BitVec.zero_or,BitVec.shiftLeft_or_distrib,BitVec.shiftLeft_or_distrib,BitVec.shiftLeft_or_distrib,←BitVec.shiftLeft_add,←BitVec.shiftLeft_add,←BitVec.shiftLeft_add]
theorem Vw (h:i / 4≠t):(xe B (i+1)).getD t 0=(xe B i).getD t 0:=by
 rw[xe]
 simp only[List.getD_eq_getElem?_getD]
 rw[List.getElem?_set_ne h]
theorem ZE (h:i / 4=t) (a:t<16):(xe B (i+1)).getD t 0=Zk ((xe B i).getD t 0) (B.getD i 0):=by
 rw[xe,h]
 simp only[List.getD_eq_getElem?_getD]
 rw[List.getElem?_set_self (by rw[jg];exact a)]
 rfl
theorem YM:∀i,i≤4*t→(xe B i).getD t 0=0
 |0,_=>by rw[xe,List.getD_eq_getElem?_getD,List.getElem?_replicate];split<;>rfl
 |i+1,h=>by rw[Vw (by omega),YM i (by omega)]
theorem Ye:∀d,(xe B (4*t+4+d)).getD t 0=(xe B (4*t+4)).getD t 0
 |0=>rfl
 |d+1=>by rw[←Nat.add_assoc,Vw (by omega),Ye d]
theorem zd4 (a:t<16):(xe B 64).getD t 0=orW (B.getD (4*t) 0) (B.getD (4*t+1) 0) (B.getD (4*t+2) 0) (B.getD (4*t+3) 0):=by
 rw[show 64=4*t+4+(60-4*t) by omega,Ye,ZE (i:=4*t+3) (by omega) a,ZE (i:=4*t+2) (by omega) a,ZE (i:=4*t+1) (by omega) a,ZE (i:=4*t) (by omega) a,YM (4*t) (le_refl _),zfz]
def rP (s:ZP) (n k x:Int):Int:=IntKind.u32.wrap (IntKind.u32.wrap (IntKind.u32.wrap (IntKind.u32.wrap (s.h+bits .xor .u32 (bits .xor .u32 (zet s.e) (zao s.e)) (zap s.e))+bits .xor .u32 (bits .and .u32 s.e s.f) (bits .and .u32 n s.g))+k)+x)
def rQ (s:ZP):Int:=IntKind.u32.wrap (bits .xor .u32 (bits .xor .u32 (zfN s.a) (zbZ s.a)) (zb3 s.a)+bits .xor .u32 (bits .xor .u32 (bits .and .u32 s.a s.b) (bits .and .u32 s.a s.c)) (bits .and .u32 s.b s.c))
theorem ziw (s:ZP) (t:Nat) {n:Int} (a:bv n= ~~~ bv s.e):rP s n (JD.getD t 0) ((vx s.W t).getD (t % 16) 0)=Qj s t:=by
 unfold rP Qj
 rw[choice s.e s.f s.g n a]
 simp only[wrap32]
 omega
theorem zix (s:ZP):rQ s=zc5 s:=by
 unfold rQ zc5
 rw[zbG s.a s.b s.c,wrap32]
def v8 (s:ZP):List Int:=[s.a,s.b,s.c,s.d,s.e,s.f,s.g,s.h]
theorem zg4 (s:ZP) (t:Nat):v8 (Yx s t)=[(Qj s t+zc5 s) % 4294967296,s.a,s.b,s.c,(s.d+Qj s t) % 4294967296,s.e,s.f,s.g]:=rfl
def s0S (S B:List Int):ZP:=⟨S.getD 0 0,S.getD 1 0,S.getD 2 0,S.getD 3 0,S.getD 4 0,S.getD 5 0,S.getD 6 0,S.getD 7 0,xe B 64⟩
theorem zfP (S B:List Int) (a:t<64):(vx (yX (s0S S B) t).W t).getD (t % 16) 0=(wL (xe B 64) 48).getD t 0:=by
 have e:(s0S S B).W=xe B 64:=by simp only[s0S]
 have h:=jg B 64
 rw[zb8,e]
 generalize xe B 64=F at*
 exact zgM h a
theorem zgV (S B:List Int):(⟨S.getD 0 0,S.getD 1 0,S.getD 2 0,S.getD 3 0,S.getD 4 0,S.getD 5 0,S.getD 6 0,S.getD 7 0,xe B 64⟩:ZP)=s0S S B:=rfl
theorem ziR (S:List Int) (hS:S.length=8) (r:ZP):[(S.getD 0 0+r.a) % 4294967296,(S.getD 1 0+r.b) % 4294967296,(S.getD 2 0+r.c) % 4294967296,(S.getD 3 0+r.d) % 4294967296,(S.getD 4 0+r.e) % 4294967296,(S.getD 5 0+r.f) % 4294967296,(S.getD 6 0+r.g) % 4294967296,(S.getD 7 0+r.h) % 4294967296]=List.zipWith (λx y=>(x+y) % 4294967296) S (v8 r):=by
 match S,hS with
 |[a,b,c,d,e,f,g,h],_=>rfl
theorem zaT (S B:List Int):∃n,n=64∧xl S B=[(S.getD 0 0+(yX (s0S S B) n).a) % 4294967296,(S.getD 1 0+(yX (s0S S B) n).b) % 4294967296,(S.getD 2 0+(yX (s0S S B) n).c) % 4294967296,(S.getD 3 0+(yX (s0S S B) n).d) % 4294967296,(S.getD 4 0+(yX (s0S S B) n).e) % 4294967296,(S.getD 5 0+(yX (s0S S B) n).f) % 4294967296,(S.getD 6 0+(yX (s0S S B) n).g) % 4294967296,(S.getD 7 0+(yX (s0S S B) n).h) % 4294967296]:=by
 refine⟨64,rfl,?_⟩
 unfold xl
 rw[zgV]
theorem zb7 (S B:List Int) (hS:S.length=8):∃n,n=64∧xl S B=List.zipWith (λx y=>(x+y) % 4294967296) S (v8 (yX (s0S S B) n)):=by
 obtain⟨n,a,h⟩:=zaT S B
 exact⟨n,a,by rw[h,ziR S hS]⟩
end Go.Proofs.YtmpamcnlineceaaGreatDoor
