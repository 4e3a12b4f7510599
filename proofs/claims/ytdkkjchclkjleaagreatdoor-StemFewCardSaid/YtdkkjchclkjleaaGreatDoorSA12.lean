/- pappuslaw15: Great. -/
import Derived.Laws.BytesArg
import Derived.Laws.BytesString
import Derived.Laws.Strings
import Derived.Test.YtdkkjchclkjleaaGreatDoorSA11
import Derived.Test.YtdkkjchclkjleaaGreatDoorSA10
import Derived.Test.YtdkkjchclkjleaaGreatDoorSA2
set_option linter.unusedVariables false
set_option linter.unusedSimpArgs false
set_option linter.unnecessarySimpa false
set_option linter.all false
set_option maxRecDepth 20000
set_option maxHeartbeats 16000000
namespace Go.Proofs.YtdkkjchclkjleaaGreatDoor
open Go Go.RowKit Go.Maps Go.MapKept
open Go.Proofs.Tryz(prog)
open Nat(le_refl zero_le le_trans zero_add lt_of_lt_of_le)
open List(getElem?_eq_getElem mem_append mem_of_getElem? mem_cons length_append length_take getElem?_append_right)
theorem zco:∃d,prog.underlying 57=some d∧d.isRow=true:=vP (by kernel_rfl)
theorem vw:(prog.info? 57).map (·.size)=some 40:=by kernel_rfl
theorem zc1 (w:World):(zeroValue 57).run prog w=.ok (.agg (ZU 0 0 Vz yN Jl).toArray) w:=by kernel_rfl
theorem zcd {w:World} {a:vH} {cs:List Value} (h:qH w a cs):∀v∈cs,v.oneCell'=true:=by
 obtain⟨t,b,rfl,f,g,d,e⟩:=h
 obtain⟨i,j,k,l,rfl⟩:=e.form
 intro v c
 unfold ZU at c
 rcases mem_cons.1 c with rfl|c
 ·rfl
 rcases mem_cons.1 c with rfl|c
 ·rfl
 rcases mem_append.1 c with c|c
 ·exact(YF d).2 v c
 rcases mem_append.1 c with c|c
 ·exact zR v c
 ·exact qB rfl rfl rfl v c
theorem jr {w:World} {q:Nat} {k s:Int} {t b:List Value} {x:zd} (h:w.rangeAt q 0 (ZU k s t x b)) (f:t.length=3) (d:zX x):
  w.cell? ⟨q,0,none⟩=some (.int .i64 k)∧w.cell? ⟨q,1,none⟩=some (.int .i64 s)∧w.rangeAt q 2 t∧w.rangeAt q 5 (zf x)∧w.rangeAt q 37 b:=by
 have e:=zx d
 refine⟨by simpa using h 0 _ rfl,by simpa using h 1 _ rfl,λj v a=>?_,λj v a=>?_,λj v a=>?_⟩
 ·have c:=(List.getElem?_eq_some_iff.1 a).1
  have:=h (2+j) v (by rw[show 2+j=j+1+1 by omega];simp only[ZU,List.getElem?_cons_succ];rw[List.getElem?_append_left c];exact a)
  rwa [zero_add] at this
 ·have c:=(List.getElem?_eq_some_iff.1 a).1
  have:=h (5+j) v (by rw[show 5+j=(3+j)+1+1 by omega];simp only[ZU,List.getElem?_cons_succ];rw[getElem?_append_right (by omega),show 3+j-t.length=j by omega,List.getElem?_append_left c];exact a)
  rwa [zero_add] at this
 ·have:=h (37+j) v (by rw[show 37+j=(35+j)+1+1 by omega];simp only[ZU,List.getElem?_cons_succ];rw[getElem?_append_right (by omega),getElem?_append_right (by omega),show 35+j-t.length-(zf x).length=j by omega];exact a)
  rwa [zero_add] at this
def VI (w:World) (F:List yF) (L:List vH) (e:Ending) (w':World):Prop:=
 (∃g:Int,e=.returned (.int .i64 g)∧(g=0∨g=1)∧(g=0→F.length≤256∧L.length≤60∧∀a∈L,a.blk.txs.length≤20))∧Fr No w w'
theorem zef (w:World) {fv lv:Value} {F:List yF} {L:List vH} (hf:xg w fv F) (hl:Z0 w lv L):
  Calls prog 19 #[fv,lv] w (VI w F L):=by
 have HL:=J hl
 obtain⟨fa,fc,rfl⟩:=hf.2.form
 obtain⟨va,vc,rfl⟩:=hl.form
 obtain⟨dA,uA,Z⟩:=zco
 have zA:=zc1
 have zT:=show ∀w,(zeroValue 34).run prog w=.ok (.agg Vz.toArray) w from qY
 have T1:=@J (∀w',Fr No w w'→VI w F L (.returned (.int .i64 1)) w') (λw' f=>⟨⟨1,rfl,.inr rfl,λh=>by cases h⟩,f⟩)
 clear hf hl
 by_cases h1:256<F.length
 ·have j1:decide ((256:Int)<(F.length:Int))=true:=by simp;omega
  clear h1
  go_enter Tryz.func19,Tryz.ntmps19
  go_wp2
  go_ret
  exact T1.o _ (Fr.refl _ _)
 have j1:decide ((256:Int)<(F.length:Int))=false:=by simp;omega
 by_cases h2:60<L.length
 ·have j2:decide ((60:Int)<(L.length:Int))=true:=by simp;omega
  clear h1 h2
  go_enter Tryz.func19,Tryz.ntmps19
  go_wp2
  go_ret
  exact T1.o _ (Fr.refl _ _)
 have j2:decide ((60:Int)<(L.length:Int))=false:=by simp;omega
 have af:L.length≤60:=by omega
 have T0:=@J ((∀a∈L,a.blk.txs.length≤20)→∀w',Fr No w w'→VI w F L (.returned (.int .i64 0)) w') (λh w' f=>⟨⟨0,rfl,.inl rfl,λ_=>⟨by omega,af,h⟩⟩,f⟩)
 clear h1 h2
 go_enter Tryz.func19,Tryz.ntmps19
 go_wp2
 clear j1 j2
 go_loopw [19] (λC wr=>∃n:Nat,C=.int .i64 n∧n≤L.length∧(∀a∈L.take n,a.blk.txs.length≤20)∧Fr No w wr) (λC _=>L.length-(intOf C).toNat)
 case atStart=>exact⟨0,rfl,zero_le _,by simp,Fr.refl _ _⟩
 case round=>
  obtain⟨n,rfl,hn,G,fr⟩:=hrel
  have FR:=J fr
  have HK:=J G
  clear fr G
  by_cases ab:n<L.length
  ·have i1:(n:Int)<(L.length:Int):=by omega
   obtain⟨a,I⟩:∃x,L[n]? =some x:=⟨_,getElem?_eq_getElem ab⟩
   obtain⟨bb,off,ai,cs,hv,hr,U⟩:=(HL.o.keep0 FR.o).at_ I
   cases hv
   have R:=J hr
   have c:=J U.len
   have N:=J (zcd U)
   have FA:=J ((frN wr).alloc (.cells cs.toArray 57))
   have HQ:=J (U.keep FA.o)
   obtain⟨aq,bcs,E,-,K,p,z⟩:=HQ.o
   have Q:=J (jr (q:=wr.heap.size) (by rw[←E];exact zy wr cs 57) (YF p).1 K)
   obtain⟨pa,pc,ta,tc,rfl⟩:=z.form
   have r:=J Q.o.2.2.1
   have S:=J (YF p).1
   have d:=Q.o.2.2.2.2 1 _ rfl
   have g:=Q.o.2.2.2.2 2 _ rfl
   have aa:=J p
   have u:=@J (Jo (wr.alloc (.cells cs.toArray 57)) (.slice ta a.blk.txs.length tc) a.blk.txs) (by
    obtain⟨aj,ak,an,ao,e,_,_,I⟩:=z
    simp only[zg6,List.cons.injEq,and_true] at e
    obtain⟨-,-,e2⟩:=e
    injection e2 with e21 _ e23
    subst e21;subst e23
    exact I)
   have HX:=J I
   clear hr U I E K p z Q HQ
   have y:=J (zaz _ aa.o)
   have P:=J (FR.o.trans0 FA.o)
   unfold zlN at y
   cases hh:hvT a.tx with
   |true=>
    rw[hh] at y
    clear hh
    have⟨j,k,l,o⟩:=tZ4
    go_wp2_with ((first|((with_reducible refine zt ?_);first|(clear j;refine zg rfl (zY (ty:=57) rfl rfl R.o uA Z (by rw[c.o];exact vw)) ?_)|(clear l;refine znB rfl rfl rfl r.o S.o ?_))|((with_reducible refine zv ?_);clear k;refine zi rfl (zj (w:=wr) (ty:=57) (cs:=cs) rfl rfl rfl (by rw[c.o];rfl) (by rw[c.o];exact vw) N.o) ?_;generalize wr.heap.size=q at r d g⊢;generalize wr.alloc (.cells cs.toArray 57)=wA at*)|(clear o;go_at_call 11;refine y.o.mono ?_;rintro e w5 ⟨rfl,b⟩;have v:=J (P.o.trans0 b);have T:=J (u.o.keep0 b);clear u;have d1:=b.cell d id;have d2:=b.cell g id;clear b d g));go_frame)
    go_ret
    exact T1.o _ v.o
   |false=>
    rw[hh] at y
    clear hh
    by_cases h3:20<a.blk.pay.length
    ·have k1:(20:Int)<(a.blk.pay.length:Int):=by omega
     clear h3
     have⟨j,k,l,o⟩:=tZ4
     go_wp2_with ((first|((with_reducible refine zt ?_);first|(clear j;refine zg rfl (zY (ty:=57) rfl rfl R.o uA Z (by rw[c.o];exact vw)) ?_)|(clear l;refine znB rfl rfl rfl r.o S.o ?_))|((with_reducible refine zv ?_);clear k;refine zi rfl (zj (w:=wr) (ty:=57) (cs:=cs) rfl rfl rfl (by rw[c.o];rfl) (by rw[c.o];exact vw) N.o) ?_;generalize wr.heap.size=q at r d g⊢;generalize wr.alloc (.cells cs.toArray 57)=wA at*)|(clear o;go_at_call 11;refine y.o.mono ?_;rintro e w5 ⟨rfl,b⟩;have v:=J (P.o.trans0 b);have T:=J (u.o.keep0 b);clear u;have d1:=b.cell d id;have d2:=b.cell g id;clear b d g));go_frame)
     go_ret
     exact T1.o _ v.o
    have k1:¬(20:Int)<(a.blk.pay.length:Int):=by omega
    by_cases h4:20<a.blk.txs.length
    ·have k2:(20:Int)<(a.blk.txs.length:Int):=by omega
     clear h3 h4
     have⟨j,k,l,o⟩:=tZ4
     go_wp2_with ((first|((with_reducible refine zt ?_);first|(clear j;refine zg rfl (zY (ty:=57) rfl rfl R.o uA Z (by rw[c.o];exact vw)) ?_)|(clear l;refine znB rfl rfl rfl r.o S.o ?_))|((with_reducible refine zv ?_);clear k;refine zi rfl (zj (w:=wr) (ty:=57) (cs:=cs) rfl rfl rfl (by rw[c.o];rfl) (by rw[c.o];exact vw) N.o) ?_;generalize wr.heap.size=q at r d g⊢;generalize wr.alloc (.cells cs.toArray 57)=wA at*)|(clear o;go_at_call 11;refine y.o.mono ?_;rintro e w5 ⟨rfl,b⟩;have v:=J (P.o.trans0 b);have T:=J (u.o.keep0 b);clear u;have d1:=b.cell d id;have d2:=b.cell g id;clear b d g));go_frame)
     go_ret
     exact T1.o _ v.o
    have k2:¬(20:Int)<(a.blk.txs.length:Int):=by omega
    have AN:=@J (∀s∈L.take (n+1),s.blk.txs.length≤20) (λs B=>by
     rw[List.take_add_one,HX.o] at B
     rcases mem_append.1 B with B|B
     ·exact HK.o s B
     ·simp at B;subst B;omega)
    have al:a.blk.txs.length≤20:=by omega
    clear h3 h4
    have⟨j,k,l,o⟩:=tZ4
    go_wp2_with ((first|((with_reducible refine zt ?_);first|(clear j;refine zg rfl (zY (ty:=57) rfl rfl R.o uA Z (by rw[c.o];exact vw)) ?_)|(clear l;refine znB rfl rfl rfl r.o S.o ?_))|((with_reducible refine zv ?_);clear k;refine zi rfl (zj (w:=wr) (ty:=57) (cs:=cs) rfl rfl rfl (by rw[c.o];rfl) (by rw[c.o];exact vw) N.o) ?_;generalize wr.heap.size=q at r d g⊢;generalize wr.alloc (.cells cs.toArray 57)=wA at*)|(clear o;go_at_call 11;refine y.o.mono ?_;rintro e w5 ⟨rfl,b⟩;have v:=J (P.o.trans0 b);have T:=J (u.o.keep0 b);clear u;have d1:=b.cell d id;have d2:=b.cell g id;clear b d g));go_frame)
    go_loopw [44] (λC wr=>∃m:Nat,C=.int .i64 m∧m≤a.blk.txs.length∧Jo wr (.slice ta a.blk.txs.length tc) a.blk.txs∧Fr No w wr) (λC _=>a.blk.txs.length-(intOf C).toNat)
    case atStart=>exact⟨0,rfl,zero_le _,T.o,v.o⟩
    case round=>
     obtain⟨m,rfl,hm,M,fr⟩:=hrel
     rename World=>wq
     have XQ:=J M
     have FQ:=J fr
     clear M fr
     by_cases ad:m<a.blk.txs.length
     ·have i2:(m:Int)<(a.blk.txs.length:Int):=by omega
      obtain⟨t,ht⟩:∃t,a.blk.txs[m]? =some t:=⟨_,getElem?_eq_getElem ad⟩
      obtain⟨b2,ah,ag,ts,ae,H,A⟩:=XQ.o.at_ ht
      cases ae
      obtain⟨V,W,X,Y,rfl⟩:=A.form
      have R2:=J H
      have FB:=J ((frN wq).alloc (.cells #[.int .u32 t.ver,.slice V t.ins.length W,.slice X t.outs.length Y] 34))
      have RN:=J (qM wq t.ver (.slice V t.ins.length W) (.slice X t.outs.length Y)).2.2.2
      have i:=J (zaz _ (A.keep FB.o))
      clear ht H A
      unfold zlN at i
      cases hh2:hvT t with
      |true=>
       rw[hh2] at i
       clear hh2
       have⟨j,k,l,o⟩:=tZ4
       go_wp2_with ((first|((with_reducible refine zt ?_);first|(clear j;refine znB rfl rfl rfl R2.o rfl ?_)|(clear l;refine znB rfl rfl rfl RN.o rfl ?_))|((with_reducible refine zv ?_);clear k;refine zi rfl (zj (w:=wq) (ty:=34) (cs:=[.int .u32 t.ver,.slice V t.ins.length W,.slice X t.outs.length Y]) rfl rfl rfl rfl yU (qB rfl rfl rfl)) ?_)|(clear o;go_at_call 11;refine i.o.mono ?_;rintro e w4 ⟨rfl,D⟩;have O:=J (FB.o.trans0 D);clear D));go_frame)
       go_ret
       exact T1.o _ (FQ.o.trans0 O.o)
      |false=>
       rw[hh2] at i
       clear hh2
       have⟨j,k,l,o⟩:=tZ4
       go_wp2_with ((first|((with_reducible refine zt ?_);first|(clear j;refine znB rfl rfl rfl R2.o rfl ?_)|(clear l;refine znB rfl rfl rfl RN.o rfl ?_))|((with_reducible refine zv ?_);clear k;refine zi rfl (zj (w:=wq) (ty:=34) (cs:=[.int .u32 t.ver,.slice V t.ins.length W,.slice X t.outs.length Y]) rfl rfl rfl rfl yU (qB rfl rfl rfl)) ?_)|(clear o;go_at_call 11;refine i.o.mono ?_;rintro e w4 ⟨rfl,D⟩;have O:=J (FB.o.trans0 D);clear D));go_frame)
       go_roundw
       case rel=>exact⟨m+1,by go_num,by omega,XQ.o.keep0 O.o,FQ.o.trans0 O.o⟩
       case measure=>simp[intOf];omega
     ·have i2:¬(m:Int)<(a.blk.txs.length:Int):=by omega
      go_wp2
      go_roundw
      case rel=>exact⟨n+1,by go_num,by omega,AN.o,FQ.o⟩
      case measure=>simp[intOf];omega
  ·have i1:¬(n:Int)<(L.length:Int):=by omega
   have HP:=J (T0.o (by
    have:=HK.o
    rw[show n=L.length by omega,List.take_length] at this
    exact this))
   go_wp2
   go_ret
   exact HP.o _ FR.o
theorem XJ {a b:Option Addr} {n m c d:Nat} (h:Value.slice a n c=.slice b m d):a=b∧n=m∧c=d:=by
 injection h with h1 h2 h3
 exact⟨h1,h2,h3⟩
theorem zli {x:Int} (h:0≤x∧x≤18446744073709551615):(Lit.int .u64 x).wf=true:=by
 simp[Lit.wf,IntKind.min,IntKind.max,IntKind.signed,IntKind.bits]
 omega
theorem zam:qp prog 103=[(48,0,true),(41,1,true)]:=by kernel_rfl
theorem zhJ {o:yF} (h:o.ok) (d:Nat):∀x∈qp prog 103,∃l,prog.keyLits (d+2) x.1 (((zF o).drop x.2.1).take (prog.cellsOf x.1))=some l:=by
 rw[zam]
 intro x a
 simp only[mem_cons,List.not_mem_nil,or_false] at a
 rcases a with rfl|rfl
 ·have e:((zF o).drop 0).take (prog.cellsOf 48)=[.int .u64 o.value]:=by
   rw[show prog.cellsOf 48=1 by kernel_rfl];rfl
  simp only[e]
  exact⟨_,Zs (by kernel_rfl) _ (zli h.1)⟩
 ·have e:((zF o).drop 1).take (prog.cellsOf 41)=o.lock.map zN:=by
   rw[show prog.cellsOf 41=32 by kernel_rfl]
   show(o.lock.map zN).take 32=o.lock.map zN
   rw[List.take_of_length_le (by simp[h.2.1])]
  simp only[e]
  exact zbx h.2 d
theorem zcE {o:yF} (h:o.ok):∃l,keyOf prog 103 (zdp o)=some l:=by
 have a:prog.types.size=prog.types.size-2+2:=by kernel_rfl
 refine Zc zam (by simp) (by decide) (by kernel_rfl) (cs:=zF o) (by rw[yt h];kernel_rfl) ?_
 rw[a,←zam]
 exact zhJ h _
theorem zl7:EqN prog 103:=⟨Keyed.of_law (deep_law_laid Xe (m:=3) (by decide) (of_decide_eq_true (by kernel_rfl)) (by kernel_rfl) (by kernel_rfl)),⟨3,by decide,by kernel_rfl⟩,by kernel_rfl,by kernel_rfl⟩
theorem zjZ:prog.underlying 9=some .string:=by kernel_rfl
theorem zjY:prog.underlying 106=some (.slice 5):=by kernel_rfl
theorem zj0:prog.underlying 5=some (.int .u8):=by kernel_rfl
theorem zhe (w:World) (a:Option Addr) (c:Nat):(convert 106 9 (.slice a 0 c)).run prog w=.ok (.string (strOfNums [])) w:=by
 rw[run_convert_bytes_string w 106 9 5 a 0 c zjY zj0 zjZ]
 cases a<;>simp[Conv.bytesToString,loadCells]
 all_goals rfl
theorem zd2 {w:World} {a:Option Addr} {n c:Nat} {k:List Int} (h:xA w (.slice a n c) n (k.map zN)) (f:k.length=n):(convert 106 9 (.slice a n c)).run prog w=.ok (.string (strOfNums k)) w:=by
 rcases Nat.eq_zero_or_pos n with hn|hn
 ·subst hn
  have g:k=[]:=List.eq_nil_of_length_eq_zero f
  rw[g]
  exact zhe w a c
 ·rcases h with(⟨e,j,-⟩|⟨b,off,d,e,m,o,l,p⟩)|⟨a',d,e,j,-⟩
  ·omega
  ·injection e with e1 j e3
   subst e1 e3
   exact run_convert_bytes_arg (P:=prog) w 106 5 zjY zj0 b off n _ k f (λi hi=>by
    have:=l i (zN (k.getD i 0)) (by rw[List.getElem?_map,getElem?_eq_getElem (by omega)];simp[f,hi])
    exact this) 9 zjZ
  ·omega
theorem zc8 (w:World) {a b:Option Addr} {c d:Nat} {k:List Int} (f:xA w (.slice a k.length c) k.length (k.map zN)) (g:xA w (.slice b k.length d) k.length (k.map zN)):
  Calls prog 68 #[.slice a k.length c,.slice b k.length d] w λe w'=>e=.returned (.bool true)∧Fr No w w':=by
 have h:=zd2 f rfl
 have i:=zd2 g rfl
 clear f g
 generalize strOfNums k=s at*
 go_enter Tryz.func68,Tryz.ntmps68
 go_wp2_with fail
 go_ret
 exact⟨by simp,Fr.refl _ _⟩
theorem zd7 (w:World) {u v:Value} {l:List yF} (a:xg w u l) (p:xg w v l) (I:l.length≤1000):
  Calls prog 67 #[u,v] w λe w'=>e=.returned (.bool true)∧Fr No w w':=by
 obtain⟨H,y,t⟩:=Yw
 obtain⟨O,P,rfl⟩:=a.2.form
 obtain⟨Q,R,rfl⟩:=p.2.form
 have s:=J a
 have B:=J p
 clear a p
 go_enter Tryz.func67,Tryz.ntmps67
 go_wp2_with fail
 go_loopw [13] (λq wr=>∃n:Nat,q=.int .i64 n∧n≤l.length∧Fr No w wr) (λq _=>l.length-(intOf q).toNat)
 case atStart=>exact⟨0,rfl,zero_le _,Fr.refl _ _⟩
 case round=>
  obtain⟨n,rfl,L,fr⟩:=hrel
  have g:=J fr
  clear fr
  by_cases m:n<l.length
  ·have C:(n:Int)<(l.length:Int):=by omega
   obtain⟨x,a⟩:∃x,l[n]? =some x:=⟨_,getElem?_eq_getElem m⟩
   obtain⟨bx,D,F,d,b,-⟩:=(s.o.keep g.o).at_ a
   obtain⟨k,E,G,f,c,-⟩:=(B.o.keep g.o).at_ a
   obtain⟨rfl,-,rfl⟩:=XJ d
   obtain⟨rfl,-,rfl⟩:=XJ f
   have j:=J (s.o.1 x (mem_of_getElem? a))
   have r:=J (yt j.o)
   have i:=J ((frN wr).drew)
   have z:=J (za b i.o id)
   have A:=J (za c i.o id)
   clear b c d f a
   go_wp2_with fail
   refine wrLx [ff,ff,ff,ff,ff,ff,ff,ff,ff] (λW=>W.rangeAt bx (D+n*33) (zF x)∧W.rangeAt k (E+n*33) (zF x)) ?_ (λK hK=>?_)
   ·exact⟨z.o,A.o⟩
   repeat((first|(refine zl rfl ?_;constructor;constructor;(focus(first|exact y3 (ty:=103) rfl (λw h=>h.1) y t (by rw[r.o];exact yE)|exact y3 (ty:=103) rfl (λw h=>h.2) y t (by rw[r.o];exact yE)|exact λw' h=>zl7.exec_neq (u:=(zF x).toArray) (v:=(zF x).toArray) rfl rfl rfl (zcE j.o) (zcE j.o) true ⟨λ_=>rfl,λ_=>rfl⟩ w'|(rintro w' ⟨M,N⟩;go_simp;(try with_reducible rfl);done))))|(refine zm rfl ?_));try simp only[Act.put,pA,pB,pC])
   refine zL (hK.out _ _ ?_)
   go_wp2_with fail
   go_roundw
   case rel=>exact⟨n+1,by go_num,by omega,g.o.trans0 i.o⟩
   case measure=>simp[intOf];omega
  ·have o:n=l.length:=by omega
   have C:¬(n:Int)<(l.length:Int):=by omega
   clear o
   go_wp2_with fail
   go_ret
   exact⟨rfl,g.o⟩
theorem zhX (w:World) {t:TxD} {cs ds:List Value} (P:TxQ w t cs) (hy:TxQ w t ds) (hI:t.ins.length≤1000) (hO:t.outs.length≤1000):
  Calls prog 34 #[.agg cs.toArray,.agg ds.toArray] w λe w'=>e=.returned (.bool true)∧Fr No w w':=by
 obtain⟨d,g,k,l,rfl,-,xi,xo⟩:=P
 obtain⟨ja,Q,qa,qc,rfl,-,yi,yo⟩:=hy
 have zI:=ZO
 have zO:=y7
 have f1:Fr No w (w.alloc (.cells #[.int .u32 t.ver,.slice d t.ins.length g,.slice k t.outs.length l] 34)):=(frN w).alloc _
 have F:Fr No (w.alloc (.cells #[.int .u32 t.ver,.slice d t.ins.length g,.slice k t.outs.length l] 34)) ((w.alloc (.cells #[.int .u32 t.ver,.slice d t.ins.length g,.slice k t.outs.length l] 34)).alloc (.cells #[.int .u32 t.ver,.slice ja t.ins.length Q,.slice qa t.outs.length qc] 34)):=(frN _).alloc _
 obtain⟨a0,a1,a2,-⟩:=qM w t.ver (.slice d t.ins.length g) (.slice k t.outs.length l)
 obtain⟨b0,X,b2,-⟩:=qM (w.alloc (.cells #[.int .u32 t.ver,.slice d t.ins.length g,.slice k t.outs.length l] 34)) t.ver (.slice ja t.ins.length Q) (.slice qa t.outs.length qc)
 rw[show(w.alloc (.cells #[.int .u32 t.ver,.slice d t.ins.length g,.slice k t.outs.length l] 34)).heap.size=w.heap.size+1 by simp] at b0 X b2
 have c1:=F.cell a1 _root_.id
 have c2:=F.cell a2 _root_.id
 have S:=J X
 have c:=J (f1.trans0 F)
 have T:=J (xi.keep0 c.o)
 have U:=J (yi.keep0 c.o)
 have XO:=J (xo.keep c.o)
 have YO:=J (yo.keep c.o)
 clear f1 xi yi xo yo a1 a2
 have c0:=F.cell a0 _root_.id
 clear a0 F
 show Calls prog 34 #[.agg #[.int .u32 t.ver,.slice d t.ins.length g,.slice k t.outs.length l],.agg #[.int .u32 t.ver,.slice ja t.ins.length Q,.slice qa t.outs.length qc]] w _
 go_enter Tryz.func34,Tryz.ntmps34
 have V:=tru
 go_wp2_with (clear V;go_at_call 67;refine(zd7 _ XO.o YO.o hO).mono ?_;rintro e w3 ⟨rfl,Y⟩;have s:=J Y;have d1:=Y.cell c1 _root_.id;clear Y;go_frame)
 have r:=J (c.o.trans0 s.o)
 have D:=J (T.o.keep0 s.o)
 have E:=J (U.o.keep0 s.o)
 have q:=J (s.o.cell S.o _root_.id)
 clear T U S c s XO YO
 have c:=r
 have T:=D
 have U:=E
 have S:=q
 clear r D E q
 generalize w3=w2 at*
 clear d1
 clear c0 c1 c2 b0 X b2
 go_loopw [32] (λiv wr=>∃n:Nat,iv=.int .i64 n∧n≤t.ins.length∧Fr No w2 wr) (λiv _=>t.ins.length-(intOf iv).toNat)
 case atStart=>exact⟨0,rfl,zero_le _,Fr.refl _ _⟩
 case round=>
  obtain⟨n,rfl,hn,fr⟩:=hrel
  have y:=J fr
  clear fr
  by_cases I:n<t.ins.length
  ·have i1:(n:Int)<(t.ins.length:Int):=by omega
   obtain⟨x,P⟩:∃x,t.ins[n]? =some x:=⟨_,getElem?_eq_getElem I⟩
   obtain⟨bx,ox,cx,xs,N,L,i,j,rfl,b,G⟩:=(T.o.keep0 y.o).at_ P
   obtain⟨a,o,cy,ys,O,M,ma,mc,rfl,-,H⟩:=(U.o.keep0 y.o).at_ P
   obtain⟨rfl,-,rfl⟩:=XJ N
   obtain⟨rfl,-,rfl⟩:=XJ O
   have C:=J b
   have PL:=J (zW b)
   have IL:=J (vo b (.slice i x.key.length j))
   have R1:=J L
   have R2:=J (zel M b)
   have KX:=J G
   have KY:=J H
   have m:=J ((frN wr).alloc (.cells (inC x.from_ (.slice i x.key.length j)).toArray 108))
   have B:=J (Xc wr (p:=x.from_) (kv:=.slice i x.key.length j) b)
   clear L M G H N O P b
   have⟨V,K1⟩:=tZ2
   go_wp2_with ((first|((with_reducible refine zt ?_);clear V;refine znA rfl rfl rfl R1.o IL.o ?_)|((with_reducible refine zv ?_);clear K1;refine znJ (w:=wr) (cs:=inC x.from_ (.slice i x.key.length j)) rfl rfl rfl rfl IL.o j8 ?_;generalize wr.alloc (.cells (inC x.from_ (.slice i x.key.length j)).toArray 108)=R at*));go_frame)
   have SD:=J (λ(W:World) (f:Fr No R W)=>(⟨za B.o.1 f _root_.id,f.cell B.o.2 _root_.id,((y.o.trans0 m.o).trans0 f).cell S.o _root_.id,za R2.o.1 (m.o.trans0 f) _root_.id,(m.o.trans0 f).cell R2.o.2 _root_.id⟩:W.rangeAt wr.heap.size 0 (zn x.from_)∧W.cell? ⟨wr.heap.size,33,none⟩=some (.slice i x.key.length j)∧W.cell? ⟨w.heap.size+1,1,none⟩=some (.slice (some ⟨a,o,none⟩) t.ins.length Q)∧W.rangeAt a (o+n*34) (zn x.from_)∧W.cell? ⟨a,o+n*34+33,none⟩=some (.slice ma x.key.length mc)))
   have A:=@J (Fr No R R.drew) ((frN R).drew)
   refine wrLx [ff,ff,ff,ff,ff,ff,ff,ff,ff,ff,ff,ff,ff,ff,ff,ff,ff,ff,tt,ff,ff] (λW=>W.rangeAt wr.heap.size 0 (zn x.from_)∧W.cell? ⟨wr.heap.size,33,none⟩=some (.slice i x.key.length j)∧W.cell? ⟨w.heap.size+1,1,none⟩=some (.slice (some ⟨a,o,none⟩) t.ins.length Q)∧W.rangeAt a (o+n*34) (zn x.from_)∧W.cell? ⟨a,o+n*34+33,none⟩=some (.slice ma x.key.length mc)) ?_ (λK hK=>?_)
   ·exact SD.o _ A.o
   generalize R.drew=z at*
   repeat((first|(refine zl rfl ?_;constructor;constructor;(focus(first|exact znG rfl (λw h=>h.1) PL.o|exact znG rfl (λw h=>h.2.2.2.1) PL.o|exact λw' h=>j5.exec_neq (u:=(zn x.from_).toArray) (v:=(zn x.from_).toArray) rfl rfl rfl (xH C.o) (xH C.o) true ⟨λ_=>rfl,λ_=>rfl⟩ w'|(rintro w' ⟨s1,s2,s3,s4,s5⟩;go_simp;(try with_reducible rfl);done))))|(refine zm rfl ?_));try simp only[Act.put,pA,pB,pC])
   (refine zJ rfl (λK' hK'=>?_))
   go_simp
   refine(zc8 z (KX.o.2.keep (m.o.trans0 A.o)) (KY.o.2.keep (m.o.trans0 A.o))).mono ?_
   rintro e w5 ⟨rfl,f5⟩
   have F5:=J f5
   clear f5
   refine nXt hK' ?_ λhS=>?_
   ·exact SD.o _ (A.o.trans0 F5.o)
   try simp only[Act.put,pA,pB,pC]
   repeat((first|(refine zl rfl ?_;constructor;constructor;(focus(first|(rintro w' ⟨s1,s2,s3,s4,s5⟩;go_simp;(try with_reducible rfl);done))))|(refine zm rfl ?_));try simp only[Act.put,pA,pB,pC])
   refine zL (hK.out _ _ ?_)
   go_wp2_with fail
   go_roundw
   case rel=>exact⟨n+1,by go_num,by omega,(y.o.trans0 m.o).trans0 (A.o.trans0 F5.o)⟩
   case measure=>simp[intOf];omega
  ·have Z:n=t.ins.length:=by omega
   subst Z
   clear I hn
   have i1:¬(t.ins.length:Int)<(t.ins.length:Int):=by omega
   go_wp2_with fail
   go_ret
   exact⟨rfl,c.o.trans0 y.o⟩
def J5:zd:=xS []
def exA:TxD:=⟨0,[⟨⟨yN,0⟩,[]⟩],[⟨400,J5⟩]⟩
def exB:TxD:=⟨1,[⟨⟨yN,0⟩,[]⟩],[⟨400,yN⟩]⟩
def exD:TxD:=⟨0,[⟨⟨idH exA,0⟩,[]⟩],[⟨300,yN⟩]⟩
def exS:List zr:=jJ [] (Zv yN [⟨500,J5⟩])
def eA:StE:=⟨idH exA,exA⟩
def eB:StE:=⟨idH exB,exB⟩
def eD:StE:=⟨idH exD,exD⟩
set_option maxRecDepth 100000
theorem ex1:jQ exS [] [] [] exA=0:=by decide+kernel
theorem ex2:jQ exS [] [] [eA] exB=14:=by decide+kernel
theorem ex3:jQ exS [] [] [] exB=0:=by decide+kernel
theorem ex4:jQ exS [] [] [] exD=15:=by decide+kernel
theorem ex5:jQ exS [] [] [eA] exD=0:=by decide+kernel
theorem ex6:qf [eA,eD] (idH exD)=[idH exD,idH exA]:=by decide+kernel
theorem ex7:idE exA=0:=by decide+kernel
theorem ex8:idE exD=0:=by decide+kernel
theorem ex9:jC [eA,eD] (idH exD)=[eA,eD]∧Qc [eA,eD] (idH exD)=[]:=by
 unfold jC Qc
 rw[ex6]
 simp[eA,eD]
theorem zau {P:Program} {t:TypeId} {n:Nat} {b:List (Nat×Nat)} {vs:List (Nat×Value)} {z:Value} (h:xB P t=some (n,b)) (a:(P.info? t).bind (·.zero)=some z) (c:Jm (b.toArray[·]?) 0 vs) (e:(xy vs).length≤z.cells.size):P.built t vs=some (xy vs++z.cells.toList.drop (xy vs).length).toArray:=by
 unfold xB at h
 unfold Program.built
 cases hi:P.info? t with
 |none=>simp[hi] at h
 |some it=>
  cases hu:P.underlying t with
  |none=>simp[hi,hu] at h
  |some d=>
   cases d<;>try(simp[hi,hu] at h;done)
   rename_i fs
   rw[hi] at a
   simp only[Option.bind_some] at a
   cases hp:fs.toList.mapM (λf=>(P.info? f.type).map λi=>(f.offset,i.size)) with
   |none=>simp[hi,hu,a,hp] at h
   |some places=>
    simp[hi,hu,a,hp] at h
    obtain⟨rfl,rfl⟩:=h
    simp only[a,hp]
    have:=Q0 (places.toArray[·]?) vs [] z.cells.toList c (by rw[Array.length_toList];exact e)
    simp only[List.nil_append,Array.toArray_toList] at this
    rw[this]
theorem zfd {x I B y p:World} {H o ps ma ms g m n:Nat} {s c:Nat→Prop} {q:List zr} (b:Gd I B H s q q []) (O:Fr No x I) (z:Fr No B y) (v:∀j,poV o ma ms c j→B.heap.size≤j) (u:∀X:Nat→Prop,(∀j,poV o ma ms c j→X j)→∀C,ym x y o ma ms g c X C [] 0)
  (A:Fr No y p) (l:∀j,stV ps m n RZ0 j→y.heap.size≤j) (w:∀X:Nat→Prop,(∀j,stV ps m n RZ0 j→X j)→∀C,yL x p ps m n RZ0 X C (λ_=>[])):
  ∃T:Nat→Prop,(∀X:Nat→Prop,(∀j,T j→X j)→(∀j,X j→j<p.heap.size)→WS x p H o ps T X 0 ⟨q,q,[],[],λ_=>[]⟩)∧∀j,T j→I.heap.size≤j∧j<p.heap.size:=by
 obtain⟨css,K⟩:=b.x
 have F:=K.cl
 have E:css=[]:=List.eq_nil_of_length_eq_zero F
 subst E
 have M:=u (poV o ma ms c) (λ_ h=>h) (λ_=>[])
 have t:∀j,poV o ma ms c j→j<y.heap.size:=M.hi
 have N:=w (stV ps m n RZ0) (λ_ h=>h) (λ_ _=>[])
 have G:∀j,stV ps m n RZ0 j→j<p.heap.size:=N.hi
 have a:∀j,s j→j<B.heap.size:=b.hi
 refine⟨wT s o ma ms c ps m n RZ0,λX D Q=>⟨s,[],ma,ms,g,c,λ_=>[],m,n,RZ0,λ_ _=>[],?_,rfl⟩,λj k=>?_⟩
 ·have L:CX x p H s X q q [] []:=zlT ⟨(K.fr0 z).fr0 A,b.srt0,b.ok0,b.len0,λi d cs f r=>by simp at f⟩ O
  exact
   {ch:=L
    po:=(u X (λj k=>D j (.inr (.inl k))) _).fr0 A
    st:=w X (λj k=>D j (.inr (.inr k))) _
    cp:=λj f r=>by have:=a j f;have:=v j r;omega
    csd:=λj f r=>by have:=a j f;have:=l j r;have:=z.size;omega
    psd:=λj f r=>by have:=t j f;have:=l j r;omega
    cx:=λj k=>D j (.inl k)
    xl:=Q
    val:=.nil
    l32:=by simp
    ad:=λe P=>by cases P}
 ·rcases k with e|e|e
  ·have:=a j e;have:=z.size;have:=A.size
   exact⟨b.lo j e,by omega⟩
  ·have:=t j e;have:=A.size;have:=v j e;have:=b.fr.size
   exact⟨by omega,by omega⟩
  ·have:=l j e;have:=b.fr.size;have:=z.size
   exact⟨by omega,G j e⟩
theorem zbu {a S:List zr} {Q:StQ} {n:Nat} (d:n<65) {l:List StE} (c:Q n=l) {t:TxD} (h:jQ S [] [] l t=0):Jq ⟨a,S,[],[],Q⟩ n t=0∧J4 ⟨a,S,[],[],Q⟩ n t=⟨a,S,[],[],jg Q n (l++[⟨idH t,t⟩])⟩:=by
 have hi:¬((n:Int)<0∨64<(n:Int)):=by omega
 subst c
 unfold Jq J4
 rw[if_neg hi,if_neg hi]
 dsimp only
 rw[Int.toNat_natCast]
 have b:jQ S (yb []) [] (Q n) t=0:=h
 refine⟨b,?_⟩
 unfold X7
 rw[if_pos b]
theorem zep {a S:List zr} {Q:StQ} {n:Nat} (f:n<65) {l:List StE} (e:Q n=l) {t:TxD} {c:Int} (d:c≠0) (h:jQ S [] [] l t=c):Jq ⟨a,S,[],[],Q⟩ n t=c∧J4 ⟨a,S,[],[],Q⟩ n t=⟨a,S,[],[],Q⟩:=by
 have hi:¬((n:Int)<0∨64<(n:Int)):=by omega
 subst e
 unfold Jq J4
 rw[if_neg hi,if_neg hi]
 dsimp only
 rw[Int.toNat_natCast]
 have b:jQ S (yb []) [] (Q n) t=c:=h
 refine⟨b,?_⟩
 unfold X7
 rw[if_neg (by rw[b];exact d),zdI]
def ziW:StQ:=λ_=>[]
def zd8:StQ:=jg ziW 3 [eA]
def zd9:StQ:=jg zd8 64 [eB]
def V2:StQ:=jg zd9 3 [eA,eD]
def zdd:StQ:=jg V2 3 []
theorem ziY:vY zdd=[64]:=by
 have h:∀i∈List.range 65,decide (zdd i≠[])=decide (i=64):=by
  intro i _
  unfold zdd V2 zd9 zd8 ziW jg
  by_cases h3:i=3
  ·subst h3;simp
  ·by_cases h64:i=64
   ·subst h64;simp
   ·simp[h3,h64]
 unfold vY
 rw[List.filter_congr h]
 decide
theorem zcO:xB prog 103=some (33,[(0,1),(1,32)]):=by kernel_rfl
theorem zeb (v:Int) {x:zd} (h:zX x):Jm (([(0,1),(1,32)]:List (Nat×Nat)).toArray[·]?) 0 [(0,.int .u64 v),(1,.agg (zf x).toArray)]:=by
 have h:(Value.agg (zf x).toArray).cells.size=32:=by show(zf x).toArray.size=32;simpa using zx h
 exact⟨rfl,by rw[h];rfl,trivial⟩
theorem zcN (v:Int) (x:zd):xy [(0,.int .u64 v),(1,.agg (zf x).toArray)]=zF ⟨v,x⟩:=by simp[xy,Value.cells,zF,zf]
theorem ziu (w:World):(Instr.build 108 #[]).run prog w=.ok (.agg (inC xI (.slice none 0 0)).toArray) w:=by kernel_rfl
theorem zkf (w:World):(Instr.build 103 #[(0,.int .u64 400)]).run prog w=.ok (.agg (zF ⟨400,yN⟩).toArray) w:=by kernel_rfl
theorem zke (w:World):(Instr.build 103 #[(0,.int .u64 300)]).run prog w=.ok (.agg (zF ⟨300,yN⟩).toArray) w:=by kernel_rfl
theorem zix (a b:Option Addr) (n c m d:Nat) (w:World):(Instr.build 34 #[(1,.slice a n c),(2,.slice b m d)]).run prog w=.ok (.agg [.int .u32 0,.slice a n c,.slice b m d].toArray) w:=by kernel_rfl
theorem zlR (a b:Option Addr) (n c m d:Nat) (w:World):(Instr.build 34 #[(0,.int .u32 1),(1,.slice a n c),(2,.slice b m d)]).run prog w=.ok (.agg [.int .u32 1,.slice a n c,.slice b m d].toArray) w:=by kernel_rfl
theorem zhO:xB prog 95=some (33,[(0,32),(32,1)]):=by kernel_rfl
theorem zlo:(prog.info? 95).bind (·.zero)=some (.agg (zn xI).toArray):=by kernel_rfl
theorem ziD {x:zd} (h:zX x):prog.built 95 [(0,.agg (zf x).toArray)]=some (zn ⟨x,0⟩).toArray:=by
 have a:(Value.agg (zf x).toArray).cells.size=32:=by show(zf x).toArray.size=32;simpa using zx h
 have e:xy [(0,.agg (zf x).toArray)]=zf x:=by simp[xy,Value.cells]
 have:=zau (P:=prog) (t:=95) (vs:=[(0,.agg (zf x).toArray)]) zhO zlo ⟨by rw[a];rfl,trivial⟩ (by rw[e,zx h];decide)
 rw[this,e,zx h]
 rfl
theorem zhN:xB prog 108=some (34,[(0,33),(33,1)]):=by kernel_rfl
theorem zlm:(prog.info? 108).bind (·.zero)=some (.agg (inC xI (.slice none 0 0)).toArray):=by kernel_rfl
theorem ziB {q:zE} (h:q.ok):prog.built 108 [(0,.agg (zn q).toArray)]=some (inC q (.slice none 0 0)).toArray:=by
 have a:(Value.agg (zn q).toArray).cells.size=33:=by show(zn q).toArray.size=33;simpa using zW h
 have e:xy [(0,.agg (zn q).toArray)]=zn q:=by simp[xy,Value.cells]
 have:=zau (P:=prog) (t:=108) (vs:=[(0,.agg (zn q).toArray)]) zhN zlm ⟨by rw[a];rfl,trivial⟩ (by rw[e,zW h];decide)
 rw[this,e,zW h]
 rfl
theorem zcK {w:World} {b:Nat} {o:yF} (h:w.heap[b]? =some (.cells (zF o).toArray 103 (0,0))) (ok:o.ok):xg w (.slice (some ⟨b,0,none⟩) 1 1) [o]:=
 ⟨λx a=>by simp at a;subst a;exact ok,.inl (.inr ⟨b,0,1,rfl,le_refl _,by decide,λj u c=>by
  have:=zq h j u (by simpa using c)
  simpa using this,yI h⟩)⟩
theorem zi0 {w:World} {a b:Nat} {v:Int} {p:zE} {o:yF} (c:w.heap[a]? =some (.cells (inC p (.slice none 0 0)).toArray 108 (0,0))) (e:w.heap[b]? =some (.cells (zF o).toArray 103 (0,0))) (g:p.ok) (f:o.ok) (h:0≤v∧v≤4294967295):TxQ w ⟨v,[⟨p,[]⟩],[o]⟩ [.int .u32 v,.slice (some ⟨a,0,none⟩) 1 1,.slice (some ⟨b,0,none⟩) 1 1]:=by
 refine⟨some ⟨a,0,none⟩,1,some ⟨b,0,none⟩,1,rfl,h,?_,zcK e f⟩
 refine⟨some ⟨a,0,none⟩,1,rfl,by unfold maxLen;simp,λi d hi=>?_⟩
 cases i with
 |zero=>
  simp at hi
  subst hi
  refine⟨a,0,inC p (.slice none 0 0),rfl,by have:=zq c;simpa using this,none,0,rfl,g,by simp,?_⟩
  exact .inl (.inl ⟨rfl,rfl,rfl⟩)
 |succ i=>simp at hi
theorem zde {w:World} {X:Nat→Prop} {a b:Nat} {v:Int} {p:zE} {o:yF} (c:w.heap[a]? =some (.cells (inC p (.slice none 0 0)).toArray 108 (0,0))) (d:w.heap[b]? =some (.cells (zF o).toArray 103 (0,0))) (g:p.ok) (e:o.ok) (h:0≤v∧v≤4294967295) (i:¬X a) (j:¬X b):Kept X w (λw=>TxQ w ⟨v,[⟨p,[]⟩],[o]⟩ [.int .u32 v,.slice (some ⟨a,0,none⟩) 1 1,.slice (some ⟨b,0,none⟩) 1 1]):=
 λ_ f=>zi0 (f.obj c i) (f.obj d j) g e h
section
variable {w0 w w':World} {pc pp ps N N':Nat} {T X T' X':Nat→Prop} {A A':WA}
theorem qi.kept (n:qi w0 w w' pc pp ps T X N' A' T' X') (h:WS w0 w pc pp ps T X N A) {Q:World→Prop} (k:Kept X w Q):Kept X' w' Q:=
 k.step (n.fr.mono (λj a=>(h.facts.1 j a).2.2)) (λj a e=>(n.xn j e).resolve_right (by omega))
theorem qi.out (n:qi w0 w w' pc pp ps T X N' A' T' X') {b:Nat} (a:¬T b) (c:b<w.heap.size):¬T' b:=λe=>(n.tn b e).elim a (by omega)
end
def zc5 (T:Nat→Prop) (w:World) (b:Nat) (cs:List Value):Prop:=w.rangeAt b 0 cs∧¬T b∧b<w.heap.size
theorem zc5.fr0 {T:Nat→Prop} {w w':World} {b:Nat} {cs:List Value} (h:zc5 T w b cs) (f:Fr No w w'):zc5 T w' b cs:=⟨za h.1 f id,h.2.1,lt_of_lt_of_le h.2.2 f.size⟩
theorem zc5.next {w0 w w':World} {pc pp ps N':Nat} {T X T' X':Nat→Prop} {A':WA} {b:Nat} {cs:List Value} (h:zc5 T w b cs) (n:qi w0 w w' pc pp ps T X N' A' T' X'):zc5 T' w' b cs:=⟨za h.1 n.fr h.2.1,n.out h.2.1 h.2.2,lt_of_lt_of_le h.2.2 n.fr.size⟩
theorem zm6:Jq ⟨exS,exS,[],[],ziW⟩ 3 exA=0∧J4 ⟨exS,exS,[],[],ziW⟩ 3 exA=⟨exS,exS,[],[],zd8⟩:=zbu (n:=3) (by decide) (l:=[]) rfl ex1
theorem zm7:Jq ⟨exS,exS,[],[],zd8⟩ 3 exB=14∧J4 ⟨exS,exS,[],[],zd8⟩ 3 exB=⟨exS,exS,[],[],zd8⟩:=zep (n:=3) (by decide) (l:=[eA]) rfl (by decide) ex2
theorem zm8:Jq ⟨exS,exS,[],[],zd8⟩ 64 exB=0∧J4 ⟨exS,exS,[],[],zd8⟩ 64 exB=⟨exS,exS,[],[],zd9⟩:=zbu (n:=64) (by decide) (l:=[]) rfl ex3
theorem zm9:Jq ⟨exS,exS,[],[],zd9⟩ 4 exD=15∧J4 ⟨exS,exS,[],[],zd9⟩ 4 exD=⟨exS,exS,[],[],zd9⟩:=zep (n:=4) (by decide) (l:=[]) rfl (by decide) ex4
theorem zna:Jq ⟨exS,exS,[],[],zd9⟩ 3 exD=0∧J4 ⟨exS,exS,[],[],zd9⟩ 3 exD=⟨exS,exS,[],[],V2⟩:=zbu (n:=3) (by decide) (l:=[eA]) rfl ex5
theorem ziX:V2 3=[eA,eD]:=rfl
theorem ziZ:jC (V2 3) (idH exD)=[eA,eD]∧jg V2 3 (Qc (V2 3) (idH exD))=zdd:=by
 rw[ziX,ex9.1,ex9.2]
 exact⟨rfl,rfl⟩
theorem zkr {w0 w:World} {pc pp ps N:Nat} {T X:Nat→Prop} (h:WS w0 w pc pp ps T X N ⟨exS,exS,[],[],V2⟩):
  Calls prog 14 #[.pointer (some ⟨ps,0,none⟩),.int .i64 3,.agg (zf (idH exD)).toArray] w λe w'=>∃g a cs,e=.returned (.tuple #[.slice (some ⟨g,0,none⟩) 2 a,.int .i64 0])∧w'.rangeAt g 0 cs∧TxQ w' exA cs∧∃T',qi w0 w w' pc pp ps T X N ⟨exS,exS,[],[],zdd⟩ T' X:=by
 have b:idH exD∈yP ((⟨exS,exS,[],[],V2⟩:WA).Q 3):=by
  show idH exD∈yP (V2 3)
  rw[ziX]
  simp[yP,eD]
 refine(zjU (n:=3) h (by decide) b).mono λe w' ⟨tv,m,r,l,c,T',_,k⟩=>?_
 have o:jC ((⟨exS,exS,[],[],V2⟩:WA).Q 3) (idH exD)=[eA,eD]:=ziZ.1
 have p:jg (⟨exS,exS,[],[],V2⟩:WA).Q 3 (Qc ((⟨exS,exS,[],[],V2⟩:WA).Q 3) (idH exD))=zdd:=ziZ.2
 rw[o] at l c
 rw[p] at k
 have j:=(c eA (by simp)).now
 have q:=(c eD (by simp)).now
 obtain⟨g,a,rfl,s,-⟩:=vy (f:=m) (L:=[eA,eD]) (i:=0) (x:=eA) (by decide) (λx d=>by
  rcases mem_cons.1 d with rfl|d
  ·exact(YF j).1
  ·obtain rfl:=List.mem_singleton.1 d
   exact(YF q).1) l rfl
 exact⟨g,a,m eA,r,by simpa using s,j,T',k⟩
theorem zl9 {w0 w:World} {pc pp ps N:Nat} {T X:Nat→Prop} (h:WS w0 w pc pp ps T X N ⟨exS,exS,[],[],zdd⟩):
  Calls prog 13 #[.pointer (some ⟨ps,0,none⟩),.int .i64 3] w λe w'=>∃a c,e=.returned (.slice a 0 c)∧Fr No w w':=by
 refine(zlv (n:=3) h (by decide)).mono λe w' ⟨g,b,d,f⟩=>?_
 obtain⟨a,c,rfl⟩:=d.slice.arg.form
 exact⟨a,c,b,f⟩
theorem zma {w0 w:World} {pc pp ps N:Nat} {T X:Nat→Prop} (h:WS w0 w pc pp ps T X N ⟨exS,exS,[],[],zdd⟩):
  Calls prog 21 #[.pointer (some ⟨ps,0,none⟩)] w λe w'=>∃a c,e=.returned (.slice a 1 c)∧Fr No w w':=by
 refine(zcT h).mono λe w' ⟨i,g,b,f⟩=>?_
 have d:vY (⟨exS,exS,[],[],zdd⟩:WA).Q=[64]:=ziY
 rw[d] at b
 obtain⟨a,c,rfl⟩:=b.slice.arg.form
 exact⟨a,c,g,f⟩
theorem Vg:zX J5:=Jj []
theorem zdu:xI.ok:=⟨xG,by decide,by decide⟩
theorem zlD:(⟨500,J5⟩:yF).ok:=⟨by decide,Vg⟩
theorem zjm:(⟨400,J5⟩:yF).ok:=⟨by decide,Vg⟩
theorem zlE:(⟨400,yN⟩:yF).ok:=⟨by decide,xG⟩
theorem zlF:(⟨300,yN⟩:yF).ok:=⟨by decide,xG⟩
theorem zfV:(⟨idH exA,0⟩:zE).ok:=⟨vu exA,by decide,by decide⟩
theorem zdV {w:World} (hg:qR w):Calls prog 9 #[] w λe w'=>e=.returned (.bool true)∧Fr No w w':=by
 obtain⟨dT,uT,rT⟩:=zbg
 have zh:=yO
 have zT:=show ∀w,(zeroValue 34).run prog w=.ok (.agg Vz.toArray) w from qY
 have F:=J hg
 have ae:=@J (∀w:World,xA w (.slice none 0 0) ([]:List Int).length (([]:List Int).map zN)) (λw=>.inl (.inl ⟨rfl,rfl,rfl⟩))
 have a6:=J (yt zlD)
 have a7:=J (yt zjm)
 have cp:=J (yt zlE)
 have cq:=J (yt zlF)
 have ay:=J (vo zdu (.slice none 0 0))
 have bA:=J (vo zfV (.slice none 0 0))
 have bk:=J (zx (vu exA))
 have bl:=J (zx (vu exD))
 clear hg
 go_enter Tryz.func9,Tryz.ntmps9
 have⟨K0,K1,K2,K3,K4,K5,K6,K7,K8,K9,bB,bC,bD,bE,bF,bG,bH,bI,bJ,bK,bL,bM,bN,bO,bP,bQ,bR,bS,bT,bU,bV,bW,bX,bY,bZ,b1,b2,b3,b4,b5,b6,b7,b8,b9,ca⟩:=tZ45
 go_wp2_with ((first|(clear K0;go_at_call 36;refine(zby F.o (ae.o _) (by decide)).mono ?_;rintro e w1 ⟨rfl,f1⟩;have F1:=J f1;clear f1)|(clear K3;go_at_call 35;refine(zlC w2 (zcK bt.o zlD) (by decide)).mono ?_;rintro e w3 ⟨pc,rfl,VC,hc⟩;have HC:=J hc;have F3:=J (F2.o.trans0 hc.fr);clear hc)|(clear K4;go_at_call 37;refine(zlA w w3 F3.o).mono ?_;rintro e w4 ⟨rfl,f4,ma,ms,g,VG,bo,bn⟩;have F4:=J (F3.o.trans0 f4);have PV:=J bo;have PO:=J bn;have FP:=J f4;clear bo bn f4;generalize cZ:w3.heap.size=pp at*)|(clear K5;go_at_call 38;refine(zlB w w4 F4.o).mono ?_;rintro e w5 ⟨ps,ka,ks,rfl,f5,bq,bp⟩;have F5:=J (F4.o.trans0 f5);obtain⟨T,br,ar⟩:=zfd HC.o F2.o FP.o (λj hj=>by have:=PV.o j hj;omega) PO.o f5 bq bp;have cy:=J (br T (λ_ h=>h) (λj hj=>(ar j hj).2));have S5:=J (frN w5);have I:=J (λj hj=>(ar j hj).2);clear br ar f5 bq bp HC PV PO FP)|(clear K8;go_at_call 36;refine(zby (F.o.keep0 F6.o) (ae.o _) (by decide)).mono ?_;rintro e w7 ⟨rfl,f7⟩;have F7:=J (F6.o.trans0 f7);have S7:=J (S6.o.trans0 f7);have b:=J (f7.obj b.o id);clear f7)|(clear bL;go_at_call 15;refine(Xb (F.o.keep0 bx.o) TA.o).mono ?_;rintro e C ⟨rfl,n⟩;rw[ex7];have ct:=J (cr.o.trans0 n);have b:=J (n.obj b.o id);have c:=J (n.obj c.o id);have d:=J (n.obj d.o id);have f:=J (n.obj f.o id);have i:=J (n.obj i.o id);have k:=J (n.obj k.o id);clear n)|(clear bW;go_at_call 12;refine(zac (F.o.keep0 v.o.facts.2.2.1) v.o 3 Y.o).mono ?_;rintro e c0 ⟨rfl,cM,cS,l⟩;rw[zm6.1];rw[zm6.2] at l;have x:=J l.ws;have aB:=J (l.kept v.o Y.o);have aN:=J (af.o.next l);have Z:=J (l.kept v.o az.o);have ag:=J (aV.o.next l);have aC:=J (l.kept v.o aA.o);have aY:=J (aX.o.next l);clear l)|(clear bY;go_at_call 12;refine(zac (F.o.keep0 x.o.facts.2.2.1) x.o 3 Z.o).mono ?_;rintro e c3 ⟨rfl,cN,cT,m⟩;rw[zm7.1];rw[zm7.2] at m;have L:=J m.ws;have aD:=J (m.kept x.o aB.o);have aO:=J (aN.o.next m);have aE:=J (m.kept x.o Z.o);have aW:=J (ag.o.next m);have aF:=J (m.kept x.o aC.o);have aZ:=J (aY.o.next m);clear m)|(clear b1;go_at_call 12;refine(zac (F.o.keep0 L.o.facts.2.2.1) L.o 64 aE.o).mono ?_;rintro e c4 ⟨rfl,cO,cU,p⟩;rw[zm8.1];rw[zm8.2] at p;have M:=J p.ws;have aG:=J (p.kept L.o aD.o);have aP:=J (aO.o.next p);have ab:=J (p.kept L.o aF.o);have ah:=J (aZ.o.next p);clear p)|(clear b3;go_at_call 12;refine(zac (F.o.keep0 M.o.facts.2.2.1) M.o 4 ab.o).mono ?_;rintro e c7 ⟨rfl,cP,cV,q⟩;rw[zm9.1];rw[zm9.2] at q;have O:=J q.ws;have aH:=J (q.kept M.o aG.o);have aQ:=J (aP.o.next q);have ad:=J (q.kept M.o ab.o);have ai:=J (ah.o.next q);clear q)|(clear b5;go_at_call 12;refine(zac (F.o.keep0 O.o.facts.2.2.1) O.o 3 ad.o).mono ?_;rintro e c8 ⟨rfl,cQ,cW,r⟩;rw[zna.1];rw[zna.2] at r;have bf:=J r.ws;have aI:=J (r.kept O.o aH.o);have aR:=J (aQ.o.next r);have aJ:=J (r.kept O.o ad.o);have a1:=J (ai.o.next r);clear r)|(clear b7;go_at_call 15;refine(Xb (F.o.keep0 bf.o.facts.2.2.1) aJ.o.now).mono ?_;rintro e E ⟨rfl,P⟩;rw[ex8];have cv:=J (bf.o.fr0 P);have aK:=J (aI.o.same P.of0);have aS:=J (aR.o.fr0 P);clear P)|(clear ca;go_at_call 14;refine(zkr bg.o).mono ?_;rintro e bs ⟨g,cX,cs,rfl,hg,hq,cR,R⟩;obtain⟨ja,jc,ka,kc,cz⟩:=hq.form;subst cz;have RG:=J hg;have HQ:=J hq;have cw:=J R.ws;have aM:=J (R.kept bg.o aL.o);have aU:=J (aT.o.next R);clear hg hq R)|((with_reducible refine zt ?_);first|(clear K1;refine zg rfl (yM (t:=103) rfl rfl zcO (zeb _ Vg) (zcN _ _) a6.o) ?_)|(clear K2;refine zg rfl (zS (t:=22) (cs:=zF ⟨500,J5⟩) rfl rfl qD Jf (by rw[←yw];rfl) (by decide) (by decide) a6.o) ?_;generalize cA:w1.heap.size=b0 at*;have bt:=J (yG w1 (.cells (zF ⟨500,J5⟩).toArray 103) cA.symm);have F2:=J (F1.o.alloc (.cells (zF ⟨500,J5⟩).toArray 103));generalize w1.alloc (.cells (zF ⟨500,J5⟩).toArray 103)=w2 at*)|(clear K6;with_reducible refine yp 37 ?_;refine zg rfl (yd (t:=108) rfl rfl (ziu _)) ?_)|(clear K7;refine zg rfl (zS (t:=32) (cs:=inC xI (.slice none 0 0)) rfl rfl Xo Vd rfl (by decide) (by decide) ay.o) ?_;generalize cF:w5.heap.size=y at*;have b:=J (yG w5 (.cells (inC xI (.slice none 0 0)).toArray 108) cF.symm);have F6:=J (F5.o.alloc (.cells (inC xI (.slice none 0 0)).toArray 108));have S6:=J (S5.o.alloc (.cells (inC xI (.slice none 0 0)).toArray 108));have cg:=@J (¬T y) (λe=>by have:=I.o _ e;have:=S5.o.size;omega);have a:=J ((frN w5).alloc (.cells (inC xI (.slice none 0 0)).toArray 108));clear a;generalize w5.alloc (.cells (inC xI (.slice none 0 0)).toArray 108)=w6 at*)|(clear K9;refine zg rfl (yM (t:=103) rfl rfl zcO (zeb _ Vg) (zcN _ _) a7.o) ?_)|(clear bB;refine zg rfl (zS (t:=22) (cs:=zF ⟨400,J5⟩) rfl rfl qD Jf (by rw[←yw];rfl) (by decide) (by decide) a7.o) ?_;generalize cI:w7.heap.size=z at*;have c:=J (yG w7 (.cells (zF ⟨400,J5⟩).toArray 103) cI.symm);have F8:=J (F7.o.alloc (.cells (zF ⟨400,J5⟩).toArray 103));have S8:=J (S7.o.alloc (.cells (zF ⟨400,J5⟩).toArray 103));have ck:=@J (¬T z) (λe=>by have:=I.o _ e;have:=S7.o.size;omega);have a:=J ((frN w7).alloc (.cells (zF ⟨400,J5⟩).toArray 103));have b:=J (a.o.obj b.o id);clear a;generalize w7.alloc (.cells (zF ⟨400,J5⟩).toArray 103)=w8 at*)|(clear bC;with_reducible refine yp 42 ?_;refine zg rfl (yd (t:=34) rfl rfl (zix _ _ _ _ _ _ _)) ?_)|(clear bE;with_reducible refine yp 43 ?_;refine zg rfl (yd (t:=108) rfl rfl (ziu _)) ?_)|(clear bF;refine zg rfl (zS (t:=32) (cs:=inC xI (.slice none 0 0)) rfl rfl Xo Vd rfl (by decide) (by decide) ay.o) ?_;generalize cG:w9.heap.size=Q at*;have f:=J (yG w9 (.cells (inC xI (.slice none 0 0)).toArray 108) cG.symm);have bu:=J (F9.o.alloc (.cells (inC xI (.slice none 0 0)).toArray 108));have a8:=J (S9.o.alloc (.cells (inC xI (.slice none 0 0)).toArray 108));have ch:=@J (¬T Q) (λe=>by have:=I.o _ e;have:=S9.o.size;omega);have a:=J ((frN w9).alloc (.cells (inC xI (.slice none 0 0)).toArray 108));have b:=J (a.o.obj b.o id);have c:=J (a.o.obj c.o id);have d:=J (a.o.obj d.o id);clear a;generalize w9.alloc (.cells (inC xI (.slice none 0 0)).toArray 108)=U at*)|(clear bG;with_reducible refine yp 45 ?_;refine zg rfl (yd (t:=103) rfl rfl (zkf _)) ?_)|(clear bH;refine zg rfl (zS (t:=22) (cs:=zF ⟨400,yN⟩) rfl rfl qD Jf (by rw[←yw];rfl) (by decide) (by decide) cp.o) ?_;generalize cJ:U.heap.size=S at*;have i:=J (yG U (.cells (zF ⟨400,yN⟩).toArray 103) cJ.symm);have bw:=J (bu.o.alloc (.cells (zF ⟨400,yN⟩).toArray 103));have ba:=J (a8.o.alloc (.cells (zF ⟨400,yN⟩).toArray 103));have cm:=@J (¬T S) (λe=>by have:=I.o _ e;have:=a8.o.size;omega);have a:=J ((frN U).alloc (.cells (zF ⟨400,yN⟩).toArray 103));have b:=J (a.o.obj b.o id);have c:=J (a.o.obj c.o id);have d:=J (a.o.obj d.o id);have f:=J (a.o.obj f.o id);clear a;generalize U.alloc (.cells (zF ⟨400,yN⟩).toArray 103)=B at*)|(clear bI;with_reducible refine yp 47 ?_;refine zg rfl (yd (t:=34) rfl rfl (zlR _ _ _ _ _ _ _)) ?_)|(clear bK;refine znB rfl rfl rfl LD.o rfl ?_)|(clear bN;refine znD rfl rfl rfl LH.o bk.o ?_)|(clear bO;with_reducible refine yp 54 ?_;refine zg rfl (Y9 (t:=95) rfl rfl (ziD (vu exA))) ?_)|(clear bP;with_reducible refine yp 55 ?_;refine zg rfl (Y9 (t:=108) rfl rfl (ziB zfV)) ?_)|(clear bQ;refine zg rfl (zS (t:=32) (cs:=inC ⟨idH exA,0⟩ (.slice none 0 0)) rfl rfl Xo Vd rfl (by decide) (by decide) bA.o) ?_;generalize cH:V.heap.size=i3 at*;have u:=J (yG V (.cells (inC ⟨idH exA,0⟩ (.slice none 0 0)).toArray 108) cH.symm);have bc:=J (bb.o.alloc (.cells (inC ⟨idH exA,0⟩ (.slice none 0 0)).toArray 108));have cj:=@J (¬T i3) (λe=>by have:=I.o _ e;have:=bb.o.size;omega);have a:=J ((frN V).alloc (.cells (inC ⟨idH exA,0⟩ (.slice none 0 0)).toArray 108));have b:=J (a.o.obj b.o id);have c:=J (a.o.obj c.o id);have d:=J (a.o.obj d.o id);have f:=J (a.o.obj f.o id);have i:=J (a.o.obj i.o id);have k:=J (a.o.obj k.o id);have o:=J (a.o.obj o.o id);clear a;generalize V.alloc (.cells (inC ⟨idH exA,0⟩ (.slice none 0 0)).toArray 108)=W at*)|(clear bR;with_reducible refine yp 57 ?_;refine zg rfl (yd (t:=103) rfl rfl (zke _)) ?_)|(clear bS;refine zg rfl (zS (t:=22) (cs:=zF ⟨300,yN⟩) rfl rfl qD Jf (by rw[←yw];rfl) (by decide) (by decide) cq.o) ?_;generalize cK:W.heap.size=o3 at*;have aj:=J (yG W (.cells (zF ⟨300,yN⟩).toArray 103) cK.symm);have bd:=J (bc.o.alloc (.cells (zF ⟨300,yN⟩).toArray 103));have cn:=@J (¬T o3) (λe=>by have:=I.o _ e;have:=bc.o.size;omega);have a:=J ((frN W).alloc (.cells (zF ⟨300,yN⟩).toArray 103));have b:=J (a.o.obj b.o id);have c:=J (a.o.obj c.o id);have d:=J (a.o.obj d.o id);have f:=J (a.o.obj f.o id);have i:=J (a.o.obj i.o id);have k:=J (a.o.obj k.o id);have o:=J (a.o.obj o.o id);have u:=J (a.o.obj u.o id);clear a;generalize W.alloc (.cells (zF ⟨300,yN⟩).toArray 103)=D at*)|(clear bT;with_reducible refine yp 59 ?_;refine zg rfl (yd (t:=34) rfl rfl (zix _ _ _ _ _ _ _)) ?_)|(clear bV;refine znB rfl rfl rfl af.o.1 rfl ?_)|(clear bX;refine xw rfl (zY (ty:=34) rfl rfl ag.o.1 uT rT yU) ?_)|(clear bZ;refine xw rfl (zY (ty:=34) rfl rfl aW.o.1 uT rT yU) ?_)|(clear b2;refine xw rfl (zY (ty:=34) rfl rfl ah.o.1 uT rT yU) ?_)|(clear b4;refine xw rfl (zY (ty:=34) rfl rfl ai.o.1 uT rT yU) ?_)|(clear b6;refine znB rfl rfl rfl a1.o.1 rfl ?_)|(clear b9;refine znD rfl rfl rfl LX.o bl.o ?_))|((with_reducible refine zv ?_);first|(clear bD;refine zi rfl (zj (w:=w8) (ty:=34) (cs:=[.int .u32 0,.slice (some ⟨y,0,none⟩) 1 1,.slice (some ⟨z,0,none⟩) 1 1]) rfl rfl rfl rfl yU (qB rfl rfl rfl)) ?_;generalize cB:w8.heap.size=c5 at*;have d:=J (yG w8 (.cells ([.int .u32 0,.slice (some ⟨y,0,none⟩) 1 1,.slice (some ⟨z,0,none⟩) 1 1]).toArray 34) cB.symm);have F9:=J (F8.o.alloc (.cells ([.int .u32 0,.slice (some ⟨y,0,none⟩) 1 1,.slice (some ⟨z,0,none⟩) 1 1]).toArray 34));have S9:=J (S8.o.alloc (.cells ([.int .u32 0,.slice (some ⟨y,0,none⟩) 1 1,.slice (some ⟨z,0,none⟩) 1 1]).toArray 34));have cc:=@J (¬T c5) (λe=>by have:=I.o _ e;have:=S8.o.size;omega);have a:=J ((frN w8).alloc (.cells ([.int .u32 0,.slice (some ⟨y,0,none⟩) 1 1,.slice (some ⟨z,0,none⟩) 1 1]).toArray 34));have b:=J (a.o.obj b.o id);have c:=J (a.o.obj c.o id);clear a;generalize w8.alloc (.cells ([.int .u32 0,.slice (some ⟨y,0,none⟩) 1 1,.slice (some ⟨z,0,none⟩) 1 1]).toArray 34)=w9 at*)|(clear bJ;refine zi rfl (zj (w:=B) (ty:=34) (cs:=[.int .u32 1,.slice (some ⟨Q,0,none⟩) 1 1,.slice (some ⟨S,0,none⟩) 1 1]) rfl rfl rfl rfl yU (qB rfl rfl rfl)) ?_;generalize cC:B.heap.size=c6 at*;have k:=J (yG B (.cells ([.int .u32 1,.slice (some ⟨Q,0,none⟩) 1 1,.slice (some ⟨S,0,none⟩) 1 1]).toArray 34) cC.symm);have bx:=J (bw.o.alloc (.cells ([.int .u32 1,.slice (some ⟨Q,0,none⟩) 1 1,.slice (some ⟨S,0,none⟩) 1 1]).toArray 34));have cr:=J (ba.o.alloc (.cells ([.int .u32 1,.slice (some ⟨Q,0,none⟩) 1 1,.slice (some ⟨S,0,none⟩) 1 1]).toArray 34));have cd:=@J (¬T c6) (λe=>by have:=I.o _ e;have:=ba.o.size;omega);have a:=J ((frN B).alloc (.cells ([.int .u32 1,.slice (some ⟨Q,0,none⟩) 1 1,.slice (some ⟨S,0,none⟩) 1 1]).toArray 34));have b:=J (a.o.obj b.o id);have c:=J (a.o.obj c.o id);have d:=J (a.o.obj d.o id);have f:=J (a.o.obj f.o id);have i:=J (a.o.obj i.o id);clear a;generalize B.alloc (.cells ([.int .u32 1,.slice (some ⟨Q,0,none⟩) 1 1,.slice (some ⟨S,0,none⟩) 1 1]).toArray 34)=cL at*;have LD:=J (zq d.o);have TA:=@J (TxQ cL exA [.int .u32 0,.slice (some ⟨y,0,none⟩) 1 1,.slice (some ⟨z,0,none⟩) 1 1]) (zi0 b.o c.o zdu zjm (by decide)))|(clear bM;refine znL (w:=C) (cs:=zf (idH exA)) rfl rfl rfl rfl bk.o zR ?_;generalize cE:C.heap.size=h7 at*;have o:=J (yG C (.cells (zf (idH exA)).toArray 41) cE.symm);have bb:=J (ct.o.alloc (.cells (zf (idH exA)).toArray 41));have a:=J ((frN C).alloc (.cells (zf (idH exA)).toArray 41));have b:=J (a.o.obj b.o id);have c:=J (a.o.obj c.o id);have d:=J (a.o.obj d.o id);have f:=J (a.o.obj f.o id);have i:=J (a.o.obj i.o id);have k:=J (a.o.obj k.o id);clear a;generalize C.alloc (.cells (zf (idH exA)).toArray 41)=V at*;have LH:=J (zq o.o))|(clear bU;refine zi rfl (zj (w:=D) (ty:=34) (cs:=[.int .u32 0,.slice (some ⟨i3,0,none⟩) 1 1,.slice (some ⟨o3,0,none⟩) 1 1]) rfl rfl rfl rfl yU (qB rfl rfl rfl)) ?_;generalize cD:D.heap.size=c9 at*;have au:=J (yG D (.cells ([.int .u32 0,.slice (some ⟨i3,0,none⟩) 1 1,.slice (some ⟨o3,0,none⟩) 1 1]).toArray 34) cD.symm);have cu:=J (bd.o.alloc (.cells ([.int .u32 0,.slice (some ⟨i3,0,none⟩) 1 1,.slice (some ⟨o3,0,none⟩) 1 1]).toArray 34));have cf:=@J (¬T c9) (λe=>by have:=I.o _ e;have:=bd.o.size;omega);have a:=J ((frN D).alloc (.cells ([.int .u32 0,.slice (some ⟨i3,0,none⟩) 1 1,.slice (some ⟨o3,0,none⟩) 1 1]).toArray 34));have b:=J (a.o.obj b.o id);have c:=J (a.o.obj c.o id);have d:=J (a.o.obj d.o id);have f:=J (a.o.obj f.o id);have i:=J (a.o.obj i.o id);have k:=J (a.o.obj k.o id);have o:=J (a.o.obj o.o id);have u:=J (a.o.obj u.o id);have aj:=J (a.o.obj aj.o id);clear a;generalize D.alloc (.cells ([.int .u32 0,.slice (some ⟨i3,0,none⟩) 1 1,.slice (some ⟨o3,0,none⟩) 1 1]).toArray 34)=s at*;have ax:=cu;have v:=@J (WS w s pc pp ps T T 0 ⟨exS,exS,[],[],ziW⟩) (cy.o.fr0 ax.out);have Y:=@J (Kept T s (λw=>TxQ w exA [.int .u32 0,.slice (some ⟨y,0,none⟩) 1 1,.slice (some ⟨z,0,none⟩) 1 1])) (zde b.o c.o zdu zjm (by decide) cg.o ck.o);have az:=@J (Kept T s (λw=>TxQ w exB [.int .u32 1,.slice (some ⟨Q,0,none⟩) 1 1,.slice (some ⟨S,0,none⟩) 1 1])) (zde f.o i.o zdu zlE (by decide) ch.o cm.o);have aA:=@J (Kept T s (λw=>TxQ w exD [.int .u32 0,.slice (some ⟨i3,0,none⟩) 1 1,.slice (some ⟨o3,0,none⟩) 1 1])) (zde u.o aj.o zfV zlF (by decide) cj.o cn.o);have af:=@J (zc5 T s c5 [.int .u32 0,.slice (some ⟨y,0,none⟩) 1 1,.slice (some ⟨z,0,none⟩) 1 1]) (⟨zq d.o,cc.o,yI d.o⟩);have aV:=@J (zc5 T s c6 [.int .u32 1,.slice (some ⟨Q,0,none⟩) 1 1,.slice (some ⟨S,0,none⟩) 1 1]) (⟨zq k.o,cd.o,yI k.o⟩);have aX:=@J (zc5 T s c9 [.int .u32 0,.slice (some ⟨i3,0,none⟩) 1 1,.slice (some ⟨o3,0,none⟩) 1 1]) (⟨zq au.o,cf.o,yI au.o⟩))|(clear b8;refine znL (w:=E) (cs:=zf (idH exD)) rfl rfl rfl rfl bl.o zR ?_;generalize bm:E.heap.size=cY at*;have a:=J ((frN E).alloc (.cells (zf (idH exD)).toArray 41));have av:=J (yG E (.cells (zf (idH exD)).toArray 41) bm.symm);generalize E.alloc (.cells (zf (idH exD)).toArray 41)=da at*;have bg:=J (cv.o.fr0 a.o);have aL:=J (aK.o.same a.o.of0);have aT:=J (aS.o.fr0 a.o);have LX:=J (zq av.o))));go_frame)
 have FD:=J (frN bs).drew
 have WD:=J (cw.o.fr0 FD.o)
 have H:=J (za RG.o FD.o id)
 have G:=J (za aU.o.1 FD.o id)
 have bz:=J (HQ.o.keep FD.o)
 have cb:=J (aM.o.now.keep FD.o)
 refine wrLx [ff,ff,ff,ff,ff,ff,ff,ff,ff,ff,ff,ff,tt,ff,ff,ff,tt,ff,ff,ff,ff,ff,tt,ff,ff,ff,ff] (λw'=>w'.rangeAt g 0 [.int .u32 exA.ver,.slice ja exA.ins.length jc,.slice ka exA.outs.length kc]∧w'.rangeAt c5 0 [.int .u32 0,.slice (some ⟨y,0,none⟩) 1 1,.slice (some ⟨z,0,none⟩) 1 1]) ?_ (λK hK=>?_)
 ·exact⟨H.o,G.o⟩
 generalize bs.drew=wd at*
 repeat((first|(refine zl rfl ?_;constructor;constructor;(focus(first|exact y3 (ty:=34) rfl (λw h=>h.1) uT rT yU|exact y3 (ty:=34) rfl (λw h=>h.2) uT rT yU|(rintro w' ⟨s1,s2⟩;go_simp;(try with_reducible rfl);done))))|(refine zm rfl ?_));try simp only[Act.put,pA,pB,pC])
 (refine zJ rfl (λK' hK'=>?_))
 go_simp
 refine(zhX wd bz.o cb.o (by decide) (by decide)).mono ?_
 rintro e db ⟨rfl,an⟩
 have bh:=J (WD.o.fr0 an)
 have ak:=J an
 clear an
 refine nXt hK' ?_ λhS=>?_
 ·exact⟨za H.o ak.o id,za G.o ak.o id⟩
 try simp only[Act.put,pA,pB,pC]
 repeat((first|(refine zl rfl ?_;constructor;constructor;(focus(first|(rintro w' ⟨s1,s2⟩;go_simp;(try with_reducible rfl);done))))|(refine zm rfl ?_));try simp only[Act.put,pA,pB,pC])
 (refine zJ rfl (λK' hK'=>?_))
 go_simp
 refine(zl9 bh.o).mono ?_
 rintro e dc ⟨aa,ac,rfl,ao⟩
 have bj:=J (bh.o.fr0 ao)
 have al:=J (ak.o.trans0 ao)
 clear ao
 refine nXt hK' ?_ λhS=>?_
 ·exact⟨za H.o al.o id,za G.o al.o id⟩
 try simp only[Act.put,pA,pB,pC]
 repeat((first|(refine zl rfl ?_;constructor;constructor;(focus(first|(rintro w' ⟨s1,s2⟩;go_simp;(try with_reducible rfl);done))))|(refine zm rfl ?_));try simp only[Act.put,pA,pB,pC])
 (refine zJ rfl (λK' hK'=>?_))
 go_simp
 refine(zma bj.o).mono ?_
 rintro e dd ⟨sa,sc,rfl,aq⟩
 have cx:=J (bj.o.fr0 aq)
 have aw:=J (al.o.trans0 aq)
 clear aq
 refine nXt hK' ?_ λhS=>?_
 ·exact⟨za H.o aw.o id,za G.o aw.o id⟩
 try simp only[Act.put,pA,pB,pC]
 repeat((first|(refine zl rfl ?_;constructor;constructor;(focus(first|(rintro w' ⟨s1,s2⟩;go_simp;(try with_reducible rfl);done))))|(refine zm rfl ?_));try simp only[Act.put,pA,pB,pC])
 refine zL (hK.out _ _ ?_)
 go_wp2_with fail
 go_ret
 exact⟨rfl,cx.o.facts.2.2.1⟩
def vQ (pc pp ps:Nat):List Value:=[.pointer (some ⟨pc,0,none⟩),.pointer (some ⟨pp,0,none⟩),.pointer (some ⟨ps,0,none⟩)]
theorem zc2 (w:World):(zeroValue 29).run prog w=.ok (.agg #[.pointer none,.pointer none,.pointer none]) w:=by kernel_rfl
theorem ziy (a b c:Option Addr) (w:World):(Instr.build 29 #[(0,.pointer a),(1,.pointer b),(2,.pointer c)]).run prog w=.ok (.agg [.pointer a,.pointer b,.pointer c].toArray) w:=by kernel_rfl
theorem XB:(prog.info? 29).map (·.size)=some 3:=by kernel_rfl
def zfo (first:List yF):List zr:=jJ [] (Zv yN first)
theorem zfp {u w:World} (S:Fr No u w) {v:Value} {first:List yF} (V:xg w v first) (hN:first.length≤256):
  Calls prog 10 #[v] w λe w'=>∃c d ps T,e=.returned (.agg (vQ c d ps).toArray)∧(∀X:Nat→Prop,(∀j,T j→X j)→(∀j,X j→T j∨j<w.heap.size)→WS u w' c d ps T X 0 ⟨zfo first,zfo first,[],[],λ_=>[]⟩)∧(∀j,T j→w.heap.size≤j)∧Fr No w w':=by
 have zw:=zc2
 have x:=J S
 have B:=J ((frN w).alloc (.cells #[.pointer none,.pointer none,.pointer none] 29))
 have Y:=J (ye w (.cells #[.pointer none,.pointer none,.pointer none] 29))
 have HC:=J (zlC _ (V.keep B.o) hN)
 clear V S
 go_enter Tryz.func10,Tryz.ntmps10
 have⟨K0,K1,K2,K3,K4⟩:=tZ5
 go_wp2_with ((first|(clear K0;go_at_call 35;generalize G:w.heap.size=f at*;generalize r:w.alloc (.cells #[.pointer none,.pointer none,.pointer none] 29)=w1 at*;have R:=@J (w1.heap.size=f+1) (by rw[←r,←G];simp);clear r;refine HC.o.mono ?_;rintro e W ⟨c,rfl,VC,A⟩;have GC:=J A;have C:=J (B.o.trans0 A.fr);have Z:=J (A.fr.obj Y.o id);clear A)|(clear K1;go_at_call 37;refine(zlA u W (x.o.trans0 C.o)).mono ?_;rintro e w4 ⟨rfl,y,ma,ms,g,VG,o,n⟩;have L:=J (C.o.trans0 y);have Q:=J o;have O:=J n;have M:=J y;have I:=J (y.obj Z.o id);clear o n y;generalize ab:W.heap.size=d at*)|(clear K2;go_at_call 38;refine(zlB u w4 (x.o.trans0 L.o)).mono ?_;rintro e H ⟨ps,ka,ks,rfl,l,q,p⟩;have D:=J (L.o.trans0 l);obtain⟨T,s,m⟩:=zfd GC.o (x.o.trans0 B.o) M.o (λj a=>by have:=Q.o j a;omega) O.o l q p;have E:=J s;have k:=J m;have Z5:=@J (f<H.heap.size) (by have:=D.o.size;have:=R.o;have:=C.o.size;have z:=yI (l.obj I.o id);exact z);have K:=J (l.obj I.o id);clear s m l q p GC Q O M)|((with_reducible refine zt ?_);clear K3;refine zg rfl (yd (t:=29) rfl rfl (ziy _ _ _ _)) ?_)|((with_reducible refine zv ?_);clear K4;refine zi rfl (zK (ty:=29) (b:=f) (off:=0) (cs:=[.pointer (some ⟨c,0,none⟩),.pointer (some ⟨d,0,none⟩),.pointer (some ⟨ps,0,none⟩)]) rfl rfl rfl (zU K.o (le_refl 3)) XB (qB rfl rfl rfl)) ?_));go_frame)
 have BE:=ZZ (cs:=[.pointer (some ⟨c,0,none⟩),.pointer (some ⟨d,0,none⟩),.pointer (some ⟨ps,0,none⟩)]) K.o rfl
 have F:=zu f [.pointer (some ⟨c,0,none⟩),.pointer (some ⟨d,0,none⟩),.pointer (some ⟨ps,0,none⟩)] 0 H
 have HW:=E.o
 have N:∀j,T j→f+1≤j:=λj a=>by have:=(k.o j a).1;have:=R.o;omega
 have aa:u.heap.size≤f:=by have:=x.o.size;omega
 have WE:=λ(X:Nat→Prop) (z:∀j,T j→X j) (h2:∀j,X j→T j∨j<w.heap.size)=>
  have U:∀j,X j→j<H.heap.size:=λj a=>(h2 j a).elim (λe=>(k.o j e).2) (λe=>by have:=D.o.size;omega)
  (HW (λj=>X j∨j=f) (λj h=>.inl (z j h)) (λj a=>a.elim (U j) (λe=>by rw[e];exact Z5.o))).frV (X':=X) F (λj a e=>by have:=N j a;omega) (λj e=>by omega) (λj e=>.inr e) (λj _ e=>.inl e) z (λj a=>lt_of_lt_of_le (U j a) F.size)
 refine bodyPost_ret (v:=.agg [.pointer (some ⟨c,0,none⟩),.pointer (some ⟨d,0,none⟩),.pointer (some ⟨ps,0,none⟩)].toArray) (results_cell_row (P:=prog) (fn:=Tryz.f10) rfl _ _ f 29 _ (0,0) _ rfl BE Tryz.underlying29 rfl XB) rfl ⟨c,d,ps,T,rfl,WE,λj a=>by have:=N j a;omega,D.o.trans F (λi hi e=>by omega)⟩
theorem zg5 {d w:World} (g:Fr No d w) {v:Value} {first:List yF} (c:xg w v first) (i:first.length≤256):
  Calls prog 10 #[v] w λe w'=>∃a b ps T,e=.returned (.agg (vQ a b ps).toArray)∧WS d w' a b ps T T 0 ⟨zfo first,zfo first,[],[],λ_=>[]⟩∧(∀j,T j→w.heap.size≤j)∧Fr No w w':=
 (zfp g c i).mono λe w' ⟨a,b,ps,T,k,h,c,f⟩=>⟨a,b,ps,T,k,h T (λ_ h=>h) (λ_ h=>.inl h),c,f⟩
section
variable {w0 w w':World} {pc pp ps N N':Nat} {T X T' X':Nat→Prop} {A A':WA}
end
def FlA (w0 w:World) (c7 pc pp ps:Nat) (T X:Nat→Prop) (N:Nat) (A:WA):Prop:=
 WS w0 w pc pp ps T X N A∧(∀j,X j→w0.heap.size≤j)∧¬T c7∧w.heap[c7]? =some (.cells (vQ pc pp ps).toArray 29 (0,0))
section
variable {w0 w w':World} {c7 pc pp ps N N':Nat} {T X T' X':Nat→Prop} {A A':WA}
theorem FlA.fr0 (h:FlA w0 w c7 pc pp ps T X N A) (f:Fr No w w'):FlA w0 w' c7 pc pp ps T X N A:=⟨h.1.fr0 f,h.2.1,h.2.2.1,f.obj h.2.2.2 id⟩
theorem FlA.next (h:FlA w0 w c7 pc pp ps T X N A) (n:qi w0 w w' pc pp ps T X N' A' T' X'):FlA w0 w' c7 pc pp ps T' X' N' A':=
 ⟨n.ws,λj a=>(n.xn j a).elim (h.2.1 j) (λe=>le_trans h.1.facts.2.2.1.size e),n.out h.2.2.1 (yI h.2.2.2),n.fr.obj h.2.2.2 h.2.2.1⟩
theorem FlA.cells (h:FlA w0 w c7 pc pp ps T X N A):w.cell? ⟨c7,0,none⟩=some (.pointer (some ⟨pc,0,none⟩))∧w.cell? ⟨c7,1,none⟩=some (.pointer (some ⟨pp,0,none⟩))∧w.cell? ⟨c7,2,none⟩=some (.pointer (some ⟨ps,0,none⟩)):=by
 have:=zq h.2.2.2
 exact⟨by simpa using this 0 _ rfl,by simpa using this 1 _ rfl,by simpa using this 2 _ rfl⟩
theorem FlA.fr (h:FlA w0 w c7 pc pp ps T X N A):Fr No w0 w:=h.1.facts.2.2.1
end
def JJ (T:Nat→Prop) (w:World) (B:Nat) (ty:TypeId) (k:Nat) (v:Value) (n:Nat) (xs:List Value):Prop:=w.ownsRow B ty k v n xs∧∀j,v.ownBlock=some j→¬T j
theorem JJ.fr0 {T:Nat→Prop} {w w':World} {B k n:Nat} {ty:TypeId} {v:Value} {xs:List Value} (h:JJ T w B ty k v n xs) (f:Fr No w w'):JJ T w' B ty k v n xs:=⟨zb h.1 f (λ_ _=>id),h.2⟩
theorem JJ.new {w0 w:World} {pc pp ps N:Nat} {T X:Nat→Prop} {A:WA} {B k n:Nat} {ty:TypeId} {v:Value} {xs:List Value} {b:World} (h:WS w0 b pc pp ps T X N A) (a:w.ownsRow B ty k v n xs) (d:b.heap.size≤B):JJ T w B ty k v n xs:=
 ⟨a,λj c e=>by have:=(h.facts.1 j e).2.1;have:=(a.lt j c).1;omega⟩
def y9 (e:Int) (tv lv:Value):List Value:=[.int .i64 e,tv,lv]
theorem JH (w:World):(zeroValue 60).run prog w=.ok (.agg (y9 0 (.slice none 0 0) (.slice none 0 0)).toArray) w:=by kernel_rfl
theorem xW:(prog.info? 60).map (·.size)=some 3:=by kernel_rfl
section
variable {w0 w w' w3 w5 w6:World} {pc pp ps N:Nat} {T X T' X':Nat→Prop} {A A':WA} {c:Nat}
theorem qi.more (n:qi w0 w w' pc pp ps T X N A' T' X') {N':Nat} (h:N≤N'):qi w0 w w' pc pp ps T X N' A' T' X':={n with ws:=n.ws.more h}
theorem WS.into (h:WS w0 w pc pp ps T X N A) (b:Fr No w w3) (f:w.heap.size≤c) (d:c<w3.heap.size):WS w0 w3 pc pp ps T (λj=>X j∨j=c) N A:=
 h.frV b (λ_ _=>id) (λ_ h=>h.elim) (λ_ h=>h.elim) (λj a e=>e.resolve_right (by omega)) (λj a=>.inl (h.facts.1 j a).2.2) (λj a=>a.elim (λe=>lt_of_lt_of_le (h.facts.2.1 j e) b.size) (λe=>by omega))
theorem Kept.into {Q:World→Prop} (k:Kept X w Q) (a:Fr No w w3) (b:w.heap.size≤c):Kept (λj=>X j∨j=c) w3 Q:=k.step a.of0 (λj d e=>e.resolve_right (by omega))
theorem qi.ans (n:qi w0 w3 w5 pc pp ps T (λj=>X j∨j=c) N A' T' X') {f:Nat} (h:WS w0 w pc pp ps T X f A) (b:Fr No w w3) (k:w.heap.size≤c) (g:c<w3.heap.size) (d:Fr (λj=>j=c) w5 w6):qi w0 w w6 pc pp ps T X N A' T' X':=by
 have i:=h.facts.2.2.1.size
 refine⟨n.ws.frV d (λj a e=>?_) (λj e=>by omega) (λj e=>n.xx j (.inr e)) (λ_ _ h=>h) (λj a=>(n.ws.facts.1 j a).2.2) (λj a=>lt_of_lt_of_le (n.ws.facts.2.1 j a) d.size),((b.of0:Fr T w w3).trans n.fr (λ_ _ h=>h)).trans d (λj a e=>by omega),λj a=>(n.tn j a).imp_right (λe=>le_trans b.size e),λj a=>(n.xn j a).elim (λe=>e.elim .inl (λe=>.inr (by omega))) (λe=>.inr (le_trans b.size e)),λj a=>n.xx j (.inl a)⟩
 subst e
 exact(n.tn j a).elim (λe=>by have:=(h.facts.1 j e).2.1;omega) (λe=>by omega)
end
theorem xP (w:World) (d b a:Obj):(((w.alloc d).alloc b).alloc a).heap[w.heap.size]? =some d∧(((w.alloc d).alloc b).alloc a).heap[w.heap.size+1]? =some b∧(((w.alloc d).alloc b).alloc a).heap[w.heap.size+1+1]? =some a∧Fr No w (((w.alloc d).alloc b).alloc a)∧w.heap.size+1+1<(((w.alloc d).alloc b).alloc a).heap.size:=by
 refine⟨Jr (Jr (ye w d) b) a,Jr (yG _ b (by simp)) a,yG _ a (by simp),(((frN w).alloc d).alloc b).alloc a,by simp⟩
theorem qm {X:Nat→Prop} {w:World} {a:vH} {cs:List Value} (k:Kept X w (λw=>qH w a cs)):∃d bcs,cs=ZU a.kind a.src d a.id bcs∧YR a.src∧zX a.id∧d.length=3∧bcs.length=3∧Kept X w (λw=>TxQ w a.tx d)∧Kept X w (λw=>jo w a.blk bcs):=by
 obtain⟨t,b,rfl,o,p,j,q⟩:=k.now
 have h:∀w',Fr X w w'→TxQ w' a.tx t∧jo w' a.blk b:=λw' f=>by
  obtain⟨s,r,e,-,-,g,i⟩:=k w' f
  simp only[ZU,List.cons.injEq,true_and] at e
  obtain⟨l,m⟩:=List.append_inj e (by rw[j.len3,g.len3])
  have n:=List.append_cancel_left m
  subst l
  subst n
  exact⟨g,i⟩
 exact⟨t,b,rfl,o,p,j.len3,q.len3,λw' f=>(h w' f).1,λw' f=>(h w' f).2⟩
theorem Xs (e:Int) (w:World):(Instr.build 60 #[(0,.int .i64 e)]).run prog w=.ok (.agg (y9 e (.slice none 0 0) (.slice none 0 0)).toArray) w:=by kernel_rfl
theorem zgn (e:Int) (a:Option Addr) (n c:Nat) (w:World):(Instr.build 60 #[(0,.int .i64 e),(1,.slice a n c)]).run prog w=.ok (.agg (y9 e (.slice a n c) (.slice none 0 0)).toArray) w:=by kernel_rfl
theorem zkc (a:Option Addr) (n c:Nat) (w:World):(Instr.build 60 #[(2,.slice a n c)]).run prog w=.ok (.agg (y9 0 (.slice none 0 0) (.slice a n c)).toArray) w:=by kernel_rfl
def zfj (w:World) (v:Value) (l:List Nat):Prop:=xA w v l.length (l.map iV)
def YM (X:Nat→Prop) (w:World) (tv lv:Value) (ts:List TxD) (is:List Nat):Prop:=Kept X w (λw=>Jo w tv ts)∧Kept X w (λw=>zfj w lv is)
theorem zgU (w:World):Jo w (.slice none 0 0) []:=⟨none,0,rfl,zero_le _,λi d h=>by simp at h⟩
theorem zjc (w:World):zfj w (.slice none 0 0) []:=(World.ownsRow_nil w 0 3 1).slice.arg
theorem JE {X:Nat→Prop} {w:World}:YM X w (.slice none 0 0) (.slice none 0 0) [] []:=⟨λw' _=>zgU w',λw' _=>zjc w'⟩
theorem zle {X:Nat→Prop} {w:World} {B:Nat} {v:Value} {l:List StE} {k:StE→List Value} (n:w.ownsRow B 34 3 v l.length (l.flatMap k)) (p:∀j,X j→j<B) (m:∀e∈l,Kept X w (λw=>TxQ w e.tx (k e))) (r:l.length≤maxLen):Kept X w (λw=>Jo w v (l.map (·.tx))):=λw' f=>by
 have b:=zb n f (λj q e=>by have:=(n.lt j q).1;have:=p j e;omega)
 obtain⟨a,c,rfl⟩:=b.slice.arg.form
 refine⟨a,c,by rw[List.length_map],by rw[List.length_map];exact r,λi d hi=>?_⟩
 rw[List.getElem?_map] at hi
 obtain⟨e,h,rfl⟩:=Option.map_eq_some_iff.1 hi
 obtain⟨g,o,t,s,-⟩:=vy (f:=k) (by decide) (λe h=>(m e h).now.len3) b h
 cases t
 exact⟨g,0,k e,rfl,by rw[zero_add];exact s,m e (mem_of_getElem? h) w' f⟩
theorem zjd {X:Nat→Prop} {w:World} {B:Nat} {v:Value} {l:List Nat} (a:w.ownsRow B 3 1 v l.length (l.map iV)) (b:∀j,X j→j<B):Kept X w (λw=>zfj w v l):=λw' f=>
 (zb a f (λj d e=>by have:=(a.lt j d).1;have:=b j e;omega)).slice.arg
section
variable {w0 w:World} {pc pp ps N:Nat} {T X:Nat→Prop} {A:WA}
theorem znt (F:qR w0) (h:WS w0 w pc pp ps T X N A) {a:vH} {cs:List Value} (E:Kept X w (λw=>qH w a cs)) (G:a.kind=0):
  Calls prog 20 #[.agg (vQ pc pp ps).toArray,.agg cs.toArray] w λe w'=>e=.returned (.agg (y9 (Jq A a.src a.tx) (.slice none 0 0) (.slice none 0 0)).toArray)∧∃T' X',qi w0 w w' pc pp ps T X N (J4 A a.src a.tx) T' X'∧YM X' w' (.slice none 0 0) (.slice none 0 0) [] []:=by
 obtain⟨l,C,D,m,s⟩:=xP w (.cells (vQ pc pp ps).toArray 29) (.cells cs.toArray 57) (.cells (y9 0 (.slice none 0 0) (.slice none 0 0)).toArray 60)
 obtain⟨aa,bcs,g,j,i,f,p,kt,kb⟩:=qm E
 have d:=J (h.into (c:=w.heap.size+1+1) m (by omega) s)
 have y:=J (kt.into (c:=w.heap.size+1+1) m (by omega))
 have k:=J (jr (q:=w.heap.size+1) (by rw[←g];exact zq C) f i)
 have S:=J k.o.2.2.1
 have Y:=k.o.1
 have cS:=k.o.2.1
 have p0:=by simpa using zq l 0 _ rfl
 have p1:=by simpa using zq l 1 _ rfl
 have p2:=by simpa using zq l 2 _ rfl
 have u:=J D
 have I:=J m
 have B:=J s
 have n:=@J (w.heap.size≤w.heap.size+1+1) (by omega)
 have V:=J f
 have z:=J h
 have K:=J (F.keep0 d.o.facts.2.2.1)
 have zA:=JH
 clear h F E g j i f p kt kb l C D m s k
 rw[G] at Y
 clear G
 go_enter Tryz.func20,Tryz.ntmps20
 have⟨L,M,O,Q⟩:=tZ4
 go_wp2_with ((first|((with_reducible refine zt ?_);first|(clear L;refine znB rfl rfl rfl S.o V.o ?_;generalize w.heap.size+1+1=o at d y u B n⊢;generalize (((w.alloc (.cells (vQ pc pp ps).toArray 29)).alloc (.cells cs.toArray 57)).alloc (.cells (y9 0 (.slice none 0 0) (.slice none 0 0)).toArray 60))=w3 at*)|(clear O;refine zg rfl (yd (t:=60) rfl rfl (Xs _)) ?_))|(clear M;go_at_call 12;refine(zac K.o d.o a.src y.o).mono ?_;rintro e w5 ⟨rfl,U,W,r⟩;have R:=J r;have x:=J (r.fr.obj u.o (λe=>by have:=(z.o.facts.1 _ e).2.1;have:=n.o;omega));clear r)|((with_reducible refine zv ?_);clear Q;refine zi rfl (zK (ty:=60) (b:=o) (off:=0) (cs:=y9 (Jq A a.src a.tx) (.slice none 0 0) (.slice none 0 0)) rfl rfl rfl (zU x.o (le_refl 3)) xW (qB rfl rfl rfl)) ?_));go_frame)
 have H:=ZZ (cs:=y9 (Jq A a.src a.tx) (.slice none 0 0) (.slice none 0 0)) x.o rfl
 have Z:=zu o (y9 (Jq A a.src a.tx) (.slice none 0 0) (.slice none 0 0)) 0 w5
 refine bodyPost_ret (v:=.agg (y9 (Jq A a.src a.tx) (.slice none 0 0) (.slice none 0 0)).toArray) (results_cell_row (P:=prog) (fn:=Tryz.f20) rfl _ _ o 60 _ (0,0) _ rfl H Tryz.underlying60 rfl xW) rfl ⟨rfl,U,W,R.o.ans z.o I.o n.o B.o Z,JE⟩
theorem zm1 (hg:qR w0) (h:WS w0 w pc pp ps T X N A) {a:vH} {cs:List Value} (R:Kept X w (λw=>qH w a cs)) (S:a.kind=1) {n:Nat} (U:a.src=(n:Int)) (hn:n<65) (k:a.id∈yP (A.Q n)):
  Calls prog 20 #[.agg (vQ pc pp ps).toArray,.agg cs.toArray] w λe w'=>∃tv,e=.returned (.agg (y9 0 tv (.slice none 0 0)).toArray)∧∃T' X',qi w0 w w' pc pp ps T X N {A with Q:=jg A.Q n (Qc (A.Q n) a.id)} T' X'∧YM X' w' tv (.slice none 0 0) ((jC (A.Q n) a.id).map (·.tx)) []:=by
 obtain⟨r,L,M,z,F⟩:=xP w (.cells (vQ pc pp ps).toArray 29) (.cells cs.toArray 57) (.cells (y9 0 (.slice none 0 0) (.slice none 0 0)).toArray 60)
 obtain⟨aa,bcs,i,m,g,o,B,kt,kb⟩:=qm R
 have d:=J (h.into (c:=w.heap.size+1+1) z (by omega) F)
 have p:=J (jr (q:=w.heap.size+1) (by rw[←i];exact zq L) o g)
 have RH:=J p.o.2.2.2.1
 have cK:=p.o.1
 have cS:=p.o.2.1
 have p0:=by simpa using zq r 0 _ rfl
 have p1:=by simpa using zq r 1 _ rfl
 have p2:=by simpa using zq r 2 _ rfl
 have G:=J M
 have W:=J z
 have K:=J F
 have x:=@J (w.heap.size≤w.heap.size+1+1) (by omega)
 have Z:=J (zx g)
 have I:=J h
 have zA:=JH
 clear h hg R i m g o B kt kb r L M z F p
 rw[S] at cK
 clear S
 rw[U] at cS
 have u:=J k
 clear U k
 go_enter Tryz.func20,Tryz.ntmps20
 have⟨K0,K1,K2,K3⟩:=tZ4
 go_wp2_with ((first|((with_reducible refine zt ?_);first|(clear K0;refine znD rfl rfl rfl RH.o Z.o ?_;generalize w.heap.size+1+1=y at d G K x⊢;generalize (((w.alloc (.cells (vQ pc pp ps).toArray 29)).alloc (.cells cs.toArray 57)).alloc (.cells (y9 0 (.slice none 0 0) (.slice none 0 0)).toArray 60))=w3 at*)|(clear K2;refine zg rfl (yd (t:=60) rfl rfl (zgn _ _ _ _)) ?_))|(clear K1;go_at_call 14;refine(zjU d.o hn u.o).mono ?_;rintro e w5 ⟨tv,tc,rfl,C,l,T5,t5,E⟩;have N5:=J E;have H:=J (E.fr.obj G.o (λe=>by have:=(I.o.facts.1 _ e).2.1;have:=x.o;omega));have HR:=J C;have Y:=J l;obtain⟨s,f,D⟩:=C.slice.arg.form;subst D;clear E C l)|((with_reducible refine zv ?_);clear K3;refine zi rfl (zK (ty:=60) (b:=y) (off:=0) (cs:=y9 (0) (.slice s (jC (A.Q n) a.id).length f) (.slice none 0 0)) rfl rfl rfl (zU H.o (le_refl 3)) xW (qB rfl rfl rfl)) ?_));go_frame)
 have V:=ZZ (cs:=y9 (0) (.slice s (jC (A.Q n) a.id).length f) (.slice none 0 0)) H.o rfl
 have O:=zu y (y9 (0) (.slice s (jC (A.Q n) a.id).length f) (.slice none 0 0)) 0 w5
 refine bodyPost_ret (v:=.agg (y9 (0) (.slice s (jC (A.Q n) a.id).length f) (.slice none 0 0)).toArray) (results_cell_row (P:=prog) (fn:=Tryz.f20) rfl _ _ y 60 _ (0,0) _ rfl V Tryz.underlying60 rfl xW) rfl ⟨_,rfl,T5,_,N5.o.ans I.o W.o x.o K.o O,⟨(zle HR.o (λj hj=>(d.o.facts.2.1 j hj)) Y.o (le_trans (List.length_filter_le _ _) (le_trans (d.o.facts.2.2.2.2.2.2 n).len (by decide)))).step (O.mono (λj e=>.inr e)) (λ_ _ h=>h),JE.2⟩⟩
theorem zm0 (Z:qR w0) (h:WS w0 w pc pp ps T X N A) {a:vH} {cs:List Value} (G:Kept X w (λw=>qH w a cs)) (H:a.kind=1) (j:qX A.Q a.src a.id=false):
  Calls prog 20 #[.agg (vQ pc pp ps).toArray,.agg cs.toArray] w λe w'=>e=.returned (.agg (y9 9 (.slice none 0 0) (.slice none 0 0)).toArray)∧∃T' X',qi w0 w w' pc pp ps T X N A T' X'∧YM X' w' (.slice none 0 0) (.slice none 0 0) [] []:=by
 obtain⟨m,E,F,s,y⟩:=xP w (.cells (vQ pc pp ps).toArray 29) (.cells cs.toArray 57) (.cells (y9 0 (.slice none 0 0) (.slice none 0 0)).toArray 60)
 obtain⟨aa,bcs,i,f,d,k,x,kt,kb⟩:=qm G
 have g:=J (h.into (c:=w.heap.size+1+1) s (by omega) y)
 have l:=J (jr (q:=w.heap.size+1) (by rw[←i];exact zq E) k d)
 have U:=J l.o.2.2.2.1
 have W:=l.o.1
 have cS:=l.o.2.1
 have p0:=by simpa using zq m 0 _ rfl
 have p1:=by simpa using zq m 1 _ rfl
 have p2:=by simpa using zq m 2 _ rfl
 have z:=J F
 have K:=J s
 have D:=J y
 have C:=@J (w.heap.size≤w.heap.size+1+1) (by omega)
 have L:=J (zx d)
 have o:=J d
 have p:=J f
 have V:=J h
 have zA:=JH
 clear h Z G i f d k x kt kb m E F s y l
 rw[H] at W
 clear H
 have n:=J j
 clear j
 go_enter Tryz.func20,Tryz.ntmps20
 have⟨M,O,Q,R⟩:=tZ4
 go_wp2_with ((first|((with_reducible refine zt ?_);first|(clear M;refine znD rfl rfl rfl U.o L.o ?_;generalize w.heap.size+1+1=r at g z D C⊢;generalize (((w.alloc (.cells (vQ pc pp ps).toArray 29)).alloc (.cells cs.toArray 57)).alloc (.cells (y9 0 (.slice none 0 0) (.slice none 0 0)).toArray 60))=w3 at*)|(clear Q;refine zg rfl (yd (t:=60) rfl rfl (zgn _ _ _ _)) ?_))|(clear O;go_at_call 14;refine(zjS g.o p.o o.o n.o).mono ?_;rintro e w5 ⟨rfl,u⟩;have S:=J (g.o.idle u);have B:=J (u.obj z.o id);clear u)|((with_reducible refine zv ?_);clear R;refine zi rfl (zK (ty:=60) (b:=r) (off:=0) (cs:=y9 (9) (.slice none 0 0) (.slice none 0 0)) rfl rfl rfl (zU B.o (le_refl 3)) xW (qB rfl rfl rfl)) ?_));go_frame)
 have I:=ZZ (cs:=y9 (9) (.slice none 0 0) (.slice none 0 0)) B.o rfl
 have Y:=zu r (y9 (9) (.slice none 0 0) (.slice none 0 0)) 0 w5
 refine bodyPost_ret (v:=.agg (y9 (9) (.slice none 0 0) (.slice none 0 0)).toArray) (results_cell_row (P:=prog) (fn:=Tryz.f20) rfl _ _ r 60 _ (0,0) _ rfl I Tryz.underlying60 rfl xW) rfl ⟨rfl,_,_,S.o.ans V.o K.o C.o D.o Y,JE⟩
theorem znu (hg:qR w0) (h:WS w0 w pc pp ps T X N A) {a:vH} {cs:List Value} (M:Kept X w (λw=>qH w a cs)) (O:a.kind=2):
  Calls prog 20 #[.agg (vQ pc pp ps).toArray,.agg cs.toArray] w λe w'=>∃B,e=.returned (.agg (y9 0 (.slice none 0 0) B).toArray)∧∃T' X',qi w0 w w' pc pp ps T X N {A with Q:=JB A.Q a.id 65} T' X'∧YM X' w' (.slice none 0 0) B [] (vU A.Q a.id 65):=by
 obtain⟨n,I,K,u,D⟩:=xP w (.cells (vQ pc pp ps).toArray 29) (.cells cs.toArray 57) (.cells (y9 0 (.slice none 0 0) (.slice none 0 0)).toArray 60)
 obtain⟨aa,bcs,i,k,d,l,x,kt,kb⟩:=qm M
 have g:=J (h.into (c:=w.heap.size+1+1) u (by omega) D)
 have m:=J (jr (q:=w.heap.size+1) (by rw[←i];exact zq I) l d)
 have RH:=J m.o.2.2.2.1
 have cK:=m.o.1
 have cS:=m.o.2.1
 have p0:=by simpa using zq n 0 _ rfl
 have p1:=by simpa using zq n 1 _ rfl
 have p2:=by simpa using zq n 2 _ rfl
 have E:=J K
 have S:=J u
 have H:=J D
 have r:=@J (w.heap.size≤w.heap.size+1+1) (by omega)
 have U:=J (zx d)
 have p:=J d
 have G:=J h
 have zA:=JH
 clear h hg M i k d l x kt kb n I K u D m
 rw[O] at cK
 clear O
 go_enter Tryz.func20,Tryz.ntmps20
 have⟨W,Y,Z,K3⟩:=tZ4
 go_wp2_with ((first|((with_reducible refine zt ?_);first|(clear W;refine znD rfl rfl rfl RH.o U.o ?_;generalize w.heap.size+1+1=s at g E H r⊢;generalize (((w.alloc (.cells (vQ pc pp ps).toArray 29)).alloc (.cells cs.toArray 57)).alloc (.cells (y9 0 (.slice none 0 0) (.slice none 0 0)).toArray 60))=w3 at*)|(clear Z;refine zg rfl (yd (t:=60) rfl rfl (zkc _ _ _ _)) ?_))|(clear Y;go_at_call 23;refine(zmx g.o p.o).mono ?_;rintro e w5 ⟨B,rfl,y,T5,C⟩;have N5:=J C;have F:=J (C.fr.obj E.o (λe=>by have:=(G.o.facts.1 _ e).2.1;have:=r.o;omega));have V:=J y;obtain⟨o,f,z⟩:=y.slice.arg.form;subst z;clear C y)|((with_reducible refine zv ?_);clear K3;refine zi rfl (zK (ty:=60) (b:=s) (off:=0) (cs:=y9 (0) (.slice none 0 0) (.slice o (vU A.Q a.id 65).length f)) rfl rfl rfl (zU F.o (le_refl 3)) xW (qB rfl rfl rfl)) ?_));go_frame)
 have R:=ZZ (cs:=y9 (0) (.slice none 0 0) (.slice o (vU A.Q a.id 65).length f)) F.o rfl
 have L:=zu s (y9 (0) (.slice none 0 0) (.slice o (vU A.Q a.id 65).length f)) 0 w5
 refine bodyPost_ret (v:=.agg (y9 (0) (.slice none 0 0) (.slice o (vU A.Q a.id 65).length f)).toArray) (results_cell_row (P:=prog) (fn:=Tryz.f20) rfl _ _ s 60 _ (0,0) _ rfl R Tryz.underlying60 rfl xW) rfl ⟨_,rfl,T5,_,N5.o.ans G.o S.o r.o H.o L,⟨JE.1,(zjd V.o (λj hj=>(g.o.facts.2.1 j hj))).step (L.mono (λj e=>.inr e)) (λ_ _ h=>h)⟩⟩
theorem znv (F:qR w0) (h:WS w0 w pc pp ps T X N A) (hN:N≤800) {a:vH} {cs:List Value} (E:Kept X w (λw=>qH w a cs)) (G:a.kind=3):
  Calls prog 20 #[.agg (vQ pc pp ps).toArray,.agg cs.toArray] w λe w'=>e=.returned (.agg (y9 (J6 A.S (yb A.bs) A.L a.tx) (.slice none 0 0) (.slice none 0 0)).toArray)∧∃T' X',qi w0 w w' pc pp ps T X (N+1) {A with L:=J7 A.S (yb A.bs) A.L a.tx 0} T' X'∧YM X' w' (.slice none 0 0) (.slice none 0 0) [] []:=by
 obtain⟨l,C,D,m,s⟩:=xP w (.cells (vQ pc pp ps).toArray 29) (.cells cs.toArray 57) (.cells (y9 0 (.slice none 0 0) (.slice none 0 0)).toArray 60)
 obtain⟨aa,bcs,g,j,i,f,p,kt,kb⟩:=qm E
 have d:=J (h.into (c:=w.heap.size+1+1) m (by omega) s)
 have y:=J (kt.into (c:=w.heap.size+1+1) m (by omega))
 have k:=J (jr (q:=w.heap.size+1) (by rw[←g];exact zq C) f i)
 have U:=J k.o.2.2.1
 have Z:=k.o.1
 have cS:=k.o.2.1
 have p0:=by simpa using zq l 0 _ rfl
 have p1:=by simpa using zq l 1 _ rfl
 have p2:=by simpa using zq l 2 _ rfl
 have u:=J D
 have I:=J m
 have B:=J s
 have n:=@J (w.heap.size≤w.heap.size+1+1) (by omega)
 have W:=J f
 have z:=J h
 have K:=J (F.keep0 d.o.facts.2.2.1)
 have zA:=JH
 clear h F E g j i f p kt kb l C D m s k
 rw[G] at Z
 clear G
 go_enter Tryz.func20,Tryz.ntmps20
 have⟨M,O,Q,R⟩:=tZ4
 go_wp2_with ((first|((with_reducible refine zt ?_);first|(clear M;refine znB rfl rfl rfl U.o W.o ?_;generalize w.heap.size+1+1=o at d y u B n⊢;generalize (((w.alloc (.cells (vQ pc pp ps).toArray 29)).alloc (.cells cs.toArray 57)).alloc (.cells (y9 0 (.slice none 0 0) (.slice none 0 0)).toArray 60))=w3 at*)|(clear Q;refine zg rfl (yd (t:=60) rfl rfl (Xs _)) ?_))|(clear O;go_at_call 16;refine(zir K.o d.o hN y.o).mono ?_;rintro e w5 ⟨gv,rfl,-,V,Y,r⟩;have S:=J r;have x:=J (r.fr.obj u.o (λe=>by have:=(z.o.facts.1 _ e).2.1;have:=n.o;omega));clear r)|((with_reducible refine zv ?_);clear R;refine zi rfl (zK (ty:=60) (b:=o) (off:=0) (cs:=y9 (J6 A.S (yb A.bs) A.L a.tx) (.slice none 0 0) (.slice none 0 0)) rfl rfl rfl (zU x.o (le_refl 3)) xW (qB rfl rfl rfl)) ?_));go_frame)
 have H:=ZZ (cs:=y9 (J6 A.S (yb A.bs) A.L a.tx) (.slice none 0 0) (.slice none 0 0)) x.o rfl
 have fE:=zu o (y9 (J6 A.S (yb A.bs) A.L a.tx) (.slice none 0 0) (.slice none 0 0)) 0 w5
 refine bodyPost_ret (v:=.agg (y9 (J6 A.S (yb A.bs) A.L a.tx) (.slice none 0 0) (.slice none 0 0)).toArray) (results_cell_row (P:=prog) (fn:=Tryz.f20) rfl _ _ o 60 _ (0,0) _ rfl H Tryz.underlying60 rfl xW) rfl ⟨rfl,V,Y,S.o.ans z.o I.o n.o B.o fE,JE⟩
end
section
variable {w0 wb w w':World} {pc pp ps N:Nat} {T X X1:Nat→Prop} {A:WA} {S1:List zr} {bs1:List yz}
theorem WM.frm (h:WM w0 wb w pc pp ps T X N A S1 bs1 X1):Fr T wb w:=by
 obtain⟨b,css,ma,ms,g,c,a,d,e,R,CS,h⟩:=h
 exact h.fr
theorem WM.fr0 (h:WM w0 wb w pc pp ps T X N A S1 bs1 X1) (f:Fr No w w'):WM w0 wb w' pc pp ps T X N A S1 bs1 X1:=by
 obtain⟨b,css,ma,ms,g,c,a,e,i,R,CS,h⟩:=h
 exact⟨b,css,ma,ms,g,c,a,e,i,R,CS,
  {h with
   ch:=h.ch.frV f (λ_ _=>id) (λ_ h=>h.elim) (λ_ h=>h.elim) (λ_ _ h=>h)
   po:=h.po.frV f (λ_ _=>id) (λ_ h=>h.elim) (λ_ h=>h.elim) (λ_ _ h=>h) h.po.sub
   st:=h.st.frV f (λ_ _=>id) (λ_ h=>h.elim) (λ_ h=>h.elim) (λ_ _ h=>h) h.st.sub
   xl:=λj d=>lt_of_lt_of_le (h.xl j d) f.size
   fr:=h.fr.trans (f.of0:Fr T w w') (λ_ _ h=>h)}⟩
theorem zkh {b:x9} {t:Int} {v:Value} {a:Option Addr} {c:Nat} (h:jo w b [.int .u64 t,v,.slice a b.txs.length c]):Jo w (.slice a b.txs.length c) b.txs:=by
 obtain⟨g,i,j,k,e,_,_,f⟩:=h
 simp only[zg6,List.cons.injEq,and_true] at e
 obtain⟨-,-,d⟩:=e
 injection d with e21 _ e23
 subst e21;subst e23
 exact f
end
section
variable {w0 w:World} {pc pp ps N:Nat} {T X:Nat→Prop} {A:WA}
theorem zm2 (I:qR w0) (h:WS w0 w pc pp ps T X N A) (hB:A.bs.length≤200) {a:vH} {cs:List Value} (H:Kept X w (λw=>qH w a cs)) (K:a.kind=4) (s:¬vR (yb A.bs) A.S A.bs a.blk=0):
  Calls prog 20 #[.agg (vQ pc pp ps).toArray,.agg cs.toArray] w λe w'=>e=.returned (.agg (y9 (vR (yb A.bs) A.S A.bs a.blk) (.slice none 0 0) (.slice none 0 0)).toArray)∧∃T' X',qi w0 w w' pc pp ps T X N A T' X'∧YM X' w' (.slice none 0 0) (.slice none 0 0) [] []:=by
 obtain⟨m,F,G,n,x⟩:=xP w (.cells (vQ pc pp ps).toArray 29) (.cells cs.toArray 57) (.cells (y9 0 (.slice none 0 0) (.slice none 0 0)).toArray 60)
 obtain⟨ab,bcs,g,j,i,k,f,kt,M⟩:=qm H
 have d:=J (h.into (c:=w.heap.size+1+1) n (by omega) x)
 have B:=J (M.into (c:=w.heap.size+1+1) n (by omega))
 have l:=J (jr (q:=w.heap.size+1) (by rw[←g];exact zq F) k i)
 have RB:=J l.o.2.2.2.2
 have cK:=l.o.1
 have cS:=l.o.2.1
 have p0:=by simpa using zq m 0 _ rfl
 have p1:=by simpa using zq m 1 _ rfl
 have p2:=by simpa using zq m 2 _ rfl
 have y:=J G
 have R:=J n
 have D:=J x
 have p:=@J (w.heap.size≤w.heap.size+1+1) (by omega)
 have Q:=J f
 have C:=J h
 have S:=J I
 have zA:=JH
 clear h I H g j i k f kt M m F G n x l
 rw[K] at cK
 clear K
 have o:=J (ziK S.o d.o hB B.o.now)
 rw[show Y5 (yb A.bs) A.S A.bs a.blk=A.S from if_neg s,show Yc (yb A.bs) A.S A.bs a.blk=A.bs from if_neg s] at o
 generalize vR (yb A.bs) A.S A.bs a.blk=E at*
 have aa:(E==0)=false:=by simpa using s
 go_enter Tryz.func20,Tryz.ntmps20
 have⟨U,V,W,Y⟩:=tZ4
 go_wp2_with ((first|((with_reducible refine zt ?_);first|(clear U;refine znF rfl rfl rfl RB.o Q.o ?_;generalize w.heap.size+1+1=r at d B y D p o⊢;generalize (((w.alloc (.cells (vQ pc pp ps).toArray 29)).alloc (.cells cs.toArray 57)).alloc (.cells (y9 0 (.slice none 0 0) (.slice none 0 0)).toArray 60))=w3 at*)|(clear W;refine zg rfl (yd (t:=60) rfl rfl (Xs _)) ?_))|(clear V;go_at_call 51;refine o.o.mono ?_;rintro e w5 ⟨rfl,X1,L⟩;obtain⟨T5,X5,u⟩:=L.still d.o.facts.2.2.2.1;have Z:=J u;have z:=J (u.fr.obj y.o (λe=>by have:=(C.o.facts.1 _ e).2.1;have:=p.o;omega));clear u L)|((with_reducible refine zv ?_);clear Y;refine zi rfl (zK (ty:=60) (b:=r) (off:=0) (cs:=y9 (E) (.slice none 0 0) (.slice none 0 0)) rfl rfl rfl (zU z.o (le_refl 3)) xW (qB rfl rfl rfl)) ?_));go_frame)
 have O:=ZZ (cs:=y9 (E) (.slice none 0 0) (.slice none 0 0)) z.o rfl
 have fE:=zu r (y9 (E) (.slice none 0 0) (.slice none 0 0)) 0 w5
 refine bodyPost_ret (v:=.agg (y9 (E) (.slice none 0 0) (.slice none 0 0)).toArray) (results_cell_row (P:=prog) (fn:=Tryz.f20) rfl _ _ r 60 _ (0,0) _ rfl O Tryz.underlying60 rfl xW) rfl ⟨rfl,T5,X5,Z.o.ans C.o R.o p.o D.o fE,JE⟩
theorem zm3 (Q:qR w0) (h:WS w0 w pc pp ps T X N A) (hB:A.bs.length≤200) (hN:N≤1000) (f:52≤N) {a:vH} {cs:List Value} (O:Kept X w (λw=>qH w a cs)) (R:a.kind=4) (s:vR (yb A.bs) A.S A.bs a.blk=0):
  Calls prog 20 #[.agg (vQ pc pp ps).toArray,.agg cs.toArray] w λe w'=>e=.returned (.agg (y9 0 (.slice none 0 0) (.slice none 0 0)).toArray)∧∃T' X',qi w0 w w' pc pp ps T X N {A with S:=(doR (yb A.bs) A.S a.blk).S,bs:=A.bs++[(doR (yb A.bs) A.S a.blk).d],L:=XZ (doR (yb A.bs) A.S a.blk).S (yb (A.bs++[(doR (yb A.bs) A.S a.blk).d])) A.L [] 0} T' X'∧YM X' w' (.slice none 0 0) (.slice none 0 0) [] []:=by
 obtain⟨p,K,M,r,D⟩:=xP w (.cells (vQ pc pp ps).toArray 29) (.cells cs.toArray 57) (.cells (y9 0 (.slice none 0 0) (.slice none 0 0)).toArray 60)
 obtain⟨aa,bcs,i,l,j,m,g,kt,U⟩:=qm O
 have d:=J (h.into (c:=w.heap.size+1+1) r (by omega) D)
 have H:=J (U.into (c:=w.heap.size+1+1) r (by omega))
 have n:=J (jr (q:=w.heap.size+1) (by rw[←i];exact zq K) m j)
 have RB:=J n.o.2.2.2.2
 have cK:=n.o.1
 have cS:=n.o.2.1
 have V:=by simpa using zq p 0 _ rfl
 have W:=by simpa using zq p 1 _ rfl
 have p2:=by simpa using zq p 2 _ rfl
 have E:=J M
 have F3:=J r
 have I:=J D
 have z:=@J (w.heap.size≤w.heap.size+1+1) (by omega)
 have Z:=J g
 have o:=J h
 have G:=J Q
 have zA:=JH
 clear h Q O i l j m g kt U p K M r D n
 rw[R] at cK
 clear R
 have x:=J (ziK G.o d.o hB H.o.now)
 rw[show Y5 (yb A.bs) A.S A.bs a.blk=(doR (yb A.bs) A.S a.blk).S from if_pos s,show Yc (yb A.bs) A.S A.bs a.blk=A.bs++[(doR (yb A.bs) A.S a.blk).d] from if_pos s,s] at x
 have y:=J f
 clear s f
 go_enter Tryz.func20,Tryz.ntmps20
 have⟨K0,K1,K2,K3,K4⟩:=tZ5
 go_wp2_with ((first|((with_reducible refine zt ?_);first|(clear K0;refine znF rfl rfl rfl RB.o Z.o ?_;generalize w.heap.size+1+1=B at d H E I z x⊢;generalize (((w.alloc (.cells (vQ pc pp ps).toArray 29)).alloc (.cells cs.toArray 57)).alloc (.cells (y9 0 (.slice none 0 0) (.slice none 0 0)).toArray 60))=w3 at*)|(clear K3;refine zg rfl (yd (t:=60) rfl rfl (Xs _)) ?_))|(clear K1;go_at_call 51;refine x.o.mono ?_;rintro e w5 ⟨rfl,X1,u⟩;have HM:=J u;have r0:=u.frm.cell V (λe=>absurd (o.o.facts.1 _ e).2.1 (Nat.lt_irrefl _));have r1:=u.frm.cell W (λe=>absurd (o.o.facts.1 _ e).2.1 (Nat.lt_irrefl _));clear u V W p2)|(clear K2;go_at_call 52;refine(zgL G.o HM.o hN (λw' _=>zgU w') (by decide)).mono ?_;rintro e w6 ⟨⟨gv,rfl⟩,N6,T5,X5,k,C⟩;have N5:=J (C.more (N':=N) (by have:=d.o.facts.2.2.2.2.1;have:=y.o;simp only[List.length_nil] at k;omega));have F:=J (C.fr.obj E.o (λe=>by have:=(o.o.facts.1 _ e).2.1;have:=z.o;omega));clear C k r0 r1)|((with_reducible refine zv ?_);clear K4;refine zi rfl (zK (ty:=60) (b:=B) (off:=0) (cs:=y9 (0) (.slice none 0 0) (.slice none 0 0)) rfl rfl rfl (zU F.o (le_refl 3)) xW (qB rfl rfl rfl)) ?_));go_frame)
 have Y:=ZZ (cs:=y9 (0) (.slice none 0 0) (.slice none 0 0)) F.o rfl
 have fE:=zu B (y9 (0) (.slice none 0 0) (.slice none 0 0)) 0 w6
 refine bodyPost_ret (v:=.agg (y9 (0) (.slice none 0 0) (.slice none 0 0)).toArray) (results_cell_row (P:=prog) (fn:=Tryz.f20) rfl _ _ B 60 _ (0,0) _ rfl Y Tryz.underlying60 rfl xW) rfl ⟨rfl,T5,X5,N5.o.ans o.o F3.o z.o I.o fE,JE⟩
theorem zm4 (Z:qR w0) (h:WS w0 w pc pp ps T X N A) {a:vH} {cs:List Value} (G:Kept X w (λw=>qH w a cs)) (H:a.kind=5) (f:A.bs=[]):
  Calls prog 20 #[.agg (vQ pc pp ps).toArray,.agg cs.toArray] w λe w'=>e=.returned (.agg (y9 9 (.slice none 0 0) (.slice none 0 0)).toArray)∧∃U X',qi w0 w w' pc pp ps T X N A U X'∧YM X' w' (.slice none 0 0) (.slice none 0 0) [] []:=by
 obtain⟨l,D,E,o,s⟩:=xP w (.cells (vQ pc pp ps).toArray 29) (.cells cs.toArray 57) (.cells (y9 0 (.slice none 0 0) (.slice none 0 0)).toArray 60)
 obtain⟨ab,bcs,g,j,i,k,p,kt,kb⟩:=qm G
 have d:=J (h.into (c:=w.heap.size+1+1) o (by omega) s)
 have m:=J (jr (q:=w.heap.size+1) (by rw[←g];exact zq D) k i)
 have W:=m.o.1
 have cS:=m.o.2.1
 have p0:=by simpa using zq l 0 _ rfl
 have p1:=by simpa using zq l 1 _ rfl
 have p2:=by simpa using zq l 2 _ rfl
 have u:=J E
 have K:=J o
 have C:=J s
 have B:=@J (w.heap.size≤w.heap.size+1+1) (by omega)
 have V:=J h
 have zA:=JH
 clear h Z G g j i k p kt kb l D E o s m
 rw[H] at W
 clear H
 have zB:=YK
 have y:=J (ziQ d.o f)
 clear f
 go_enter Tryz.func20,Tryz.ntmps20
 have⟨M,O,Q,R⟩:=tZ4
 go_wp2_with ((first|(clear M;go_at_call 53;generalize w.heap.size+1+1=n at d u C B y⊢;generalize (((w.alloc (.cells (vQ pc pp ps).toArray 29)).alloc (.cells cs.toArray 57)).alloc (.cells (y9 0 (.slice none 0 0) (.slice none 0 0)).toArray 60))=w3 at*;refine y.o.mono ?_;rintro e r ⟨rfl,F⟩;have L:=J F;clear F)|((with_reducible refine zv ?_);first|(clear O;refine zi rfl (zj (w:=r) (ty:=55) (cs:=Jl) rfl rfl rfl rfl JF (qB rfl rfl rfl)) ?_;have z:=J (L.o.alloc (.cells Jl.toArray 55));generalize r.heap.size=aa at⊢;generalize r.alloc (.cells Jl.toArray 55)=w6 at*;have S:=J (d.o.idle z.o);have x:=J (z.o.obj u.o id))|(clear R;refine zi rfl (zK (ty:=60) (b:=n) (off:=0) (cs:=y9 (9) (.slice none 0 0) (.slice none 0 0)) rfl rfl rfl (zU x.o (le_refl 3)) xW (qB rfl rfl rfl)) ?_))|((with_reducible refine zt ?_);clear Q;refine zg rfl (yd (t:=60) rfl rfl (Xs _)) ?_));go_frame)
 have I:=ZZ (cs:=y9 (9) (.slice none 0 0) (.slice none 0 0)) x.o rfl
 have Y:=zu n (y9 (9) (.slice none 0 0) (.slice none 0 0)) 0 w6
 refine bodyPost_ret (v:=.agg (y9 (9) (.slice none 0 0) (.slice none 0 0)).toArray) (results_cell_row (P:=prog) (fn:=Tryz.f20) rfl _ _ n 60 _ (0,0) _ rfl I Tryz.underlying60 rfl xW) rfl ⟨rfl,_,_,S.o.ans V.o K.o B.o C.o Y,JE⟩
theorem zm5 (hg:qR w0) (h:WS w0 w pc pp ps T X N A) {bs:List yz} {d:yz} (n:A.bs=bs++[d]) (hB:bs.length≤200) (hT:d.blk.txs.length≤20) (hN:N≤1000) (m:52≤N) {a:vH} {cs:List Value} (ha:Kept X w (λw=>qH w a cs)) (hk:a.kind=5):
  Calls prog 20 #[.agg (vQ pc pp ps).toArray,.agg cs.toArray] w λe w'=>e=.returned (.agg (y9 0 (.slice none 0 0) (.slice none 0 0)).toArray)∧∃T' X',qi w0 w w' pc pp ps T X N {A with S:=xK d.chg A.S,bs:=bs,L:=XZ (xK d.chg A.S) (yb bs) A.L d.blk.txs 0} T' X'∧YM X' w' (.slice none 0 0) (.slice none 0 0) [] []:=by
 obtain⟨z,b1,b2,M,V⟩:=xP w (.cells (vQ pc pp ps).toArray 29) (.cells cs.toArray 57) (.cells (y9 0 (.slice none 0 0) (.slice none 0 0)).toArray 60)
 obtain⟨ab,bcs,o,r,p,s,O,kt,kb⟩:=qm ha
 have i:=J (h.into (c:=w.heap.size+1+1) M (by omega) V)
 have H:=J (jr (q:=w.heap.size+1) (by rw[←o];exact zq b1) s p)
 have cK:=H.o.1
 have cS:=H.o.2.1
 have p0:=by simpa using zq z 0 _ rfl
 have p1:=by simpa using zq z 1 _ rfl
 have p2:=by simpa using zq z 2 _ rfl
 have W:=J b2
 have F3:=J M
 have Z3:=J V
 have I:=@J (w.heap.size≤w.heap.size+1+1) (by omega)
 have y:=J h
 have G0:=J hg
 have zA:=JH
 clear h hg ha o r p s O kt kb z b1 b2 M V H
 rw[hk] at cK
 clear hk
 have zB:=YK
 have Z:=J (zlZ i.o n hB)
 have D:=J m
 have HT:=J hT
 clear n m hT
 go_enter Tryz.func20,Tryz.ntmps20
 have⟨K0,K1,K2,K3,K4⟩:=tZ5
 go_wp2_with ((first|(clear K0;go_at_call 53;generalize w.heap.size+1+1=K at i W Z3 I Z⊢;generalize (((w.alloc (.cells (vQ pc pp ps).toArray 29)).alloc (.cells cs.toArray 57)).alloc (.cells (y9 0 (.slice none 0 0) (.slice none 0 0)).toArray 60))=w3 at*;refine Z.o.mono ?_;rintro e u ⟨aa,X1,rfl,B,j⟩;obtain⟨C,g,k,l,rfl⟩:=j.now.form;have F:=J B;have E:=J j;have r0:=B.frm.cell p0 (λe=>absurd (y.o.facts.1 _ e).2.1 (Nat.lt_irrefl _));have r1:=B.frm.cell p1 (λe=>absurd (y.o.facts.1 _ e).2.1 (Nat.lt_irrefl _));clear B j p0 p1 p2)|(clear K2;go_at_call 52;refine(zgL G0.o G.o hN HX.o (by have:=HT.o;omega)).mono ?_;rintro e w7 ⟨⟨gv,rfl⟩,N6,T5,X5,Q,R⟩;have N5:=J (R.more (N':=N) (by have:=i.o.facts.2.2.2.2.1;have:=D.o;have:=HT.o;omega));have Y:=J (R.fr.obj W.o (λe=>by have:=(y.o.facts.1 _ e).2.1;have:=I.o;omega));clear R Q t0 t1 ct)|((with_reducible refine zv ?_);first|(clear K1;refine zi rfl (zj (w:=u) (ty:=55) (cs:=[.int .u64 d.blk.tag,.slice C d.blk.pay.length g,.slice k d.blk.txs.length l]) rfl rfl rfl rfl JF (qB rfl rfl rfl)) ?_;have RN:=J (zy u [.int .u64 d.blk.tag,.slice C d.blk.pay.length g,.slice k d.blk.txs.length l] 55);have x:=J ((frN u).alloc (.cells ([.int .u64 d.blk.tag,.slice C d.blk.pay.length g,.slice k d.blk.txs.length l]:List Value).toArray 55));generalize u.heap.size=U at RN⊢;generalize u.alloc (.cells ([.int .u64 d.blk.tag,.slice C d.blk.pay.length g,.slice k d.blk.txs.length l]:List Value).toArray 55)=w6 at*;have G:=J (F.o.fr0 x.o);have HX:=@J (Kept X1 w6 (λw=>Jo w (.slice k d.blk.txs.length l) d.blk.txs)) (λw' f=>zkh ((E.o.same x.o.of0) w' f));have t0:=x.o.cell r0 id;have t1:=x.o.cell r1 id;have ct:w6.cell? ⟨U,2,none⟩=some (.slice k d.blk.txs.length l):=(by simpa using RN.o 2 _ rfl);clear r0 r1)|(clear K4;refine zi rfl (zK (ty:=60) (b:=K) (off:=0) (cs:=y9 (0) (.slice none 0 0) (.slice none 0 0)) rfl rfl rfl (zU Y.o (le_refl 3)) xW (qB rfl rfl rfl)) ?_))|((with_reducible refine zt ?_);clear K3;refine zg rfl (yd (t:=60) rfl rfl (Xs _)) ?_));go_frame)
 have BE:=ZZ (cs:=y9 (0) (.slice none 0 0) (.slice none 0 0)) Y.o rfl
 have fE:=zu K (y9 (0) (.slice none 0 0) (.slice none 0 0)) 0 w7
 refine bodyPost_ret (v:=.agg (y9 (0) (.slice none 0 0) (.slice none 0 0)).toArray) (results_cell_row (P:=prog) (fn:=Tryz.f20) rfl _ _ K 60 _ (0,0) _ rfl BE Tryz.underlying60 rfl xW) rfl ⟨rfl,T5,X5,N5.o.ans y.o F3.o I.o Z3.o fE,JE⟩
theorem znx (K:qR w0) (h:WS w0 w pc pp ps T X N A) {a:vH} {cs:List Value} (z:Kept X w (λw=>qH w a cs)) (L:¬a.kind=0) (M:¬a.kind=1) (O:¬a.kind=2) (Q:¬a.kind=3) (R:¬a.kind=4) (S:¬a.kind=5):
  Calls prog 20 #[.agg (vQ pc pp ps).toArray,.agg cs.toArray] w λe w'=>e=.returned (.agg (y9 0 (.slice none 0 0) (.slice none 0 0)).toArray)∧∃G X',qi w0 w w' pc pp ps T X N A G X'∧YM X' w' (.slice none 0 0) (.slice none 0 0) [] []:=by
 obtain⟨k,x,y,n,p⟩:=xP w (.cells (vQ pc pp ps).toArray 29) (.cells cs.toArray 57) (.cells (y9 0 (.slice none 0 0) (.slice none 0 0)).toArray 60)
 obtain⟨V,bcs,f,i,g,j,o,kt,U⟩:=qm z
 have d:=J (h.into (c:=w.heap.size+1+1) n (by omega) p)
 have l:=J (jr (q:=w.heap.size+1) (by rw[←f];exact zq x) j g)
 have W:=l.o.1
 have Y:=l.o.2.1
 have p0:=by simpa using zq k 0 _ rfl
 have p1:=by simpa using zq k 1 _ rfl
 have p2:=by simpa using zq k 2 _ rfl
 have r:=J y
 have D:=J n
 have u:=J p
 have t:=@J (w.heap.size≤w.heap.size+1+1) (by omega)
 have H:=J h
 have zA:=JH
 clear h K z f i g j o kt U k x y n p l
 have Z:(a.kind==0)=false:=by simpa using L
 have e1:(a.kind==1)=false:=by simpa using M
 have e2:(a.kind==2)=false:=by simpa using O
 have e3:(a.kind==3)=false:=by simpa using Q
 have e4:(a.kind==4)=false:=by simpa using R
 have e5:(a.kind==5)=false:=by simpa using S
 go_enter Tryz.func20,Tryz.ntmps20
 have E:=tru
 go_wp2_with ((with_reducible refine zv ?_);clear E;generalize w.heap.size+1+1=m at d r u t⊢;generalize (((w.alloc (.cells (vQ pc pp ps).toArray 29)).alloc (.cells cs.toArray 57)).alloc (.cells (y9 0 (.slice none 0 0) (.slice none 0 0)).toArray 60))=B at*;have F:=J (d.o.idle (frN B));have s:=J r.o;refine zi rfl (zK (ty:=60) (b:=m) (off:=0) (cs:=y9 (0) (.slice none 0 0) (.slice none 0 0)) rfl rfl rfl (zU s.o (le_refl 3)) xW (qB rfl rfl rfl)) ?_;go_frame)
 have C:=ZZ (cs:=y9 (0) (.slice none 0 0) (.slice none 0 0)) s.o rfl
 have I:=zu m (y9 (0) (.slice none 0 0) (.slice none 0 0)) 0 B
 refine bodyPost_ret (v:=.agg (y9 (0) (.slice none 0 0) (.slice none 0 0)).toArray) (results_cell_row (P:=prog) (fn:=Tryz.f20) rfl _ _ m 60 _ (0,0) _ rfl C Tryz.underlying60 rfl xW) rfl ⟨rfl,_,_,F.o.ans H.o D.o t.o u.o I,JE⟩
end
noncomputable def doA (A:WA) (a:vH):WA:=
 if a.kind=0 then J4 A a.src a.tx
 else if a.kind=1 then(if qX A.Q a.src a.id=true then {A with Q:=jg A.Q a.src.toNat (Qc (A.Q a.src.toNat) a.id)} else A)
 else if a.kind=2 then {A with Q:=JB A.Q a.id 65}
 else if a.kind=3 then {A with L:=J7 A.S (yb A.bs) A.L a.tx 0}
 else if a.kind=4 then(if vR (yb A.bs) A.S A.bs a.blk=0 then {A with S:=(doR (yb A.bs) A.S a.blk).S,bs:=A.bs++[(doR (yb A.bs) A.S a.blk).d],L:=XZ (doR (yb A.bs) A.S a.blk).S (yb (A.bs++[(doR (yb A.bs) A.S a.blk).d])) A.L [] 0} else A)
 else if a.kind=5 then(match A.bs.getLast? with
  |none=>A
  |some d=>{A with S:=xK d.chg A.S,bs:=A.bs.dropLast,L:=XZ (xK d.chg A.S) (yb A.bs.dropLast) A.L d.blk.txs 0})
 else A
noncomputable def doE (A:WA) (a:vH):Int:=
 if a.kind=0 then Jq A a.src a.tx
 else if a.kind=1 then(if qX A.Q a.src a.id=true then 0 else 9)
 else if a.kind=3 then J6 A.S (yb A.bs) A.L a.tx
 else if a.kind=4 then vR (yb A.bs) A.S A.bs a.blk
 else if a.kind=5 then(if A.bs=[] then 9 else 0)
 else 0
def doT (A:WA) (a:vH):List TxD:=if a.kind=1∧qX A.Q a.src a.id=true then(jC (A.Q a.src.toNat) a.id).map (·.tx) else[]
def doI (A:WA) (a:vH):List Nat:=if a.kind=2 then vU A.Q a.id 65 else[]
section
variable {w0 w:World} {pc pp ps N:Nat} {T X:Nat→Prop} {A:WA}
theorem znw (l:qR w0) (h:WS w0 w pc pp ps T X N A) (y:N≤800) (q:52≤N) (t:A.bs.length≤200) (z:∀d∈A.bs,d.blk.txs.length≤20) {a:vH} {cs:List Value} (k:Kept X w (λw=>qH w a cs)):
  Calls prog 20 #[.agg (vQ pc pp ps).toArray,.agg cs.toArray] w λe w'=>∃tv u,e=.returned (.agg (y9 (doE A a) tv u).toArray)∧∃b X',qi w0 w w' pc pp ps T X (N+1) (doA A a) b X'∧YM X' w' tv u (doT A a) (doI A a):=by
 by_cases k0:a.kind=0
 ·refine(znt l h k k0).mono λe w' ⟨g,b,X',n,i⟩=>?_
  have j:doE A a=Jq A a.src a.tx:=by simp[doE,k0]
  have c:doA A a=J4 A a.src a.tx:=by simp[doA,k0]
  have m:doT A a=[]:=by simp[doT,k0]
  have o:doI A a=[]:=by simp[doI,k0]
  rw[j,c,m,o]
  exact⟨_,_,g,b,X',n.more (by omega),i⟩
 by_cases k1:a.kind=1
 ·have o:doI A a=[]:=by simp[doI,k1]
  cases hm:qX A.Q a.src a.id with
  |false=>
   have j:doE A a=9:=by simp[doE,k1,hm]
   have c:doA A a=A:=by simp[doA,k1,hm]
   have m:doT A a=[]:=by simp[doT,hm]
   rw[j,c,m,o]
   exact(zm0 l h k k1 hm).mono λe w' ⟨g,b,X',n,i⟩=>⟨_,_,g,b,X',n.more (by omega),i⟩
  |true=>
   have s:=hm
   unfold qX at s
   obtain⟨C,D,x⟩:=of_decide_eq_true s
   obtain⟨n,v⟩:∃n:Nat,a.src=(n:Int):=⟨a.src.toNat,(Int.toNat_of_nonneg C).symm⟩
   have p:a.src.toNat=n:=by rw[v,Int.toNat_natCast]
   rw[p] at x
   have j:doE A a=0:=by simp[doE,k1,hm]
   have c:doA A a={A with Q:=jg A.Q n (Qc (A.Q n) a.id)}:=by simp[doA,k1,hm,p]
   have m:doT A a=(jC (A.Q n) a.id).map (·.tx):=by simp[doT,k1,hm,p]
   rw[j,c,m,o]
   exact(zm1 l h k k1 v (by omega) x).mono λe w' ⟨tv,g,b,X',n,i⟩=>⟨_,_,g,b,X',n.more (by omega),i⟩
 by_cases k2:a.kind=2
 ·have j:doE A a=0:=by simp[doE,k2]
  have c:doA A a={A with Q:=JB A.Q a.id 65}:=by simp[doA,k2]
  have m:doT A a=[]:=by simp[doT,k2]
  have o:doI A a=vU A.Q a.id 65:=by simp[doI,k2]
  rw[j,c,m,o]
  exact(znu l h k k2).mono λe w' ⟨u,g,b,X',n,i⟩=>⟨_,_,g,b,X',n.more (by omega),i⟩
 have m:doT A a=[]:=by simp[doT,k1]
 have o:doI A a=[]:=by simp[doI,k2]
 rw[m,o]
 by_cases k3:a.kind=3
 ·have j:doE A a=J6 A.S (yb A.bs) A.L a.tx:=by simp[doE,k3]
  have c:doA A a={A with L:=J7 A.S (yb A.bs) A.L a.tx 0}:=by simp[doA,k3]
  rw[j,c]
  exact(znv l h y k k3).mono λe w' ⟨g,b,X',n,i⟩=>⟨_,_,g,b,X',n,i⟩
 by_cases k4:a.kind=4
 ·have j:doE A a=vR (yb A.bs) A.S A.bs a.blk:=by simp[doE,k4]
  rw[j]
  by_cases hE:vR (yb A.bs) A.S A.bs a.blk=0
  ·have c:doA A a={A with S:=(doR (yb A.bs) A.S a.blk).S,bs:=A.bs++[(doR (yb A.bs) A.S a.blk).d],L:=XZ (doR (yb A.bs) A.S a.blk).S (yb (A.bs++[(doR (yb A.bs) A.S a.blk).d])) A.L [] 0}:=by simp[doA,k4,hE]
   rw[c,hE]
   exact(zm3 l h t (by omega) q k k4 hE).mono λe w' ⟨g,b,X',n,i⟩=>⟨_,_,g,b,X',n.more (by omega),i⟩
  ·have c:doA A a=A:=by simp[doA,k4,hE]
   rw[c]
   exact(zm2 l h t k k4 hE).mono λe w' ⟨g,b,X',n,i⟩=>⟨_,_,g,b,X',n.more (by omega),i⟩
 by_cases k5:a.kind=5
 ·cases hl:A.bs.getLast? with
  |none=>
   have f:A.bs=[]:=List.getLast?_eq_none_iff.1 hl
   have j:doE A a=9:=by simp[doE,k5,f]
   have c:doA A a=A:=by simp[doA,k5,f]
   rw[j,c]
   exact(zm4 l h k k5 f).mono λe w' ⟨g,b,X',n,i⟩=>⟨_,_,g,b,X',n.more (by omega),i⟩
  |some d=>
   obtain⟨bs,f⟩:=List.getLast?_eq_some_iff.1 hl
   have B:A.bs.dropLast=bs:=by rw[f,List.dropLast_concat]
   have r:bs.length≤200:=by rw[f,length_append] at t;omega
   have j:doE A a=0:=by simp[doE,k5,f]
   have c:doA A a={A with S:=xK d.chg A.S,bs:=bs,L:=XZ (xK d.chg A.S) (yb bs) A.L d.blk.txs 0}:=by
    unfold doA
    rw[if_neg k0,if_neg k1,if_neg k2,if_neg k3,if_neg k4,if_pos k5,hl]
    dsimp only
    rw[B]
   rw[j,c]
   exact(zm5 l h f r (z d (by rw[f];simp)) (by omega) q k k5).mono λe w' ⟨g,b,X',n,i⟩=>⟨_,_,g,b,X',n.more (by omega),i⟩
 ·have j:doE A a=0:=by simp[doE,k0,k1,k3,k4,k5]
  have c:doA A a=A:=by simp[doA,k0,k1,k2,k3,k4,k5]
  rw[j,c]
  exact(znx l h k k0 k1 k2 k3 k4 k5).mono λe w' ⟨g,b,X',n,i⟩=>⟨_,_,g,b,X',n.more (by omega),i⟩
theorem zkp (K:List zd) (S:List zr) (b:x9):(doR K S b).d.blk=b:=by
 unfold doR
 repeat' split
 all_goals rfl
theorem ziS (A:WA) (a:vH):(doA A a).bs.length≤A.bs.length+1∧∀d∈(doA A a).bs,d∈A.bs∨d.blk=a.blk:=by
 have same:∀B:WA,B.bs=A.bs→B.bs.length≤A.bs.length+1∧∀d∈B.bs,d∈A.bs∨d.blk=a.blk:=λB h=>by rw[h];exact⟨by omega,λd b=>.inl b⟩
 unfold doA
 split
 ·refine same _ ?_
  unfold J4
  split<;>rfl
 split
 ·split<;>exact same _ rfl
 split
 ·exact same _ rfl
 split
 ·exact same _ rfl
 split
 ·split
  ·refine⟨by simp,λd b=>?_⟩
   rcases mem_append.1 b with b|b
   ·exact .inl b
   ·rw[List.mem_singleton.1 b,zkp]
    exact .inr rfl
  ·exact same _ rfl
 split
 ·split
  ·exact same _ rfl
  ·exact⟨by show A.bs.dropLast.length≤_;rw[List.length_dropLast];omega,λd b=>.inl (List.dropLast_subset _ b)⟩
 ·exact same _ rfl
end
section
variable {w0 w w':World} {c7 pc pp ps N:Nat} {T X:Nat→Prop} {A:WA} {S:List zr} {P:List ya} {Q:StQ} {u v v':Value}
theorem FlA.app (h:FlA w0 w c7 pc pp ps T X N A) (f:Fr (λj=>v.ownBlock=some j) w w') (b:∀j,v.ownBlock=some j→X j) (d:∀j,v.ownBlock=some j→¬T j) (g:∀j,v.ownBlock=some j→c7<j) (c:∀j,v'.ownBlock=some j→v.ownBlock=some j∨w.heap.size≤j) (i:∀j,v'.ownBlock=some j→j<w'.heap.size):
  ∃X',FlA w0 w' c7 pc pp ps T X' N A∧(∀j,v'.ownBlock=some j→X' j)∧(∀j,v'.ownBlock=some j→¬T j)∧∀ {Q:World→Prop},Kept X w Q→Kept X' w' Q:=by
 refine⟨λj=>X j∨(w.heap.size≤j∧j<w'.heap.size),⟨?_,?_,h.2.2.1,?_⟩,?_,?_,?_⟩
 ·exact h.1.frV f (λj a e=>d j e a) (λj e=>h.2.1 j (b j e)) b (λj a e=>e.resolve_right (by omega)) (λj a=>.inl (h.1.facts.1 j a).2.2) (λj a=>a.elim (λe=>lt_of_lt_of_le (h.1.facts.2.1 j e) f.size) (·.2))
 ·exact λj a=>a.elim (h.2.1 j) (λe=>le_trans h.fr.size e.1)
 ·exact f.obj h.2.2.2 (λe=>by have:=g _ e;omega)
 ·exact λj a=>(c j a).elim (λe=>.inl (b j e)) (λe=>.inr ⟨e,i j a⟩)
 ·exact λj a=>(c j a).elim (d j) (λe t=>by have:=(h.1.facts.1 j t).2.1;omega)
 ·exact λk=>k.step (f.mono b) (λj a e=>e.resolve_right (by omega))
theorem JJ.app {B k n:Nat} {ty:TypeId} {xs:List Value} (h:JJ T w B ty k u n xs) (f:Fr (λj=>v.ownBlock=some j) w w') {b:Nat} (c:∀j,u.ownBlock=some j→j<b) (d:∀j,v.ownBlock=some j→b≤j):JJ T w' B ty k u n xs:=
 ⟨zb h.1 f (λj a e=>by have:=c j a;have:=d j e;omega),h.2⟩
theorem JJ.blk {B k n:Nat} {ty:TypeId} {xs:List Value} (h:JJ T w B ty k u n xs):∀j,u.ownBlock=some j→j<w.heap.size:=λj a=>(h.1.lt j a).2
end
theorem zhh:∃d,prog.underlying 29=some d∧d.isRow=true:=vP (by kernel_rfl)
theorem FlA.keptQ {a w:World} {b d g ps N:Nat} {T X:Nat→Prop} {A:WA} (h:FlA a w b d g ps T X N A) {Q:World→Prop} (c:∀w',Fr No a w'→Q w'):Kept X w Q:=λ_ f=>
 c _ (h.fr.trans f (λi hi e=>by have:=h.2.1 i e;omega))
theorem zmo {a c:List zE} {i j:Nat} {q o:zE} (h:(a++c).Nodup) (g:(a++c)[a.length+j]? =some q) (b:(a++c.take j)[i]? =some o) (hi:i<a.length+j):¬(zn q).toArray=(zn o).toArray:=λe=>by
 have f:q=o:=Qs (Array.mk.inj e)
 have d:(a++c)[i]? =some o:=by
  by_cases hi0:i<a.length
  ·rw[List.getElem?_append_left hi0] at b⊢
   exact b
  ·rw[getElem?_append_right (by omega),List.getElem?_take] at b
   rw[getElem?_append_right (by omega)]
   split at b
   ·exact b
   ·cases b
 have k:=(List.getElem?_inj (List.getElem?_eq_some_iff.1 d).1 h).1 (d.trans (by rw[←f];exact g.symm))
 omega
def Qv (l:List StE):List zE:=l.flatMap λe=>zV e.tx
theorem ze1 (Q:StQ):(vY Q).Pairwise (· < ·):=List.Pairwise.sublist List.filter_sublist List.pairwise_lt_range
theorem zjP {Q:StQ} {s:Nat} (h:s∈vY Q):s<65∧Q s≠[]:=by
 obtain⟨a,b⟩:=List.mem_filter.1 h
 exact⟨List.mem_range.1 a,of_decide_eq_true b⟩
theorem znn {l:List Nat} (h:l.Pairwise (· < ·)) {i j a b:Nat} (c:i<j) (f:l[i]? =some a) (g:l[j]? =some b):a<b:=by
 obtain⟨d,rfl⟩:=List.getElem?_eq_some_iff.1 f
 obtain⟨e,rfl⟩:=List.getElem?_eq_some_iff.1 g
 exact List.pairwise_iff_getElem.1 h i j d e c
theorem zjO (Q:StQ):(vY Q).length≤65:=by
 have:=(List.filter_sublist (l:=List.range 65) (p:=λi=>decide (Q i≠[]))).length_le
 rwa [List.length_range] at this
theorem SVal.take {l:List StE} (h:SVal l) (k:Nat):SVal (l.take k):=
 ⟨h.nd.sublist ((List.take_sublist k l).map _),h.apart.sublist (List.take_sublist k l),λe a=>h.ent e (List.mem_of_mem_take a),le_trans (List.take_sublist k l).length_le h.len⟩
theorem SVal.pts {l:List StE} (h:SVal l):(Qv l).Nodup:=by
 show List.Pairwise (· ≠ ·) (l.flatMap λe=>zV e.tx)
 rw[List.pairwise_flatMap]
 exact⟨λe b=>(Jb (h.ent e b).1).2.2.2.1,h.apart.imp (λa x c y d e=>a x c (by rw[e];exact d))⟩
theorem zks {w:World} (hg:qR w) {v1 v2:Value} {first:List yF} {l:List vH} (hl:xg w v1 first) (hx:Z0 w v2 l):
  Calls prog 7 #[v1,v2] w λe w'=>e=.returned (.bool true)∧Fr No w w':=by
 obtain⟨dT,uT,rT⟩:=zbg
 obtain⟨dH,uH,rH⟩:=JL
 obtain⟨dA,uA,rA⟩:=zco
 have zP:=qO
 obtain⟨dW,uW,rW⟩:=zhh
 have zT:=show ∀w,(zeroValue 34).run prog w=.ok (.agg Vz.toArray) w from qY
 have zh:=yO
 have zw:=zc2
 have zA:=zc1
 obtain⟨fa,fc,rfl⟩:=hl.2.form
 obtain⟨la,lc,rfl⟩:=hx.form
 have HG:=J hg
 have HL:=J hl
 have HX:=J hx
 have bH:=J (zdV hg)
 clear hg hl hx
 go_enter Tryz.func7,Tryz.ntmps7
 have⟨D,N⟩:=tZ2
 go_wp2_with ((first|(clear D;go_at_call 9;refine bH.o.mono ?_;rintro e w1 ⟨rfl,f1⟩;have F1:=J f1;clear f1)|(clear N;go_at_call 19;refine(zef w1 (HL.o.keep F1.o) (HX.o.keep0 F1.o)).mono ?_;rintro e w2 ⟨⟨g,rfl,a6,hz⟩,f2⟩;have bG:=J a6;have GZ:=J hz;have F2:=J (F1.o.trans0 f2);clear a6 hz f2));go_frame)
 ·go_ret
  exact⟨rfl,F2.o⟩
 have aj:=J (GZ.o (by rcases bG.o with h|h;exact h;exfalso;omega))
 clear GZ
 have cv:=aj.o.2.1
 have⟨D,N⟩:=tZ2
 go_wp2_with ((first|(clear D;go_at_call 10;refine(zg5 F2.o (HL.o.keep F2.o) aj.o.1).mono ?_;rintro e w3 ⟨pc,pp,ps,T,rfl,bn,bf,f2⟩;have W2:=J bn;have b5:=J bf;have F3:=J (F2.o.trans0 f2);clear bn bf f2)|((with_reducible refine zv ?_);clear N;refine zi rfl (zj (w:=w3) (ty:=29) (cs:=vQ pc pp ps) rfl rfl rfl rfl XB (qB rfl rfl rfl)) ?_;generalize b9:w3.heap.size=c7 at*;have B3:=J (yG w3 (.cells (vQ pc pp ps).toArray 29) b9.symm);have FF:=J ((frN w3).alloc (.cells (vQ pc pp ps).toArray 29));generalize w3.alloc (.cells (vQ pc pp ps).toArray 29)=w4 at*;have bC:=@J (FlA w w4 c7 pc pp ps T T 52 ⟨zfo first,zfo first,[],[],λ_=>[]⟩) (⟨(W2.o.fr0 FF.o).more (by decide),λj H=>by have:=b5.o j H;have:=F2.o.size;omega,λe=>by have:=(W2.o.facts.1 _ e).2.1;omega,B3.o⟩)));go_frame)
 generalize zfo first=S at*
 go_loopw [33] (λC wr=>∃(k:Nat) (T X:Nat→Prop) (A:WA),C=.int .i64 k∧k≤l.length∧FlA w wr c7 pc pp ps T X (52+k) A∧A.bs.length≤k∧∀d∈A.bs,d.blk.txs.length≤20) (λC _=>l.length-(intOf C).toNat)
 case atStart=>exact⟨0,_,_,_,rfl,zero_le _,bC.o,le_refl _,λd hd=>by cases hd⟩
 case round=>
  obtain⟨k,T,X,A,rfl,hk,p,a8,ba⟩:=hrel
  have n:=J p
  have ao:=J a8
  have aq:=J ba
  clear p a8 ba
  by_cases aA:k<l.length
  ·have i1:(k:Int)<(l.length:Int):=by omega
   obtain⟨a,hx⟩:∃a,l[k]? =some a:=⟨_,getElem?_eq_getElem aA⟩
   have bq:=J (aj.o.2.2 a (mem_of_getElem? hx))
   obtain⟨bb,off,cu,cs,ck,hr,F⟩:=HX.o.at_ hx
   cases ck
   have R1:=J (za hr n.o.fr id)
   have CL:=J F.len
   have C1:=J (zcd F)
   have QK:=@J (∀w',Fr No w w'→qH w' a cs) (λw' f=>F.keep f)
   have FA:=J ((frN wr).alloc (.cells cs.toArray 57))
   have RN:=J (zy wr cs 57)
   have ai:=J (n.o.fr0 FA.o)
   have RW:=J (zq ai.o.2.2.2)
   have aL:=@J (k<60) (by have:=aj.o.2.1;omega)
   clear hx hr F
   have⟨D,N,K2,K3,K4⟩:=tZ5
   go_wp2_with ((first|((with_reducible refine zt ?_);first|(clear D;refine zg rfl (zY (ty:=57) rfl rfl R1.o uA rA (by rw[CL.o];exact vw)) ?_)|(clear K2;refine zg rfl (zY (ty:=29) (cs:=vQ pc pp ps) rfl rfl RW.o uW rW XB) ?_)|(clear K3;refine zg rfl (zY (ty:=57) rfl rfl RN.o uA rA (by rw[CL.o];exact vw)) ?_))|((with_reducible refine zv ?_);clear N;refine zi rfl (zj (w:=wr) (ty:=57) (cs:=cs) rfl rfl rfl (by rw[CL.o];rfl) (by rw[CL.o];exact vw) C1.o) ?_;generalize wr.heap.size=q7 at RN⊢;generalize wr.alloc (.cells cs.toArray 57)=w1 at*)|(clear K4;go_at_call 20;refine(znw HG.o ai.o.1 (by have:=aL.o;omega) (by omega) (by have:=ao.o;have:=aL.o;omega) aq.o (ai.o.keptQ QK.o)).mono ?_;rintro e w5 ⟨tv,lv,rfl,T5,X5,n5,-⟩;have bE:=J (ai.o.next n5);clear n5));go_frame)
   go_roundw
   case rel=>exact⟨k+1,_,_,_,by go_num,by omega,bE.o,by have:=(ziS A a).1;have:=ao.o;omega,λd hd=>((ziS A a).2 d hd).elim (aq.o d) (λe=>by rw[e];exact bq.o)⟩
   case measure=>simp[intOf];omega
  ·have i1:¬(k:Int)<(l.length:Int):=by omega
   have c2:=n.o.cells.2.2
   generalize 52+k=NN at*
   clear ao aq
   have b2:=J (ze1 A.Q)
   have SL:=J (zjO A.Q)
   have b1:=J (λ(j s:Nat) (h:(vY A.Q)[j]? =some s)=>zjP (mem_of_getElem? h))
   have D:=tru
   go_wp2_with (clear D;go_at_call 21;refine(zcT n.o.1).mono ?_;rintro e w6 ⟨lv,rfl,U,f6⟩;have aI:=J (n.o.fr0 f6);have ay:=J (JJ.new n.o.1 U (le_refl _));obtain⟨sa,sc,cc⟩:=U.slice.arg.form;subst cc;clear U f6;go_frame)
   generalize b7:vY A.Q=x at*
   clear b7
   have aS:=@J (JJ T w6 0 3 1 (.slice sa x.length sc) x.length (x.map iV)) (⟨yV ay.o.1 (zero_le _),ay.o.2⟩)
   have ct:=SL.o
   clear ay c2
   go_loopw [8,45] (λsv C wr=>∃(k:Nat) (z:Int) (X:Nat→Prop),C=.int .i64 k∧sv=.int .i64 z∧k≤x.length∧(∀j s:Nat,k≤j→x[j]? =some s→z<(s:Int))∧FlA w wr c7 pc pp ps T X NN A∧JJ T wr 0 3 1 (.slice sa x.length sc) x.length (x.map iV)) (λ_ C _=>x.length-(intOf C).toNat)
   case atStart=>exact⟨0,-1,_,rfl,rfl,zero_le _,λj s _ _=>by omega,aI.o,aS.o⟩
   case round=>
    clear n aI aS
    obtain⟨k,z,X,rfl,rfl,hk,hz,p,E⟩:=hrel
    rename World=>wr
    have n:=J p
    have SR:=J E
    have HZ:=J hz
    clear p E hz
    by_cases aA:k<x.length
    ·have i2:(k:Int)<(x.length:Int):=by omega
     obtain⟨s,hs⟩:∃s,x[k]? =some s:=⟨_,getElem?_eq_getElem aA⟩
     obtain⟨bo,bp⟩:=b1.o k s hs
     have ro:=SR.o.1
     rw[List.map_eq_flatMap] at ro
     obtain⟨g2,cm,cd,bj,-⟩:=vy (f:=λi=>[iV i]) (by decide) (λ_ _=>rfl) ro hs
     cases cd
     have cs:wr.cell? ⟨g2,k,none⟩=some (.int .i64 s):=by simpa[iV] using bj 0 _ rfl
     have R:=J (n.o.1.facts.2.2.2.2.2.2 s)
     have z1:¬(s:Int)≤z:=by have:=HZ.o k s (le_refl _) hs;omega
     have z2:¬(64:Int)<(s:Int):=by omega
     have l0:=List.length_pos_iff.2 bp
     have l4:=R.o.len
     have z3:¬((A.Q s).length:Int)=0:=by omega
     have z4:(((A.Q s).length:Int)==0)=false:=by simpa using(show ¬(A.Q s).length=0 by omega)
     have z5:¬(4:Int)<((A.Q s).length:Int):=by omega
     have ZN:=@J (∀j t:Nat,k+1≤j→x[j]? =some t→(s:Int)<(t:Int)) (λj t H ht=>by
      have:=znn b2.o (show k<j by omega) hs ht
      omega)
     have c2:=n.o.cells.2.2
     have aK:=J (n.o.1.ids s)
     have aR:=J bo
     clear hs ro bj bp l0 bo
     have D:=tru
     go_wp2_with (clear D;go_at_call 13;refine(zlv n.o.1 aR.o).mono ?_;rintro e w7 ⟨av,rfl,U,f7⟩;rw[JS] at U;have M:=J (n.o.fr0 f7);have Q:=J (SR.o.fr0 f7);have G:=J (JJ.new n.o.1 U (le_refl _));obtain⟨aa,ac,b8⟩:=U.slice.arg.form;subst b8;clear U f7 cs c2;go_frame)
     obtain⟨B,hB⟩:∃b,b=w7.heap.size:=⟨_,rfl⟩
     have bz:=@J (c7<B) (by have:=yI M.o.2.2.2;omega)
     have b0:=@J (∀j,(Value.slice (some ⟨g2,0,none⟩) x.length sc).ownBlock=some j→j<B) (λj H=>by have:=Q.o.blk j H;omega)
     have br:=@J (∀j,(Value.slice aa (A.Q s).length ac).ownBlock=some j→j<B) (λj H=>by have:=G.o.blk j H;omega)
     have V:=@J (B≤w7.heap.size) (by omega)
     have aF:=@J (JJ T w7 0 41 32 (.slice aa (A.Q s).length ac) (A.Q s).length ((yP (A.Q s)).flatMap zf)) (⟨yV G.o.1 (zero_le _),G.o.2⟩)
     have aW:=J (World.ownsRow_nil w7 B 95 33)
     clear hB G n SR
     go_loopw [12,73] (λpv C wr=>∃(m:Nat) (X:Nat→Prop) (K:Option Addr) (c L:Nat),C=.int .i64 m∧m≤(A.Q s).length∧pv=.slice K c L∧c=(Qv ((A.Q s).take m)).length∧FlA w wr c7 pc pp ps T X NN A∧JJ T wr B 95 33 (.slice K c L) c ((Qv ((A.Q s).take m)).flatMap zn)∧JJ T wr 0 3 1 (.slice (some ⟨g2,0,none⟩) x.length sc) x.length (x.map iV)∧JJ T wr 0 41 32 (.slice aa (A.Q s).length ac) (A.Q s).length ((yP (A.Q s)).flatMap zf)∧B≤wr.heap.size∧(∀j,(Value.slice K c L).ownBlock=some j→X j)∧∀q∈Qv ((A.Q s).take m),q.ok) (λ_ C _=>(A.Q s).length-(intOf C).toNat)
     case atStart=>exact⟨0,_,none,0,0,rfl,zero_le _,rfl,rfl,M.o,⟨aW.o,λj h=>(by cases h)⟩,Q.o,aF.o,V.o,λj h=>(by cases h),λq h=>(by simp[Qv] at h)⟩
     case round=>
      clear M Q aF V aW
      obtain⟨m,X,K,c,L,rfl,hm,rfl,af,p,ag,E,ad,ae,ah,bg⟩:=hrel
      rename World=>wr
      have PO:=J bg
      clear bg
      have n:=J p
      have PR:=J ag
      have SR:=J E
      have AR:=J ad
      have BW:=J ae
      have PX:=J ah
      have PN:=J af
      clear p ag E ad ae ah af
      by_cases ca:m<(A.Q s).length
      ·have i3:(m:Int)<((A.Q s).length:Int):=by omega
       obtain⟨e,he⟩:∃e,(A.Q s)[m]? =some e:=⟨_,getElem?_eq_getElem ca⟩
       have az:=mem_of_getElem? he
       have aC:(yP (A.Q s))[m]? =some e.id:=by unfold yP;rw[List.getElem?_map,he];rfl
       obtain⟨g3,cn,cf,bk,-⟩:=vy (f:=zf) (by decide) (λy hy=>zx (aK.o y hy)) AR.o.1 aC
       cases cf
       have R1:=J bk
       have au:=J (aK.o e.id (mem_of_getElem? aC))
       have EL:=J (zx au.o)
       have aw:=J az
       have HE:=J he
       have ar:=J (R.o.ent e az)
       have CK:=@J (idE e.tx=0) (by unfold idE;rw[if_pos (Jb ar.o.1).1])
       have IX:=@J (idH e.tx=e.id) (ar.o.2.symm)
       have FH:=J ((frN wr).alloc (.cells (zf e.id).toArray 41))
       have RN:=J (zy wr (zf e.id) 41)
       have c2:=(n.o.fr0 FH.o).cells.2.2
       have GT:=J (zng (n.o.fr0 FH.o).1 aR.o aw.o)
       clear he az aC bk
       have⟨D,N,K2,K3,K4,K5,K6,K7,K8,K9,bI,bJ,bK,bL,bM⟩:=tZ15
       go_wp2_with ((first|((with_reducible refine zt ?_);first|(clear D;refine znD rfl rfl rfl R1.o EL.o ?_)|(clear K2;refine znD rfl rfl rfl RN.o EL.o ?_)|(clear K5;refine znB rfl rfl rfl RT.o rfl ?_)|(clear bL;refine znB rfl rfl rfl bY.o rfl ?_))|((with_reducible refine zv ?_);first|(clear N;refine znL (w:=wr) (cs:=zf e.id) rfl rfl rfl rfl EL.o zR ?_;generalize wr.heap.size=cx at RN⊢;generalize wr.alloc (.cells (zf e.id).toArray 41)=w1 at*)|(clear K4;refine zi rfl (zj (w:=w2) (ty:=34) (cs:=[.int .u32 e.tx.ver,.slice ja e.tx.ins.length jc,.slice ka e.tx.outs.length kc]) rfl rfl rfl rfl yU (qB rfl rfl rfl)) ?_;have RT:=J (qM w2 e.tx.ver (.slice ja e.tx.ins.length jc) (.slice ka e.tx.outs.length kc)).2.2.2;have FT:=J ((frN w2).alloc (.cells #[.int .u32 e.tx.ver,.slice ja e.tx.ins.length jc,.slice ka e.tx.outs.length kc] 34));generalize w2.heap.size=cy at RT⊢;generalize w2.alloc (.cells #[.int .u32 e.tx.ver,.slice ja e.tx.ins.length jc,.slice ka e.tx.outs.length kc] 34)=w3 at*;have F3:=J (F2.o.trans0 FT.o);have bU:=J (za bT.o FT.o id);have aT:=J (aJ.o.same FT.o).now)|(clear K7;refine znL (w:=w4) (cs:=zf e.id) rfl rfl rfl rfl EL.o zR ?_;have RI:=J (zy w4 (zf e.id) 41);have FI:=J ((frN w4).alloc (.cells (zf e.id).toArray 41));generalize w4.heap.size=cz at RI⊢;generalize w4.alloc (.cells (zf e.id).toArray 41)=w5 at*;have F5:=J (F4.o.trans0 FI.o);have bW:=J (za bV.o FI.o id);have aQ:=J (za bX.o FI.o id);have aU:=J (b6.o.keep FI.o)))|(clear K3;go_at_call 30;refine GT.o.mono ?_;rintro e' w2 ⟨ts,rfl,f2,bd⟩;have aJ:=J (bd No (λ_ h=>h.elim));obtain⟨ja,jc,ka,kc,rfl⟩:=aJ.o.now.form;have F2:=J (FH.o.trans0 f2);have bT:=J (za RN.o f2 id);clear f2 bd)|(clear K6;go_at_call 15;refine(Xb (HG.o.keep0 (n.o.fr.trans0 F3.o)) aT.o).mono ?_;rintro e' w4 ⟨rfl,f4⟩;rw[CK.o,IX.o];have F4:=J (F3.o.trans0 f4);have bV:=J (za bU.o f4 id);have bX:=J (za RT.o f4 id);have b6:=J (aT.o.keep f4);clear f4)|(clear bK;go_at_call 32;refine(Yb w5 aU.o).mono ?_;rintro e' w6 ⟨rfl,f6⟩;rw[ar.o.1];have F6:=J (F5.o.trans0 f6);have bY:=J (za aQ.o f6 id);have aV:=J (aU.o.keep f6);clear f6)|(clear bM;go_at_call 33;refine(vi w6 aV.o (by have:=R.o.ins8 e aw.o;omega)).mono ?_;rintro e' w7 ⟨qv,rfl,aB,f7⟩;have Y:=J aB;obtain⟨qa,qc,cb⟩:=aB.slice.arg.form;subst cb;have F7:=J (F6.o.trans0 f7);clear aB f7)|((with_reducible refine yp 93 ?_);clear K8;refine xw (o:=⟨some 93,_,_,_,_,_⟩) rfl (zY (ty:=41) rfl rfl RI.o uH rH (by rw[EL.o];exact yn)) ?_)|((with_reducible refine yp 94 ?_);clear K9;refine xw (o:=⟨some 94,_,_,_,_,_⟩) rfl (zY (ty:=41) rfl rfl bW.o uH rH (by rw[EL.o];exact yn)) ?_)|((with_reducible refine yp 95 ?_);clear bI;refine xw (o:=⟨some 95,_,_,_,_,_⟩) rfl (xL.exec_neq (u:=(zf e.id).toArray) (v:=(zf e.id).toArray) rfl rfl rfl (yq au.o) (yq au.o) true ⟨λ_=>rfl,λ_=>rfl⟩ _) ?_)|((with_reducible refine yp 98 ?_);clear bJ;refine xw (o:=⟨some 98,_,_,_,_,_⟩) rfl (zY (ty:=34) rfl rfl aQ.o uT rT yU) ?_));go_frame)
       obtain⟨r,Z⟩:∃r,r=zV e.tx:=⟨_,rfl⟩
       have O:=@J (r.length=e.tx.ins.length) (by rw[Z];simp[zV])
       have I8:=J (R.o.ins8 e aw.o)
       have ak:=@J (∀q∈r,q.ok) (λq F=>by rw[Z] at F;obtain⟨y,hy,rfl⟩:=List.mem_map.1 F;exact aV.o.oks.1 y hy)
       have an:=@J (Qv ((A.Q s).take (m+1))=Qv ((A.Q s).take m)++r) (by rw[List.take_add_one,HE.o,Z];simp[Qv])
       have bP:=@J ((Qv ((A.Q s).take m)++r).Nodup) (by
        rw[←an.o]
        exact(R.o.take (m+1)).pts)
       rw[←Z] at Y
       clear Z
       generalize a7:Qv ((A.Q s).take m)=I at*
       have bN:=@J (I.length≤32) (by
        have h2:∀l:List StE,(∀e∈l,e.tx.ins.length≤8)→(Qv l).length≤8*l.length:=λl=>by
         induction l with
         |nil=>intro _;simp[Qv]
         |cons b l ih=>
          intro h
          have h3:=ih (λe he=>h e (List.mem_cons_of_mem _ he))
          have h4:=h b (List.mem_cons_self ..)
          have h5:(Qv (b::l)).length=b.tx.ins.length+(Qv l).length:=by simp[Qv,zV]
          rw[h5,List.length_cons]
          omega
        have:=h2 ((A.Q s).take m) (λe he=>R.o.ins8 e (List.mem_of_mem_take he))
        rw[a7,length_take] at this
        omega)
       have cw:=bN.o
       have i8:=I8.o
       have M:=J (n.o.fr0 F7.o)
       have aN:=J (PR.o.fr0 F7.o)
       have Q:=J (SR.o.fr0 F7.o)
       have G:=J (AR.o.fr0 F7.o)
       have aP:=@J (JJ T w7 0 95 33 (.slice qa e.tx.ins.length qc) e.tx.ins.length (r.flatMap zn)) (⟨yV Y.o (zero_le _),(JJ.new n.o.1 Y.o F6.o.size).2⟩)
       have aH:=@J (∀j,(Value.slice K c L).ownBlock=some j→(Value.slice qa e.tx.ins.length qc).ownBlock=some j→False) (λj h1 h2=>by have:=PR.o.blk j h1;have:=(Y.o.lt j h2).1;have:=F6.o.size;omega)
       have V:=J (le_trans BW.o F7.o.size)
       clear Y a7
       go_loopw [12,105] (λpv C wr=>∃(j:Nat) (X:Nat→Prop) (K:Option Addr) (c L:Nat),C=.int .i64 j∧j≤e.tx.ins.length∧pv=.slice K c L∧c=(I++r.take j).length∧FlA w wr c7 pc pp ps T X NN A∧JJ T wr B 95 33 (.slice K c L) c ((I++r.take j).flatMap zn)∧JJ T wr 0 3 1 (.slice (some ⟨g2,0,none⟩) x.length sc) x.length (x.map iV)∧JJ T wr 0 41 32 (.slice (some ⟨g3,0,none⟩) (A.Q s).length ac) (A.Q s).length ((yP (A.Q s)).flatMap zf)∧JJ T wr 0 95 33 (.slice qa e.tx.ins.length qc) e.tx.ins.length (r.flatMap zn)∧B≤wr.heap.size∧(∀j,(Value.slice K c L).ownBlock=some j→X j)∧∀j,(Value.slice K c L).ownBlock=some j→(Value.slice qa e.tx.ins.length qc).ownBlock=some j→False) (λ_ C _=>e.tx.ins.length-(intOf C).toNat)
       case atStart=>exact⟨0,_,K,c,L,rfl,zero_le _,rfl,by simpa using PN.o,M.o,by simpa using aN.o,Q.o,G.o,aP.o,V.o,PX.o,aH.o⟩
       case round=>
        clear M aN Q G aP V aH
        obtain⟨j,X,K,c,L,rfl,H,rfl,af,p,ag,E,ad,bh,ae,ah,bc⟩:=hrel
        rename World=>wr
        have n:=J p
        have PR:=J ag
        have SR:=J E
        have AR:=J ad
        have QR:=J bh
        have BW:=J ae
        have PX:=J ah
        have DJ:=J bc
        have W:=@J (c=I.length+j) (by rw[af,length_append,length_take,O.o];omega)
        clear p ag E ad bh ae ah bc af
        by_cases hjt:j<e.tx.ins.length
        ·have i4:(j:Int)<(e.tx.ins.length:Int):=by omega
         obtain⟨q,F⟩:∃q,r[j]? =some q:=⟨_,getElem?_eq_getElem (by rw[O.o];exact hjt)⟩
         obtain⟨g5,cp,ch,bl,-⟩:=vy (f:=zn) (by decide) (λy hy=>zW (ak.o y hy)) QR.o.1 F
         cases ch
         have R1:=J bl
         have aO:=J (ak.o q (mem_of_getElem? F))
         have QL:=J (zW aO.o)
         have TK:=@J (I++r.take (j+1)=(I++r.take j)++[q]) (by rw[List.take_add_one,F];simp)
         have cr:c≤40:=by have:=W.o;omega
         have FQ:=J ((frN wr).alloc (.cells (zn q).toArray 95))
         have RQ:=J (zy wr (zn q) 95)
         have HQ:=@J ((I++r)[I.length+j]? =some q) (by rw[getElem?_append_right (by omega),Nat.add_sub_cancel_left];exact F)
         clear F bl
         have⟨D,N⟩:=tZ2
         go_wp2_with ((first|((with_reducible refine zt ?_);clear D;refine znE rfl rfl rfl R1.o QL.o ?_)|((with_reducible refine zv ?_);clear N;refine znM (w:=wr) (cs:=zn q) rfl rfl rfl rfl QL.o yv ?_;generalize wr.heap.size=cA at RQ⊢;generalize wr.alloc (.cells (zn q).toArray 95)=w1 at*));go_frame)
         go_loopw [111] (λC wz=>∃i:Nat,C=.int .i64 i∧i≤c∧Fr No w1 wz) (λC _=>c-(intOf C).toNat)
         case atStart=>exact⟨0,rfl,zero_le _,Fr.refl _ _⟩
         case round=>
          obtain⟨i,rfl,hi,fz⟩:=hrel
          rename World=>wz
          have FZ:=J (FQ.o.trans0 fz)
          have RZ:=J (za RQ.o fz id)
          have bB:=J fz
          clear fz
          by_cases hit:i<c
          ·have i5:(i:Int)<(c:Int):=by omega
           obtain⟨o,U⟩:∃o,(I++r.take j)[i]? =some o:=⟨_,getElem?_eq_getElem (by rw[length_append,length_take,O.o];have:=W.o;omega)⟩
           have ab:∀y∈I++r.take j,y.ok:=λy hy=>(mem_append.1 hy).elim (PO.o y) (λh=>ak.o y (List.mem_of_mem_take h))
           obtain⟨g6,cq,cj,bm,-⟩:=vy (f:=zn) (by decide) (λy hy=>zW (ab y hy)) PR.o.1 U
           cases cj
           have R2:=J (za bm FZ.o id)
           have aM:=J (ab o (mem_of_getElem? U))
           have OL:=J (zW aM.o)
           have NE:=J (zmo bP.o HQ.o U (by have:=W.o;omega))
           have FO:=J ((frN wz).alloc (.cells (zn o).toArray 95))
           have RO:=J (zy wz (zn o) 95)
           have bZ:=J (za RZ.o FO.o id)
           clear U ab bm
           have⟨D,N,K2,K3,K4⟩:=tZ5
           go_wp2_with ((first|((with_reducible refine zt ?_);first|(clear D;refine znE rfl rfl rfl R2.o OL.o ?_)|(clear K2;refine znE rfl rfl rfl bZ.o QL.o ?_)|(clear K3;refine znE rfl rfl rfl RO.o OL.o ?_)|(clear K4;refine zg rfl (j5.exec_eql (u:=(zn q).toArray) (v:=(zn o).toArray) rfl rfl rfl (xH aO.o) (xH aM.o) false ⟨λh=>(by cases h),λh=>absurd h NE.o⟩ _) ?_))|((with_reducible refine zv ?_);clear N;refine znM (w:=wz) (cs:=zn o) rfl rfl rfl rfl OL.o yv ?_;generalize wz.heap.size=cB at RO⊢;generalize wz.alloc (.cells (zn o).toArray 95)=wy at*));go_frame)
           go_roundw
           case rel=>exact⟨i+1,by go_num,by omega,bB.o.trans0 FO.o⟩
           case measure=>simp[intOf];omega
          ·have i5:¬(i:Int)<(c:Int):=by omega
           have bF:=J (n.o.fr0 FZ.o)
           have al:=J (PR.o.fr0 FZ.o)
           have b4:=J (SR.o.fr0 FZ.o)
           have bw:=J (AR.o.fr0 FZ.o)
           have ax:=J (QR.o.fr0 FZ.o)
           have aG:=J (le_trans BW.o FZ.o.size)
           obtain⟨v4,w4,a1,a2,a3,-,a5⟩:=yT (P:=prog) wz B 91 91 95 33 36 _ JD Yy rfl (by decide) al.o.1 (zn q) QL.o yv (by omega) (by unfold maxLen;omega) aG.o
           obtain⟨aD,aE,cg⟩:=a2.slice.arg.form
           subst cg
           obtain⟨X4,aX,aZ,aY,-⟩:=bF.o.app a3 PX.o al.o.2 (λj H=>by have:=(al.o.1.lt j H).1;have:=bz.o;omega) a5 (λj H=>(a2.lt j H).2)
           have GE:=@J (∀j,(Value.slice K c L).ownBlock=some j→B≤j) (λj H=>(al.o.1.lt j H).1)
           have bt:=J a1
           have bD:=J aX
           have bR:=J aZ
           have bQ:=@J (JJ T w4 B 95 33 (.slice aD (c+1) aE) (c+1) ((I++r.take (j+1)).flatMap zn)) (⟨by rw[TK.o];simpa using a2,aY⟩)
           have b3:=J (b4.o.app a3 b0.o GE.o)
           have bu:=J (bw.o.app a3 br.o GE.o)
           have bS:=@J (JJ T w4 0 95 33 (.slice (some ⟨g5,0,none⟩) e.tx.ins.length qc) e.tx.ins.length (r.flatMap zn)) (⟨zb ax.o.1 a3 (λj H e=>DJ.o j e H),ax.o.2⟩)
           have bx:=J (le_trans aG.o a3.size)
           have bA:=@J (∀j,(Value.slice aD (c+1) aE).ownBlock=some j→(Value.slice (some ⟨g5,0,none⟩) e.tx.ins.length qc).ownBlock=some j→False) (λj h1 h2=>(a5 j h1).elim (λh=>DJ.o j h h2) (λh=>by have:=ax.o.blk j h2;omega))
           have bO:=@J (c+1=(I++r.take (j+1)).length) (by rw[TK.o,length_append,length_append,length_take,O.o];have:=W.o;simp;omega)
           clear a1 a2 a3 a5 aX aZ aY
           have⟨D,N,K2⟩:=tZ3
           go_wp2_with (((with_reducible refine zt ?_);first|(clear D;refine znE rfl rfl rfl RZ.o QL.o ?_)|(clear N;refine zg rfl (zS (t:=91) rfl rfl JD Xd rfl (by decide) (by decide) QL.o) ?_)|(clear K2;at_builtin;refine zQ rfl rfl rfl rfl bt.o ?_));go_frame)
           go_roundw
           case rel=>exact⟨j+1,_,aD,c+1,aE,by go_num,by omega,rfl,bO.o,bD.o,bQ.o,b3.o,bu.o,bS.o,bx.o,bR.o,bA.o⟩
           case measure=>simp[intOf];omega
        ·have i4:¬(j:Int)<(e.tx.ins.length:Int):=by omega
         obtain rfl:j=e.tx.ins.length:=by omega
         have TA:=@J (I++r.take e.tx.ins.length=I++r) (by rw[List.take_of_length_le (by rw[O.o];exact le_refl _)])
         go_wp2_with fail
         go_roundw
         case rel=>exact⟨m+1,_,K,c,L,by go_num,by omega,rfl,by rw[W.o,an.o,length_append,O.o],n.o,by rw[an.o,←TA.o];exact PR.o,SR.o,AR.o,BW.o,PX.o,λq F=>by rw[an.o] at F;exact(mem_append.1 F).elim (PO.o q) (ak.o q)⟩
         case measure=>simp[intOf];omega
      ·have i3:¬(m:Int)<((A.Q s).length:Int):=by omega
       go_wp2_with fail
       go_roundw
       case rel=>exact⟨k+1,s,_,by go_num,rfl,by omega,ZN.o,n.o,SR.o⟩
       case measure=>simp[intOf];omega
    ·have i2:¬(k:Int)<(x.length:Int):=by omega
     go_wp2_with fail
     go_ret
     exact⟨rfl,n.o.fr⟩
end Go.Proofs.YtdkkjchclkjleaaGreatDoor
