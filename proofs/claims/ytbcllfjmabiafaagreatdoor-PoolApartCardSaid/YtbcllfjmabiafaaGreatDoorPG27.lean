/- pool, plain: what is refused, what goes. -/
import Derived.Test.YtbcllfjmabiafaaGreatDoorPG24
import Derived.Test.YtbcllfjmabiafaaGreatDoorPG26
import Derived.Test.YtbcllfjmabiafaaGreatDoorPG10
import Derived.Test.YtbcllfjmabiafaaGreatDoorPG2
import Derived.Test.YtbcllfjmabiafaaGreatDoorPG1
set_option linter.unusedVariables false
set_option linter.unusedSimpArgs false
set_option linter.unnecessarySimpa false
set_option linter.all false
set_option maxRecDepth 20000
set_option maxHeartbeats 16000000
namespace Go.Proofs.YtbcllfjmabiafaaGreatDoor
open Go Go.RowKit Go.Maps Go.MapKept
open Go.Proofs.Tryz(prog)
open List(length_cons)
variable {B:Nat}
theorem zdB {l G:List zf} (c:G.Sublist l) (nd:l.Nodup):(l.filter λx=>decide (x∉G)).length+G.length=l.length:=by
 induction c with
 |slnil=>rfl
 |@cons G l a c ih=>
  obtain⟨d,b⟩:=List.nodup_cons.1 nd
  rw[List.filter_cons_of_pos (by simpa using λe=>d (c.subset e)),length_cons,length_cons]
  have:=ih b
  omega
 |@cons_cons G l a c ih=>
  obtain⟨d,b⟩:=List.nodup_cons.1 nd
  rw[List.filter_cons_of_neg (by simp),length_cons,length_cons]
  have e:(l.filter λx=>decide (x∉a::G))=l.filter λx=>decide (x∉G):=by
   apply List.filter_congr
   intro x f
   have:x≠a:=λe=>d (e▸f)
   simp[this]
  rw[e]
  have:=ih b
  omega
section
variable {S:List zn} {I:List zf} {L:List zL} {t:TxD}
theorem zi7 (h:jj S I L t≠0) (now:Int):jo S I L t=[]∧qM S I L t now=L:=by
 unfold jo qM
 rw[if_neg h,if_neg h]
 exact⟨rfl,rfl⟩
theorem ziG (w:Int×Int) (ps:List zf):(vn L w ps).Sublist (zR L):=by
 unfold vn
 split
 ·exact List.nil_sublist _
 split
 ·exact List.nil_sublist _
 split
 ·rw[←yO]
  exact xh _
 ·exact List.nil_sublist _
theorem zbG:(jo S I L t).Sublist (zR L):=by
 unfold jo
 split
 ·exact ziG _ _
 ·exact List.nil_sublist _
theorem zbW (now:Int):(Zc L now).Sublist (zR L):=by
 have:=xh (G:=gOf L) (zd8 L now)
 rwa [yO] at this
theorem zkD (nd:(zR L).Nodup) (b:L.length≤32) (h:jj S I L t=0) (now:Int):
  zR (qM S I L t now)=((zR L).filter λx=>decide (x∉jo S I L t))++[idH t]∧((zR L).filter λx=>decide (x∉jo S I L t)).length+(jo S I L t).length=(zR L).length∧(jo S I L t≠[]→L.length=32)∧jj S I (qM S I L t now) t=10:=by
 have a:zR (qM S I L t now)=((zR L).filter λx=>decide (x∉jo S I L t))++[idH t]:=by
  unfold qM
  rw[if_pos h,←Zr]
  simp[zR,mkE]
 refine⟨a,zdB zbG nd,λc=>?_,?_⟩
 ·by_cases h32:L.length<32
  ·refine absurd ?_ c
   unfold jo vn
   rw[if_pos h,if_pos h32]
  ·omega
 ·obtain⟨d,-,-⟩:=zi6 h
  have b:xX S I (qM S I L t now) t=10:=by
   unfold xX
   rw[if_pos (by rw[a];simp)]
  unfold jj
  rw[if_neg (by omega),if_pos (by omega),b]
theorem zkW (nd:(zR L).Nodup) (now:Int):zR (J4 L now)=((zR L).filter λx=>decide (x∉Zc L now))∧((zR L).filter λx=>decide (x∉Zc L now)).length+(Zc L now).length=(zR L).length:=
 ⟨Zr L _,zdB (zbW now) nd⟩
theorem zby {now:Int} {x:zf}:x∈zd8 L now↔∃e∈L,Ze e.added 7200≤now∧e.id=x:=by
 unfold zd8
 simp[and_assoc]
theorem zff {now:Int} {x:zf} (h:x∈zd8 L now):x∈Zc L now:=by
 refine qA.2 ⟨x,h,.refl ?_⟩
 obtain⟨e,a,-,rfl⟩:=zby.1 h
 rw[yO]
 exact List.mem_map.2 ⟨e,a,rfl⟩
theorem zdc (now:Int):Zc (J4 L now) now=[]:=by
 have h:zd8 (J4 L now) now=[]:=by
  refine List.eq_nil_iff_forall_not_mem.2 λx c=>?_
  obtain⟨e,b,d,rfl⟩:=zby.1 c
  obtain⟨b,g⟩:=jA.1 b
  exact g (zff (zby.2 ⟨e,b,d,rfl⟩))
 unfold Zc
 rw[h]
 refine List.eq_nil_iff_forall_not_mem.2 λx c=>?_
 obtain⟨a,f,-⟩:=qA.1 c
 cases f
theorem zeQ (now:Int):J4 (J4 L now) now=J4 L now:=by
 show xb (J4 L now) (Zc (J4 L now) now)=J4 L now
 rw[zdc,Zs]
theorem zkV:J4 L 18446744073709551615=[]:=by
 refine List.eq_nil_iff_forall_not_mem.2 λe a=>?_
 obtain⟨a,b⟩:=jA.1 a
 refine b (zff (zby.2 ⟨e,a,?_,rfl⟩))
 unfold Ze
 split<;>omega
theorem zh7 (h:xy S I L) (now:Int) {e:zL} (a:e∈J4 L now) {q:zx} (i:q∈z6 e.tx) (d:q.tx∈Zc L now):yV S q=true:=by
 obtain⟨a,f⟩:=jA.1 a
 obtain⟨A,C,rfl⟩:=List.append_of_mem a
 rcases h.spends rfl i with⟨c,-⟩|⟨-,p,-,g,b,-⟩
 ·exact c
 ·exact absurd d (by rw[←g];exact Yt h.gok _ e a f p.id b)
end
section
variable {w0 w w':World} {c7 pc pp N:Nat} {T X:Nat→Prop} {A:PB} {u v v':Value}
theorem FlB.app (h:FlB w0 w c7 pc pp T X N A) (f:Fr (λj=>v.ownBlock=some j) w w') (b:∀j,v.ownBlock=some j→X j) (d:∀j,v.ownBlock=some j→¬T j) (g:∀j,v.ownBlock=some j→c7<j) (c:∀j,v'.ownBlock=some j→v.ownBlock=some j∨w.heap.size≤j) (i:∀j,v'.ownBlock=some j→j<w'.heap.size):
  ∃X',FlB w0 w' c7 pc pp T X' N A∧(∀j,v'.ownBlock=some j→X' j)∧(∀j,v'.ownBlock=some j→¬T j)∧(∀j,X j→X' j)∧∀ {Q:World→Prop},Kept X w Q→Kept X' w' Q:=by
 refine⟨λj=>X j∨(w.heap.size≤j∧j<w'.heap.size),⟨?_,?_,h.2.2.1,?_⟩,?_,?_,λj a=>.inl a,?_⟩
 ·exact h.1.frV f (λj a e=>d j e a) (λj e=>h.2.1 j (b j e)) b (λj a e=>e.resolve_right (by omega)) (λj a=>.inl (h.1.facts.1 j a).2.2) (λj a=>a.elim (λe=>Nat.lt_of_lt_of_le (h.1.facts.2.1 j e) f.size) (·.2))
 ·exact λj a=>a.elim (h.2.1 j) (λe=>Nat.le_trans h.fr.size e.1)
 ·exact f.obj h.2.2.2 (λe=>by have:=g _ e;omega)
 ·exact λj a=>(c j a).elim (λe=>.inl (b j e)) (λe=>.inr ⟨e,i j a⟩)
 ·exact λj a=>(c j a).elim (d j) (λe t=>by have:=(h.1.facts.1 j t).2.1;omega)
 ·exact λk=>k.step (f.mono b) (λj a e=>e.resolve_right (by omega))
theorem xS.app {B k n:Nat} {ty:TypeId} {xs:List Value} (h:xS T w B ty k u n xs) (f:Fr (λj=>v.ownBlock=some j) w w') {b:Nat} (c:∀j,u.ownBlock=some j→j<b) (d:∀j,v.ownBlock=some j→b≤j):xS T w' B ty k u n xs:=
 ⟨zb h.1 f (λj a e=>by have:=c j a;have:=d j e;omega),h.2⟩
theorem xS.blk {B k n:Nat} {ty:TypeId} {xs:List Value} (h:xS T w B ty k u n xs):∀j,u.ownBlock=some j→j<w.heap.size:=λj a=>(h.1.lt j a).2
theorem xS.ids {a:Option Addr} {n c:Nat} {b:List zf} (h:xS T w B 45 32 (.slice a n c) n (b.flatMap zd)) (d:b.length=n) (ok:∀x∈b,zV x):y4 w (.slice a n c) b:=⟨ok,by rw[d];exact h.1.slice.arg⟩
end
section
open Go.ChangeShapes Go.WideShapes Go.Deep
section
variable {H:Type} {enc:TypeId×Value→H} {w:World} {base:Nat} {spare:Nat→Bool} {held:Bool}
theorem zk7 {r:Reach} {a:Nat} {v:Value} {d:DataW H} {p:List MemPlace} (f:Value.okWide prog w r a 27 v) (h:DataW.Trod enc prog w base spare held 27 v d p):
  ∃(k:TxD) (cs:List Value),TxQ w k cs∧v=.agg cs.toArray:=by
 obtain⟨cs,rfl,e⟩:=okWide_struct Tryz.underlying27 f
 obtain⟨fuel,b⟩:=h
 obtain⟨k,c⟩:=zep b
 exact⟨k,cs.toList,c,by simp⟩
end
end
end Go.Proofs.YtbcllfjmabiafaaGreatDoor
namespace Go
open Go.RowKit
section
variable {P:Program} {w w':World} {o:Oper} {a:Act} {ops:Array Oper} {rest:List Oper} {Q:Exit→Act→World→Prop} {s x:Operand} {ts:Array TypeId} {sv xv v:Value}
theorem YH (e:Region.wanted o (yielded ops a.tmps)=true)
  (c:o.op=.call {callee:=.builtin .append,args:= #[s,x],argTypes:=ts}) (d:a.eval s=sv) (f:a.eval x=xv)
  (b:(Builtin.append_ ts o.type #[sv,xv]).run P w=.ok v w') (h:wpList P ops Q rest (a.put o.dst v) w'):wpList P ops Q (o::rest) a w:=by
 unfold wpList
 rw[if_pos e]
 exact .inl (yE c d f b h)
end
end Go
