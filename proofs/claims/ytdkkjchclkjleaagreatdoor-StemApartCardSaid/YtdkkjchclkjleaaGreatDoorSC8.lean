/- pool: a pool in memory. -/
import Derived.Shelf.Bits.Mul64
import Derived.Shelf.Spec.BitsCarry
import Derived.Laws.Externs
import Derived.Test.YtdkkjchclkjleaaGreatDoorSC7
import Derived.Test.YtdkkjchclkjleaaGreatDoorSC6
import Derived.Test.YtdkkjchclkjleaaGreatDoorSC1
import Derived.Test.YtdkkjchclkjleaaGreatDoorSC2
import Derived.Test.YtdkkjchclkjleaaGreatDoorSC3
import Derived.Test.YtdkkjchclkjleaaGreatDoorSC4
import Derived.Test.YtdkkjchclkjleaaGreatDoorSC5
set_option linter.unusedVariables false
set_option linter.unusedSimpArgs false
set_option linter.unnecessarySimpa false
set_option linter.all false
set_option maxRecDepth 20000
set_option maxHeartbeats 16000000
namespace Go.Proofs.YtdkkjchclkjleaaGreatDoor
open Go Go.RowKit Go.Maps Go.MapKept
open Go.Proofs.Tryz(prog)
open List(mem_map getElem?_eq_getElem mem_append mem_of_getElem? mem_cons length_map take_add_one take_length mem_filter length_take flatMap_append size_toArray not_mem_nil getElem_of_mem)
open Nat(le_refl zero_le)
theorem X7:prog.underlying 133=some (.map 41 129):=by kernel_rfl
theorem VQ:prog.underlying 134=some (.map 95 41):=by kernel_rfl
section
variable {P:Program} {w w':World} {o:Oper} {ev:Operand→Value} {t:TypeId} {x:Operand} {xv v:Value} {f:Nat}
theorem vT (a:o.op=.field t x f) (c:ev x=xv) (b:(Instr.field t xv f).run P w=.ok v w'):(execOp ev o).run P w=.ok (.value v) w':=by
 simp only[execOp,a,c,Sem.run_bind,b,Result.andThen_ok,Sem.run_pure]
end
theorem zjt (v:Int) (b e:Option Addr) (d c i h:Nat) (f s a:Int) (w:World):(Instr.field 129 (.agg #[.int .u32 v,.slice b d c,.slice e i h,.int .u64 f,.int .i64 s,.int .u64 a]) 0).run prog w=.ok (.agg #[.int .u32 v,.slice b d c,.slice e i h]) w:=by kernel_rfl
theorem zlY (v:Int) (b e:Option Addr) (d c i h:Nat) (f s a:Int) (w:World):(Instr.field 129 (.agg #[.int .u32 v,.slice b d c,.slice e i h,.int .u64 f,.int .i64 s,.int .u64 a]) 1).run prog w=.ok (.agg #[.int .u64 f,.int .i64 s]) w:=by kernel_rfl
theorem znG (v:Int) (b e:Option Addr) (d c i h:Nat) (f s a:Int) (w:World):(Instr.field 129 (.agg #[.int .u32 v,.slice b d c,.slice e i h,.int .u64 f,.int .i64 s,.int .u64 a]) 2).run prog w=.ok (.int .u64 a) w:=by kernel_rfl
theorem znH (v:Int) (d a:Option Addr) (h e c b:Nat) (w:World):(Instr.field 34 (.agg #[.int .u32 v,.slice d h e,.slice a c b]) 2).run prog w=.ok (.slice a c b) w:=by kernel_rfl
def Qu (cs:List Value):Value:=.agg cs.toArray
def zmx (tcs:List Value) (e:yb):List Value:=tcs++[.int .u64 e.fee,.int .i64 e.size,.int .u64 e.added]
def vx:List Value:=[.int .u32 0,.slice none 0 0,.slice none 0 0,.int .u64 0,.int .i64 0,.int .u64 0]
theorem VU (w:World):(zeroValue 129).run prog w=.ok (Qu vx) w:=by kernel_rfl
theorem zgP:∃d,prog.underlying 129=some d∧d.isRow=true:=vK (by kernel_rfl)
theorem qm:(prog.info? 129).map (·.size)=some 6:=by kernel_rfl
def zhj (w:World) (e:yb) (cs:List Value):Prop:=∃tcs,cs=zmx tcs e∧TxQ w e.tx tcs
theorem zhj.form {w:World} {e:yb} {cs:List Value} (h:zhj w e cs):∃a b c d,cs=[.int .u32 e.tx.ver,.slice a e.tx.ins.length b,.slice c e.tx.outs.length d,.int .u64 e.fee,.int .i64 e.size,.int .u64 e.added]:=by
 obtain⟨t,rfl,i⟩:=h
 obtain⟨a,b,c,d,rfl⟩:=i.form
 exact⟨a,b,c,d,rfl⟩
abbrev qK (w:World) (m:Nat) (M:List (zd×List Value)):Prop:=yD prog 41 xp Qu w m M
abbrev zaE (w:World) (m:Nat) (M:List (zF×zd)):Prop:=yD prog 95 j8 xp w m M
def poV (p ma ms:Nat) (VG:Nat→Prop):Nat→Prop:=λj=>j=p∨j=ma∨j=ms∨VG j
structure yn (w0 w:World) (p ma ms g:Nat) (VG X:Nat→Prop) (C:zd→List Value) (L:List yb) (N:Nat):Prop where
 obj:w.heap[p]? =some (.cells #[.map (some ma),.map (some ms),.pointer (some ⟨g,0,none⟩)] 137 (0,0))
 gr:GC w0 w g VG (gOf L) N
 am:∃M,qK w ma M∧∀x cs,(x,cs)∈M↔∃e∈L,e.id=x∧cs=C x
 sm:∃M,zaE w ms M∧∀q x,(q,x)∈M↔∃e∈L,q∈zW e.tx∧e.id=x
 data:∀e∈L,Kept X w (λw=>zhj w e (C e.id))
 apart:p≠ma∧p≠ms∧ma≠ms∧¬VG p∧¬VG ma∧¬VG ms
 lo3:w0.heap.size≤p∧w0.heap.size≤ma∧w0.heap.size≤ms
 sub:∀j,poV p ma ms VG j→X j
section
variable {w0 w w':World} {p ma ms g N:Nat} {VG X:Nat→Prop} {C:zd→List Value} {L:List yb}
theorem yn.fr (h:yn w0 w p ma ms g VG X C L N):Fr No w0 w:=h.gr.fr
theorem yn.lo (h:yn w0 w p ma ms g VG X C L N):∀j,poV p ma ms VG j→w0.heap.size≤j:=by
 obtain⟨a,b,c⟩:=h.lo3
 rintro j (rfl|rfl|rfl|hj)
 ·exact a
 ·exact b
 ·exact c
 ·exact h.gr.lo j hj
theorem yn.hi (h:yn w0 w p ma ms g VG X C L N):∀j,poV p ma ms VG j→j<w.heap.size:=by
 obtain⟨M,b,-⟩:=h.am
 obtain⟨M',a,-⟩:=h.sm
 rintro j (rfl|rfl|rfl|hj)
 ·exact yG h.obj
 ·exact b.lt
 ·exact a.lt
 ·exact h.gr.hi j hj
theorem yn.frV (h:yn w0 w p ma ms g VG X C L N) {U X':Nat→Prop} (f:Fr U w w') (a:∀j,poV p ma ms VG j→¬U j) (i:∀j,U j→w0.heap.size≤j) (c:∀j,U j→X j) (l:∀j,j<w.heap.size→X' j→X j) (r:∀j,poV p ma ms VG j→X' j):yn w0 w' p ma ms g VG X' C L N:=by
 obtain⟨M,k,q⟩:=h.am
 obtain⟨M',b,d⟩:=h.sm
 exact {h with
  obj:=f.obj h.obj (a _ (.inl rfl))
  gr:=h.gr.frV f (λj n=>a j (.inr (.inr (.inr n)))) i
  am:=⟨M,k.keep f (a _ (.inr (.inl rfl))),q⟩
  sm:=⟨M',b.keep f (a _ (.inr (.inr (.inl rfl)))),d⟩
  data:=λe m=>(h.data e m).step (f.mono c) l
  sub:=r}
theorem yn.fr0 (h:yn w0 w p ma ms g VG X C L N) (f:Fr No w w'):yn w0 w' p ma ms g VG X C L N:=
 h.frV f (λ_ _=>id) (λ_ h=>h.elim) (λ_ h=>h.elim) (λ_ _ h=>h) h.sub
theorem yn.mono (h:yn w0 w p ma ms g VG X C L N) {N':Nat} (a:N≤N'):yn w0 w p ma ms g VG X C L N':={h with gr:=h.gr.mono a}
theorem yn.cells (h:yn w0 w p ma ms g VG X C L N):w.cell? ⟨p,0,none⟩=some (.map (some ma))∧w.cell? ⟨p,1,none⟩=some (.map (some ms))∧w.cell? ⟨p,2,none⟩=some (.pointer (some ⟨g,0,none⟩)):=by
 have:=zq h.obj
 exact⟨by simpa using this 0 _ rfl,by simpa using this 1 _ rfl,by simpa using this 2 _ rfl⟩
theorem yn.ids (h:yn w0 w p ma ms g VG X C L N):∀x∈xq L,zX x:=λx a=>h.gr.okId x (by rw[vn];exact a)
theorem yn.nd (h:yn w0 w p ma ms g VG X C L N):(xq L).Nodup:=by rw[←vn];exact h.gr.gok.nd
theorem yn.len (h:yn w0 w p ma ms g VG X C L N):L.length≤N:=by have:=h.gr.len;simpa[gOf] using this
def YH (C:zd→List Value) (L:List yb) (x:zd):List Value:=if x∈xq L then C x else vx
theorem zbN {x:zd} (k:zX x) {M:List (zd×List Value)} (i:qK w ma M) (j:∀x cs,(x,cs)∈M↔∃e∈L,e.id=x∧cs=C x) (c:Bool):
  (Instr.lookup 133 (.map (some ma)) (.agg (zf x).toArray) c).run prog w=.ok (if c then .tuple #[.agg (YH C L x).toArray,.bool (decide (x∈xq L))] else .agg (YH C L x).toArray) w:=by
 have h:=i.look xT.keyed X7 (λ_ _=>yY) VU (yq k) c (r:=if x∈xq L then some (C x) else none) (λv=>by
  rw[j]
  by_cases h:x∈xq L
  ·rw[if_pos h]
   obtain⟨e,b,hi⟩:=mem_map.1 h
   exact⟨λa=>⟨e,b,hi,(Option.some.inj a).symm⟩,λ⟨_,_,_,d⟩=>by rw[d]⟩
  ·rw[if_neg h]
   exact⟨λa=>(by cases a),λ⟨e,b,hi,_⟩=>absurd (mem_map.2 ⟨e,b,hi⟩) h⟩)
 unfold xp at h
 rw[h]
 unfold YH
 by_cases hh:x∈xq L<;>simp[hh,Qu]
theorem Ys {x:zd} (d:zX x) {M:List (zd×List Value)} (a:qK w ma M) (c:∀x cs,(x,cs)∈M↔∃e∈L,e.id=x∧cs=C x) {cs:List Value} (b:YH C L x=cs):
  (Instr.lookup 133 (.map (some ma)) (.agg (zf x).toArray) false).run prog w=.ok (.agg cs.toArray) w:=by
 have:=zbN d a c false
 rw[b] at this
 simpa using this
def ziv (L:List yb) (q:zF):zd:=((L.find? λe=>decide (q∈zW e.tx)).map (·.id)).getD yO
theorem zlw {L:List yb} (a:∀x∈xq L,zX x) (q:zF):zX (ziv L q):=by
 unfold ziv
 cases hf:L.find? λe=>decide (q∈zW e.tx) with
 |none=>exact xO
 |some e=>exact a _ (mem_map.2 ⟨e,List.mem_of_find?_eq_some hf,rfl⟩)
theorem zk5 {q:zF} (m:q.ok) {M:List (zF×zd)} (k:zaE w ms M) (l:∀q x,(q,x)∈M↔∃e∈L,q∈zW e.tx∧e.id=x):
  (Instr.lookup 134 (.map (some ms)) (.agg (zn q).toArray) true).run prog w=.ok (.tuple #[.agg (zf (ziv L q)).toArray,.bool (qf L q)]) w:=by
 cases hf:L.find? λe=>decide (q∈zW e.tx) with
 |some e=>
  have c:=List.mem_of_find?_eq_some hf
  have a:q∈zW e.tx:=by simpa using List.find?_some hf
  have d:(q,e.id)∈M:=(l q e.id).2 ⟨e,c,a,rfl⟩
  have h:=k.look Jf.keyed VQ (λ_ _=>vr) yR (xP m) true (r:=some e.id) (λv=>⟨λi=>by rw[←Option.some.inj i];exact d,λj=>by rw[k.uniq d j]⟩)
  have n:qf L q=true:=Jl.2 ⟨e,c,a⟩
  unfold j8 at h
  rw[h,n]
  unfold ziv
  rw[hf]
  rfl
 |none=>
  have b:qf L q=false:=by
   cases hc:qf L q with
   |false=>rfl
   |true=>
    obtain⟨e,c,a⟩:=Jl.1 hc
    have:=List.find?_eq_none.1 hf e c
    simp[a] at this
  have h:=k.look Jf.keyed VQ (λ_ _=>vr) yR (xP m) true (r:=none) (λv=>⟨λi=>(by cases i),λj=>by
   obtain⟨e,c,a,_⟩:=(l q v).1 j
   rw[Jl.2 ⟨e,c,a⟩] at b
   cases b⟩)
  unfold j8 at h
  rw[h,b]
  unfold ziv
  rw[hf]
  rfl
end
section
variable {w0 w:World} {p ma ms g N:Nat} {VG X:Nat→Prop} {C:zd→List Value} {L:List yb}
theorem JV:∀v∈vx,v.oneCell'=true:=by
 intro v a
 simp only[vx,mem_cons,not_mem_nil,or_false] at a
 rcases a with rfl|rfl|rfl|rfl|rfl|rfl<;>rfl
theorem zhj.one {w:World} {e:yb} {cs:List Value} (h:zhj w e cs):cs.length=6∧∀v∈cs,v.oneCell'=true:=by
 obtain⟨b,c,d,f,rfl⟩:=h.form
 refine⟨rfl,λv a=>?_⟩
 simp only[mem_cons,not_mem_nil,or_false] at a
 rcases a with rfl|rfl|rfl|rfl|rfl|rfl<;>rfl
theorem zek (h:yn w0 w p ma ms g VG X C L N) (x:zd):(YH C L x).length=6∧∀v∈YH C L x,v.oneCell'=true:=by
 unfold YH
 split
 ·rename_i hx
  obtain⟨e,a,rfl⟩:=mem_map.1 hx
  exact(h.data e a).now.one
 ·exact⟨rfl,JV⟩
theorem zg7 (h:yn w0 w p ma ms g VG X C L N) {q:zF} (m:q.ok):Calls prog 75 #[.pointer (some ⟨p,0,none⟩),.agg (zn q).toArray] w λe w'=>e=.returned (.bool (qf L q))∧Fr No w w':=by
 obtain⟨M,k,l⟩:=h.sm
 have c:Fr No w (w.alloc (.cells (zn q).toArray 95)):=(frN w).alloc _
 have i:=(h.fr0 c).cells.2.1
 have d:=J (k.keep c id)
 have f:=J (zy w (zn q) 95)
 have u:=J (zY m)
 have B:=yR
 have s:=J (λw' (h':zaE w' ms M)=>zk5 (w:=w') m h' l)
 have o:=J c
 have j:=J (zx (zlw h.ids q))
 generalize qf L q=b at*
 generalize ziv L q=y at*
 clear h k c l
 go_enter Tryz.func75,Tryz.ntmps75
 go_wp2_with fail
 generalize v:w.heap.size=n at*
 generalize w.alloc (.cells (zn q).toArray 95)=a at*
 refine wrLx [ff,ff,ff,ff,ff,ff,ff,ff,ff,tt,tt,ff] (λw'=>w'.cell? ⟨p,1,none⟩=some (.map (some ms))∧w'.rangeAt n 0 (zn q)∧zaE w' ms M) ?_ (λK hK=>?_)
 ·exact⟨(frN _).drew.cell i id,za f.o (frN _).drew id,d.o.keep (frN _).drew id⟩
 repeat((first|(refine zj rfl ?_;constructor;constructor;(focus(first|exact zn6 rfl (λw h=>h.2.1) u.o|exact λw' h=>zQ (t:=134) rfl rfl rfl (s.o w' h.2.2)|(rintro w' ⟨x,z,A⟩;go_simp;(try with_reducible rfl);done))))|(refine zl rfl ?_));try simp only[Act.put,pA,pB,pC])
 (refine zE rfl (λK' hK'=>?_))
 refine yj (yA rfl (yR _)) ?_
 refine nXt hK' ?_ λhS=>?_
 ·exact⟨(((frN a).drew).alloc _).cell i id,za f.o (((frN a).drew).alloc _) id,d.o.keep (((frN a).drew).alloc _) id⟩
 try simp only[Act.put,pA,pB,pC]
 (refine zE rfl (λK' hK'=>?_))
 refine yN (zm (w:=a.drew) (ty:=41) (cs:=zf y) rfl rfl rfl (by rw[j.o];rfl) (by rw[j.o];exact yp) zS) ?_
 refine nXt hK' ?_ λhS=>?_
 ·exact⟨(((frN a).drew).alloc _).cell i id,za f.o (((frN a).drew).alloc _) id,d.o.keep (((frN a).drew).alloc _) id⟩
 try simp only[Act.put]
 repeat((first|(refine zj rfl ?_;constructor;constructor;(focus(first|(rintro w' -;go_simp;(try with_reducible rfl);done))))|(refine zl rfl ?_));try simp only[Act.put,pA,pB,pC])
 refine zL (hK.out _ _ ?_)
 have r:=J ((o.o.drew.alloc (.cells (zf y).toArray 41)))
 go_wp2_with fail
 go_ret
 exact⟨rfl,r.o⟩
theorem zeD (h:yn w0 w p ma ms g VG X C L N) {x:zd} (q:zX x):Calls prog 99 #[.pointer (some ⟨p,0,none⟩),.agg (zf x).toArray] w λe w'=>e=.returned (.bool (decide (x∈xq L)))∧Fr No w w':=by
 obtain⟨M,m,o⟩:=h.am
 have c:Fr No w (w.alloc (.cells (zf x).toArray 41)):=(frN w).alloc _
 have j:=(h.fr0 c).cells.1
 have f:=J (m.keep c id)
 have i:=J (zy w (zf x) 41)
 have z:=J (zx q)
 have l:=J (λw' (h':qK w' ma M)=>zbN (w:=w') q h' o true)
 have r:=J c
 obtain⟨y,d⟩:∃y,YH C L x=y∧y.length=6∧∀v∈y,v.oneCell'=true:=⟨_,rfl,zek h x⟩
 have k:=J d.2.1
 have u:=J d.2.2
 rw[d.1] at l
 generalize decide (x∈xq L)=b at*
 clear h m c o d
 go_enter Tryz.func99,Tryz.ntmps99
 go_wp2_with fail
 generalize A:w.heap.size=n at*
 generalize w.alloc (.cells (zf x).toArray 41)=a at*
 refine wrLx [ff,ff,ff,ff,ff,ff,ff,ff,ff,tt,tt,ff] (λw'=>w'.cell? ⟨p,0,none⟩=some (.map (some ma))∧w'.rangeAt n 0 (zf x)∧qK w' ma M) ?_ (λK hK=>?_)
 ·exact⟨(frN _).drew.cell j id,za i.o (frN _).drew id,f.o.keep (frN _).drew id⟩
 repeat((first|(refine zj rfl ?_;constructor;constructor;(focus(first|exact zn7 rfl (λw h=>h.2.1) z.o|exact λw' h=>zQ (t:=133) rfl rfl rfl (l.o w' h.2.2)|(rintro w' ⟨B,D,E⟩;go_simp;(try with_reducible rfl);done))))|(refine zl rfl ?_));try simp only[Act.put,pA,pB,pC])
 (refine zE rfl (λK' hK'=>?_))
 refine yj (yA rfl (VU _)) ?_
 refine nXt hK' ?_ λhS=>?_
 ·exact⟨(((frN a).drew).alloc _).cell j id,za i.o (((frN a).drew).alloc _) id,f.o.keep (((frN a).drew).alloc _) id⟩
 try simp only[Act.put,pA,pB,pC]
 (refine zE rfl (λK' hK'=>?_))
 refine yN (zm (w:=a.drew) (ty:=129) (cs:=y) rfl rfl rfl (by rw[k.o];rfl) (by rw[k.o];exact qm) u.o) ?_
 refine nXt hK' ?_ λhS=>?_
 ·exact⟨(((frN a).drew).alloc _).cell j id,za i.o (((frN a).drew).alloc _) id,f.o.keep (((frN a).drew).alloc _) id⟩
 try simp only[Act.put]
 repeat((first|(refine zj rfl ?_;constructor;constructor;(focus(first|(rintro w' -;go_simp;(try with_reducible rfl);done))))|(refine zl rfl ?_));try simp only[Act.put,pA,pB,pC])
 refine zL (hK.out _ _ ?_)
 have s:=J ((r.o.drew.alloc (.cells y.toArray 129)))
 go_wp2_with fail
 go_ret
 exact⟨rfl,s.o⟩
def Qj (L:List yb) (x:zd):List yE:=((Vg L x).map (·.tx.outs)).getD []
theorem zfZ (L:List yb) (q:zF):xw L q=(Qj L q.tx)[q.n.toNat]? :=by
 unfold xw Qj
 cases Vg L q.tx with
 |none=>rfl
 |some e=>rfl
theorem QR {n:Nat} (h:n≤maxLen):IntKind.u64.wrap (n:Int)=n:=by
 unfold maxLen at h
 simp[IntKind.wrap,IntKind.signed,IntKind.bits]
 omega
theorem zbQ (w:World):xy w (.slice none 0 0) []:=⟨by simp,.inl (.inl ⟨rfl,rfl,rfl⟩)⟩
theorem zht (h:yn w0 w p ma ms g VG X C L N) (x:zd):∃v i n j b c f s a,YH C L x=[.int .u32 v,.slice i n j,.slice b (Qj L x).length c,.int .u64 f,.int .i64 s,.int .u64 a]∧xy w (.slice b (Qj L x).length c) (Qj L x):=by
 unfold YH
 by_cases hx:x∈xq L
 ·rw[if_pos hx]
  obtain⟨e,k,rfl⟩:=mem_map.1 hx
  have d:Qj L e.id=e.tx.outs:=by unfold Qj;rw[zes h.nd k];rfl
  obtain⟨t,l,i,j,b,c,rfl,-,-,m⟩:=(h.data e k).now
  rw[d,l]
  exact⟨e.tx.ver,i,_,j,b,c,e.fee,e.size,e.added,rfl,m⟩
 ·rw[if_neg hx]
  have d:Qj L x=[]:=by unfold Qj;rw[zhH.2 hx];rfl
  rw[d]
  exact⟨0,none,0,0,none,0,0,0,0,rfl,zbQ w⟩
theorem zgJ (w:World):(Instr.build 103 #[]).run prog w=.ok (.agg (zJ y6).toArray) w:=by kernel_rfl
theorem zjr (h:yn w0 w p ma ms g VG X C L N) {q:zF} (y:q.ok):Calls prog 127 #[.pointer (some ⟨p,0,none⟩),.agg (zn q).toArray] w λe w'=>e=.returned (.tuple #[.agg (zJ ((xw L q).getD y6)).toArray,.bool (xw L q).isSome])∧Fr No w w':=by
 obtain⟨dH,uH,rH⟩:=Zx
 obtain⟨dO,uO,rO⟩:=Z0
 obtain⟨M,Y,hm⟩:=h.am
 have zo:=xm
 have m:Fr No w ((w.alloc (.cells (zn q).toArray 95)).alloc (.cells (zJ y6).toArray 103)):=((frN w).alloc _).alloc _
 have W:=(h.fr0 m).cells.1
 have T:=J (Y.keep m id)
 have G:=J (za (zy w (zn q) 95) ((frN _).alloc (.cells (zJ y6).toArray 103)) id)
 have j:=J (yL (w.alloc (.cells (zn q).toArray 95)) (.cells (zJ y6).toArray 103) (n:=w.heap.size+1) (by simp))
 have QL:=J (zx y.1)
 have l:=J y
 have S:=J m
 obtain⟨v,ia,il,ic,oa,oc,f,s,a,Z,Q⟩:=zht h q.tx
 have V:=J (λw' (h':qK w' ma M)=>Ys (w:=w') y.1 h' hm Z)
 have U:=J (Q.keep (m.drew))
 have r:=Q.2.len
 have u:=y.2.1
 have I:=y.2.2
 rw[zfZ]
 generalize Qj L q.tx=O at*
 clear h Y m hm Z Q
 go_enter Tryz.func127,Tryz.ntmps127
 go_wp2_with fail
 generalize ab:w.heap.size=n at*
 generalize (w.alloc (.cells (zn q).toArray 95)).alloc (.cells (zJ y6).toArray 103)=R at*
 refine wrLx [ff,ff,ff,ff,ff,ff,ff,ff,ff,ff] (λw'=>w'.cell? ⟨p,0,none⟩=some (.map (some ma))∧w'.rangeAt n 0 (zn q)∧qK w' ma M) ?_ (λK hK=>?_)
 ·exact⟨(frN _).drew.cell W id,za G.o (frN _).drew id,T.o.keep (frN _).drew id⟩
 repeat((first|(refine zj rfl ?_;constructor;constructor;(focus(first|exact yK (ty:=41) rfl (λw h=>(zaQ h.2.1 l.o).1) uH rH (by have:=QL.o;unfold zf at this;rw[this];exact yp)|exact λw' h=>zQ (t:=133) rfl rfl rfl (V.o w' h.2.2)|exact λw' _=>vT (t:=129) (f:=0) rfl rfl (zjt v ia oa il ic O.length oc f s a w')|exact λw' _=>vT (t:=34) (f:=2) rfl rfl (znH v ia oa il ic O.length oc w')|(rintro w' ⟨s1,s2,s3⟩;go_simp;(try with_reducible rfl);done))))|(refine zl rfl ?_));try simp only[Act.put,pA,pB,pC])
 refine zL (hK.out _ _ ?_)
 have H:R.drew.cell? ⟨n,32,none⟩=some (.int .u32 q.n):=by
  have:=(zaQ (za G.o (frN R).drew id) l.o).2
  simpa using this
 have z:=J ((frN R).drew.obj j.o id)
 clear W G T V j
 by_cases A:q.n.toNat<O.length
 ·have i1:¬(O.length:Int)≤q.n:=by omega
  obtain⟨o,d⟩:∃o,O[q.n.toNat]? =some o:=⟨_,getElem?_eq_getElem A⟩
  obtain⟨b,off,aa,e,B,-⟩:=U.o.at_ d
  injection e with e1 e2 e3
  subst e1
  subst e3
  have OK:=J (U.o.1 o (mem_of_getElem? d))
  have c:=J (yr OK.o)
  obtain⟨k,hk⟩:∃k:Nat,q.n=(k:Int):=Int.eq_ofNat_of_zero_le u
  have D:=J d
  rw[hk] at i1 A B H I
  simp only[Int.toNat_natCast] at A B
  have i2:(k:Int)<IntKind.u64.wrap (O.length:Int):=by rw[QR r];omega
  have R1:=J B
  clear B d u hk
  have⟨E,F⟩:=tZ2
  go_wp2_with ((first|((with_reducible refine zt ?_);clear E;with_reducible refine yt 31 ?_;refine zn2 rfl rfl rfl R1.o c.o ?_)|((with_reducible refine zv ?_);clear F;refine zi rfl (zK (ty:=103) (b:=n+1) (off:=0) (cs:=zJ o) rfl rfl rfl (by rw[c.o];exact zV z.o (Nat.le_of_eq yu.symm)) (by rw[c.o];exact yz) yc) ?_));go_frame)
  refine bodyPost_ret (yk (P:=prog) (fn:=Tryz.f127) rfl _ rfl (yv z.o (by rw[c.o];exact yu)) uO rO (by rw[c.o];exact yz) rfl) rfl ⟨by rw[D.o];rfl,?_⟩
  exact(S.o.drew).trans (zu _ _ _ _) (λi hi e=>by omega)
 ·have i1:(O.length:Int)≤q.n:=by omega
  have x:O[q.n.toNat]? =none:=List.getElem?_eq_none (by omega)
  have D:=J x
  have c:=J (yr Zm)
  clear x A
  have⟨E,F⟩:=tZ2
  go_wp2_with ((first|((with_reducible refine zt ?_);clear E;with_reducible refine yt 26 ?_;refine zg rfl (yf (t:=103) rfl rfl (zgJ _)) ?_)|((with_reducible refine zv ?_);clear F;refine zi rfl (zK (ty:=103) (b:=n+1) (off:=0) (cs:=zJ y6) rfl rfl rfl (by rw[c.o];exact zV z.o (Nat.le_of_eq yu.symm)) (by rw[c.o];exact yz) yc) ?_));go_frame)
  refine bodyPost_ret (yk (P:=prog) (fn:=Tryz.f127) rfl _ rfl (yv z.o (by rw[c.o];exact yu)) uO rO (by rw[c.o];exact yz) rfl) rfl ⟨by rw[D.o];rfl,?_⟩
  exact(S.o.drew).trans (zu _ _ _ _) (λi hi e=>by omega)
end
theorem zh8 {L:List yb} {t:TxD} {n:Nat} {q:zF} (h:(zW t)[n]? =some q):(((zW t).take (n+1)).filter λq=>(xw L q).isSome).map (·.tx)=(((zW t).take n).filter λq=>(xw L q).isSome).map (·.tx)++(if(xw L q).isSome=true then[q.tx] else[]):=by
 rw[take_add_one,h]
 by_cases hs:(xw L q).isSome=true
 ·simp[List.filter_append,hs]
 ·simp[List.filter_append,hs]
def vX (L:List yb) (t:TxD) (n:Nat):List zd:=(((zW t).take n).filter λq=>(xw L q).isSome).map (·.tx)
def zb1 (S:List zr) (L:List yb) (t:TxD) (n:Nat):List yE:=((zW t).take n).map λq=>(qQ S L q).getD y6
theorem zjW (L:List yb) (t:TxD) (n:Nat):(vX L t n).length≤n:=by
 unfold vX
 rw[length_map]
 have a:=List.length_filter_le (λq=>(xw L q).isSome) ((zW t).take n)
 have b:((zW t).take n).length≤n:=by rw[length_take];omega
 omega
theorem zfa (S:List zr) (L:List yb) (t:TxD) {n:Nat} (h:n≤t.ins.length):(zb1 S L t n).length=n:=by
 unfold zb1
 rw[length_map,length_take,vJ]
 omega
def V2 (w:World) (S:List zr) (L:List yb) (t:TxD) (e:Ending) (w':World):Prop:=
 ∃ov pv,e=.returned (.tuple #[ov,pv,.int .i64 (JZ S L t)])∧Fr No w w'∧(JZ S L t=0→xy w' ov (xR S L t)∧w'.ownsRow w.heap.size 41 32 pv (xE L t).length ((xE L t).flatMap zf))
theorem V2.bad {w w':World} {S:List zr} {L:List yb} {t:TxD} {c:Int} (h:JZ S L t=c) (d:c≠0) (f:Fr No w w') (a b:Value):V2 w S L t (.returned (.tuple #[a,b,.int .i64 c])) w':=
 ⟨a,b,by rw[h],f,λe=>absurd (h.symm.trans e) d⟩
theorem Yp {L:List yb} (h:∀e∈L,∀x∈e.tx.outs,x.ok) (q:zF):((xw L q).getD y6).ok:=by
 cases hf:xw L q with
 |none=>exact Zm
 |some o=>
  obtain⟨e,a,-,b⟩:=zbv hf
  exact h e a o (mem_of_getElem? b)
theorem yn.outs_ok {w0 w:World} {p ma ms g N:Nat} {VG X:Nat→Prop} {C:zd→List Value} {L:List yb} (h:yn w0 w p ma ms g VG X C L N):∀e∈L,∀x∈e.tx.outs,x.ok:=λe a=>by
 obtain⟨t,-,b⟩:=(h.data e a).now
 exact b.oks.2
section
variable {w0 w:World} {p ma ms g N:Nat} {VG X:Nat→Prop} {C:zd→List Value} {L:List yb}
theorem QJ (h:yn w0 w p ma ms g VG X C L N) {w1:World} {pc:Nat} {VC:Nat→Prop} {S:List zr} {bs:List yx} {I:List zd} (hc:Cn w1 w pc VC S bs I) (hS:∀c∈S,c.ok) {t:TxD} {cs:List Value} (ht:TxQ w t cs) (hN:t.ins.length≤1000):
  Calls prog 86 #[.pointer (some ⟨p,0,none⟩),.pointer (some ⟨pc,0,none⟩),.agg cs.toArray] w (V2 w S L t):=by
 obtain⟨dH,uH,rH⟩:=Zx
 have zo:=xm
 have zp:=vO
 have ai:=J (vJ t)
 have aL:=@J (∀q∈zW t,q.ok) (λq hq=>by obtain⟨x,hx,rfl⟩:=mem_map.1 hq;exact ht.oks.1 x hx)
 obtain⟨ia,ic,oa,oc,rfl⟩:=ht.form
 have F1:=J ((frN w).alloc (.cells #[.int .u32 t.ver,.slice ia t.ins.length ic,.slice oa t.outs.length oc] 34))
 have R0:=J (qN w t.ver (.slice ia t.ins.length ic) (.slice oa t.outs.length oc)).2.2.2
 have HP:=J (vY _ (ht.keep F1.o) hN)
 have bb:=J (λw' (f:Fr No w w') (q:zF) (hq:q.ok)=>zg7 (h.fr0 f) hq)
 have a8:=J (λw' (f:Fr No w w') (q:zF) (hq:q.ok)=>zjr (h.fr0 f) hq)
 have a7:=J (λw' (f:Fr No w w') (q:zF) (hq:q.ok)=>zcJ (hc.fr0 f) hq)
 have XP:=J (λq=>Yp h.outs_ok q)
 have XC:=J (λq=>vH hS q)
 clear h hc ht hS
 show Calls prog 86 #[.pointer (some ⟨p,0,none⟩),.pointer (some ⟨pc,0,none⟩),.agg #[.int .u32 t.ver,.slice ia t.ins.length ic,.slice oa t.outs.length oc]] w _
 go_enter Tryz.func86,Tryz.ntmps86
 have⟨K0,K1⟩:=tZ2
 go_wp2_with ((first|((with_reducible refine zt ?_);clear K0;refine zn1 rfl rfl rfl R0.o rfl ?_)|(clear K1;go_at_call 33;refine HP.o.mono ?_;rintro e w2 ⟨v,rfl,ho,f2⟩;obtain⟨va,vc,hv⟩:=ho.slice.arg.form;subst hv;have F2:=J (F1.o.trans0 f2);have O2:=J ho;clear ho f2));go_frame)
 have aV:=@J (xN w2 (.slice va t.ins.length vc) (zW t)) (⟨aL.o,by rw[ai.o];exact O2.o.slice.arg⟩)
 go_loopw [6,7,22] (λov pv iv wr=>∃n:Nat,ov=.slice none 0 0∧pv=.slice none 0 0∧iv=.int .i64 n∧n≤t.ins.length∧(∀q∈(zW t).take n,qf L q=false)∧Fr No w2 wr) (λ_ _ iv _=>t.ins.length-(intOf iv).toNat)
 case atStart=>exact⟨0,rfl,rfl,rfl,zero_le _,by simp,Fr.refl _ _⟩
 case round=>
  obtain⟨n,rfl,rfl,rfl,hn,aE,fr⟩:=hrel
  have V:=J fr
  have AL:=J aE
  clear fr aE
  by_cases hlt:n<t.ins.length
  ·have i1:(n:Int)<(t.ins.length:Int):=by omega
   obtain⟨q,hx⟩:∃q,(zW t)[n]? =some q:=⟨_,getElem?_eq_getElem (by rw[ai.o];exact hlt)⟩
   have HX:=J hx
   have M:=J (aL.o q (mem_of_getElem? hx))
   obtain⟨b,off,bg,e,hr,-⟩:=(aV.o.keep V.o).at_ hx
   injection e with e1 e2 e3
   subst e1
   have R1:=J hr
   have o:=J (zY M.o)
   have RN:=J (zy wr (zn q) 95)
   have FA:=J (V.o.alloc (.cells (zn q).toArray 95))
   have aG:=J (bb.o _ (F2.o.trans0 FA.o) q M.o)
   clear hr hx e2 e3
   by_cases hs:qf L q=true
   ·have PE:=@J (JZ S L t=14) (by
     unfold JZ
     rw[if_pos (List.any_eq_true.2 ⟨q,mem_of_getElem? HX.o,hs⟩)])
    rw[hs] at aG
    clear hs
    have⟨K0,K1,K2,K3⟩:=tZ4
    go_wp2_with ((first|((with_reducible refine zt ?_);first|(clear K0;refine zn4 rfl rfl rfl R1.o o.o ?_)|(clear K2;refine zn4 rfl rfl rfl RN.o o.o ?_))|((with_reducible refine zv ?_);clear K1;refine zi rfl (zm (w:=wr) (cs:=zn q) (ty:=95) rfl rfl rfl (by rw[o.o];rfl) (by rw[o.o];exact xL) yI) ?_)|(clear K3;go_at_call 75;refine aG.o.mono ?_;rintro e w4 ⟨rfl,f4⟩;have F4:=J f4;clear f4));go_frame)
    go_ret3
    exact V2.bad PE.o (by decide) ((F2.o.trans0 FA.o).trans0 F4.o) _ _
   ·have aR:qf L q=false:=by simpa using hs
    have ab:=@J (∀q∈(zW t).take (n+1),qf L q=false) (λy l=>by
     rw[take_add_one,HX.o] at l
     rcases mem_append.1 l with l|l
     ·exact AL.o y l
     ·simp at l;subst l;exact aR)
    rw[aR] at aG
    clear hs aR
    have⟨K0,K1,K2,K3⟩:=tZ4
    go_wp2_with ((first|((with_reducible refine zt ?_);first|(clear K0;refine zn4 rfl rfl rfl R1.o o.o ?_)|(clear K2;refine zn4 rfl rfl rfl RN.o o.o ?_))|((with_reducible refine zv ?_);clear K1;refine zi rfl (zm (w:=wr) (cs:=zn q) (ty:=95) rfl rfl rfl (by rw[o.o];rfl) (by rw[o.o];exact xL) yI) ?_)|(clear K3;go_at_call 75;refine aG.o.mono ?_;rintro e w4 ⟨rfl,f4⟩;have F4:=J f4;clear f4));go_frame)
    go_roundw
    case rel=>exact⟨n+1,rfl,rfl,by go_num,by omega,ab.o,FA.o.trans0 F4.o⟩
    case measure=>simp[intOf];omega
  ·have ao:n=t.ins.length:=by omega
   have i1:¬(n:Int)<(t.ins.length:Int):=by omega
   have aT:=@J (∀q∈zW t,qf L q=false) (λq hq=>AL.o q (by rw[ao,←ai.o,take_length];exact hq))
   have af:=J (F2.o.trans0 V.o)
   have ba:=J (aV.o.keep V.o)
   clear ao AL hlt hn
   go_wp2_with fail
   generalize wr=G at*
   go_loopw [6,7,32] (λov pv iv F=>∃n:Nat,iv=.int .i64 n∧n≤t.ins.length∧(∀q∈(zW t).take n,(qQ S L q).isSome=true)∧∃oa oc pa pc,ov=.slice oa n oc∧pv=.slice pa (vX L t n).length pc∧F.ownsRow G.heap.size 103 33 (.slice oa n oc) n ((zb1 S L t n).flatMap zJ)∧F.ownsRow G.heap.size 41 32 (.slice pa (vX L t n).length pc) (vX L t n).length ((vX L t n).flatMap zf)∧(∀j,(Value.slice oa n oc).ownBlock=some j→(Value.slice pa (vX L t n).length pc).ownBlock=some j→False)∧Fr No G F) (λ_ _ iv _=>t.ins.length-(intOf iv).toNat)
   case atStart=>exact⟨0,rfl,zero_le _,by simp,none,0,none,0,rfl,rfl,World.ownsRow_nil _ _ _ _,World.ownsRow_nil _ _ _ _,λj h _=>(by cases h),Fr.refl _ _⟩
   case round=>
    obtain⟨n,rfl,hn,aE,Q,R,pa,av,rfl,rfl,aY,aZ,aX,fr⟩:=hrel
    rename World=>F
    have V:=J fr
    have AL:=J aE
    have OO:=J aY
    have PP:=J aZ
    have DS:=J aX
    have aH:=J (zjW L t n)
    clear fr aE aY aZ aX
    by_cases hlt:n<t.ins.length
    ·have i1:(n:Int)<(t.ins.length:Int):=by omega
     obtain⟨q,hx⟩:∃q,(zW t)[n]? =some q:=⟨_,getElem?_eq_getElem (by rw[ai.o];exact hlt)⟩
     have HX:=J hx
     have M:=J (aL.o q (mem_of_getElem? hx))
     obtain⟨b,off,bg,e,hr,-⟩:=(ba.o.keep V.o).at_ hx
     injection e with e1 e2 e3
     subst e1
     have R1:=J hr
     have o:=J (zY M.o)
     have HL:=J (zx M.o.1)
     have RN:=J (zy F (zn q) 95)
     have FA:=J ((frN F).alloc (.cells (zn q).toArray 95))
     have ag:=J (af.o.trans0 (V.o.trans0 FA.o))
     have Y:=J (a8.o _ ag.o q M.o)
     have m:=J (yr (XP.o q))
     have a:=J (yr (XC.o q))
     have aN:=J (zh8 (L:=L) HX.o)
     have aM:=@J (zb1 S L t (n+1)=zb1 S L t n++[(qQ S L q).getD y6]) (by unfold zb1;rw[take_add_one,HX.o];simp)
     have aW:=J (zfa S L t hn)
     have z:=J (λw' (f:Fr No w w')=>a7.o w' f q M.o)
     have LK:=@J (qQ S L q=if xK S q=true then some (yg S q) else xw L q) (rfl)
     clear hr hx e2 e3
     by_cases hm:(xw L q).isSome=true
     ·by_cases hk:xK S q=true
      ·skip
       have HM:=J hm
       have HK:=J hk
       rw[hm] at Y
       rw[hk] at z
       clear hm hk
       have⟨K0,K1,K2,K3,K4,K5,K6,K7,K8,K9,aA,aB,aC,aK,bc,bd⟩:=tZ16
       go_wp2_with ((first|((with_reducible refine zt ?_);first|(clear K0;refine zn4 rfl rfl rfl R1.o o.o ?_)|(clear K2;refine zn4 rfl rfl rfl RN.o o.o ?_)|(clear K5;with_reducible refine yt 45 ?_;refine zg rfl (zZ (ty:=41) rfl rfl (zaQ O.o M.o).1 uH rH (by have:=HL.o;unfold zf at this;rw[this];exact yp)) ?_)|(clear K6;refine zg rfl (zU (t:=38) rfl rfl qi vU rfl (by decide) (by decide) HL.o) ?_)|(clear K7;at_builtin;refine zR rfl rfl rfl rfl A1.o ?_;have K:=@J (Fr No w w5) ((ag.o.trans0 (H.o.trans0 FB.o)).trans A3.o (λi hi e=>by have:=(NP.o _ e).2;have:=af.o.size;omega));have ah:=J (z.o _ K.o))|(clear K8;with_reducible refine yt 50 ?_;refine zn4 rfl rfl rfl aO.o o.o ?_)|(clear aB;with_reducible refine yt 55 ?_;refine zn2 rfl rfl rfl aD.o a.o ?_)|(clear aK;with_reducible refine yt 59 ?_;refine zn2 rfl rfl rfl RF.o a.o ?_)|(clear bc;refine zg rfl (zU (t:=22) rfl rfl qO Jo (by rw[←yu];rfl) (by decide) (by decide) a.o) ?_)|(clear bd;at_builtin;refine zR rfl rfl rfl rfl B1.o ?_))|((with_reducible refine zv ?_);first|(clear K1;refine zi rfl (zm (w:=F) (cs:=zn q) (ty:=95) rfl rfl rfl (by rw[o.o];rfl) (by rw[o.o];exact xL) yI) ?_;generalize aq:F.heap.size=qb at*;generalize B:F.alloc (.cells (zn q).toArray 95)=wa at*)|(clear K4;refine zi rfl (zm (w:=u) (cs:=zJ ((xw L q).getD y6)) (ty:=103) rfl rfl rfl (by rw[m.o];rfl) (by rw[m.o];exact yz) yc) ?_;generalize ar:u.heap.size=r at*;generalize D:u.alloc (.cells (zJ ((xw L q).getD y6)).toArray 103)=w4 at*;have Z4:=@J (r<w4.heap.size) (by rw[←D,←ar];simp);have ZQ:=@J (qb<r) (by have:=ZA.o;have:=H.o.size;omega);clear D;obtain⟨v5,w5,a1,a2,a3,-,a5⟩:=yX (P:=prog) w4 G.heap.size 38 38 41 32 32 _ qi qI rfl (by decide) (zb PP.o k.o (λ_ _=>id)) (zf q.tx) HL.o zS (by have:=aH.o;omega) (by have:=aH.o;unfold maxLen;omega) (by have:=V.o.size;have:=k.o.size;omega);obtain⟨T,U,aS⟩:=a2.slice.arg.form;subst aS;have A1:=J a1;have A2:=J a2;have A3:=J a3;have A5:=J a5;clear a1 a2 a3 a5;have NP:=@J (∀j,(Value.slice pa (vX L t n).length av).ownBlock=some j→j<F.heap.size∧G.heap.size≤j) (λj d=>⟨(PP.o.lt j d).2,(PP.o.lt j d).1⟩);have aO:=J (za O.o A3.o (λe=>by have:=(NP.o _ e).1;omega));have aP:=J (za al.o A3.o (λe=>by have:=(NP.o _ e).1;have:=ZQ.o;omega));have aJ:=J (A3.o.obj BO.o (λe=>by have:=(NP.o _ e).1;have:=ZQ.o;omega)))|(clear aA;refine zi rfl (zm (w:=E) (cs:=zJ (yg S q)) (ty:=103) rfl rfl rfl (by rw[a.o];rfl) (by rw[a.o];exact yz) yc) ?_;generalize aQ:E.heap.size=qc at*;generalize au:E.alloc (.cells (zJ (yg S q)).toArray 103)=w7 at*;have aI:=J (za an.o A.o id);have ae:=J (A.o.obj ad.o id);have ZC:=@J (r<qc) (by have:=s.o.size;have:=Z4.o;have:=A3.o.size;omega);clear au;have F8:=J (zu r (zJ (yg S q)) 0 w7);have RF:=@J ((w7.setCells r 0 (zJ (yg S q))).rangeAt r 0 (zJ (yg S q))) (yv ae.o (by rw[a.o,size_toArray,m.o])))|(clear aC;refine zi rfl (zK (ty:=103) (b:=r) (off:=0) (cs:=zJ (yg S q)) rfl rfl rfl (by rw[a.o];exact zV ae.o (by rw[size_toArray,m.o];exact le_refl _)) (by rw[a.o];exact yz) yc) ?_;generalize bh:w7.setCells r 0 (zJ (yg S q))=w8 at*;have O7:=@J (w7.ownsRow G.heap.size 103 33 (.slice Q n R) n ((zb1 S L t n).flatMap zJ)) (zb (zb (zb OO.o k.o (λ_ _=>id)) A3.o (λj d e=>DS.o j d e)) (s.o.trans0 A.o) (λ_ _=>id));have P7:=@J (w7.ownsRow G.heap.size 41 32 (.slice T ((vX L t n).length+1) U) ((vX L t n).length+1) ((vX L t n).flatMap zf++zf q.tx)) (zb A2.o (s.o.trans0 A.o) (λ_ _=>id));have PB:=@J (∀j,(Value.slice T ((vX L t n).length+1) U).ownBlock=some j→j≠r∧((Value.slice Q n R).ownBlock=some j→False)) (λj d=>⟨λe=>by rcases A5.o j d with h|h;(have:=(NP.o j h).1;have:=ZQ.o;omega);(have:=Z4.o;omega),λe=>by rcases A5.o j d with h|h;exact DS.o j e h;(have:=(OO.o.lt j e).2;have:=k.o.size;omega)⟩);have O8:=J (zb O7.o F8.o (λj d e=>by have:=(OO.o.lt j d).2;have:=ZQ.o;omega));have P8:=J (zb P7.o F8.o (λj d e=>(PB.o j d).1 e));have a6:=@J (Fr No w _) (((K.o.trans0 s.o).trans0 A.o).trans F8.o (λi hi e=>by have:=ag.o.size;have:=ZA.o;have:=H.o.size;have:=ZQ.o;have:=af.o.size;have:=V.o.size;omega));have W:=@J (Fr No G _) ((((((V.o.trans0 k.o).trans A3.o (λi hi e=>by have:=(NP.o _ e).2;omega)).trans0 s.o).trans0 A.o)).trans F8.o (λi hi e=>by have:=ZQ.o;have:=V.o.size;omega));have az:=@J ((qQ S L q).getD y6=yg S q) (by rw[LK.o,if_pos HK.o];rfl);have ay:=@J ((qQ S L q).isSome=true) (by rw[LK.o,if_pos HK.o];rfl);obtain⟨v9,w9,b1,b2,b3,-,b5⟩:=yX (P:=prog) _ G.heap.size 22 22 103 33 40 _ qO Jz (by rw[←yu];rfl) (by decide) O8.o (zJ (yg S q)) a.o yc (by omega) (by unfold maxLen;omega) W.o.size;obtain⟨Z,aa,aF⟩:=b2.slice.arg.form;subst aF;have B1:=J b1;have B2:=J b2;have B3:=J b3;have B5:=J b5;clear b1 b2 b3 b5;have NO:=@J (∀j,(Value.slice Q n R).ownBlock=some j→G.heap.size≤j∧j<F.heap.size) (λj d=>OO.o.lt j d);have P9:=J (zb P8.o B3.o (λj d e=>(PB.o j d).2 e));have ax:=J (W.o.trans B3.o (λi hi e=>by have:=(NO.o _ e).1;omega));have aw:=@J (∀j,(Value.slice Z (n+1) aa).ownBlock=some j→(Value.slice T ((vX L t n).length+1) U).ownBlock=some j→False) (λj ho hp=>by rcases B5.o j ho with h|h;exact(PB.o j hp).2 h;(have:=(P8.o.lt j hp).2;omega))))|(clear K3;go_at_call 127;refine Y.o.mono ?_;rintro e u ⟨rfl,f3⟩;have H:=J f3;clear f3;have ZA:=@J (qb<wa.heap.size) (by rw[←B,←aq];simp);clear B;have ak:=J (za RN.o H.o id);have al:=J (zy u (zJ ((xw L q).getD y6)) 103);have FB:=J ((frN u).alloc (.cells (zJ ((xw L q).getD y6)).toArray 103));have BO:=J (ye u (.cells (zJ ((xw L q).getD y6)).toArray 103));have O:=J (za ak.o FB.o id);have k:=J ((FA.o.trans0 H.o).trans0 FB.o))|(clear K9;go_at_call 126;refine ah.o.mono ?_;rintro e E ⟨rfl,f6⟩;have s:=J f6;clear f6;have an:=J (za aP.o s.o id);have ad:=J (s.o.obj aJ.o id);have aD:=J (zy E (zJ (yg S q)) 103);have A:=J ((frN E).alloc (.cells (zJ (yg S q)).toArray 103))));go_frame)
       have PT:=@J (vX L t (n+1)=vX L t n++[q.tx]) (by unfold vX;rw[aN.o,if_pos HM.o])
       have aj:=@J ((vX L t (n+1)).length=(vX L t n).length+1) (by rw[PT.o];simp)
       have ab:=@J (∀q∈(zW t).take (n+1),(qQ S L q).isSome=true) (λy l=>by
        rw[take_add_one,HX.o] at l
        rcases mem_append.1 l with l|l
        ·exact AL.o y l
        ·simp at l;subst l;exact ay.o)
       go_roundw
       case rel=>exact⟨n+1,by go_num,by omega,ab.o,Z,aa,T,U,rfl,by rw[aj.o],by rw[aM.o,az.o,flatMap_append];simpa using B2.o,by rw[aj.o,PT.o,flatMap_append];simpa using P9.o,by rw[aj.o];exact aw.o,ax.o⟩
       case measure=>simp[intOf];omega
      ·replace hk:xK S q=false:=by simpa using hk
       have HM:=J hm
       have HK:=J hk
       rw[hm] at Y
       rw[hk] at z
       clear hm hk
       have⟨K0,K1,K2,K3,K4,K5,K6,K7,K8,K9,aA,aB,aC,aK⟩:=tZ14
       go_wp2_with ((first|((with_reducible refine zt ?_);first|(clear K0;refine zn4 rfl rfl rfl R1.o o.o ?_)|(clear K2;refine zn4 rfl rfl rfl RN.o o.o ?_)|(clear K5;with_reducible refine yt 45 ?_;refine zg rfl (zZ (ty:=41) rfl rfl (zaQ O.o M.o).1 uH rH (by have:=HL.o;unfold zf at this;rw[this];exact yp)) ?_)|(clear K6;refine zg rfl (zU (t:=38) rfl rfl qi vU rfl (by decide) (by decide) HL.o) ?_)|(clear K7;at_builtin;refine zR rfl rfl rfl rfl A1.o ?_;have K:=@J (Fr No w w5) ((ag.o.trans0 (H.o.trans0 FB.o)).trans A3.o (λi hi e=>by have:=(NP.o _ e).2;have:=af.o.size;omega));have ah:=J (z.o _ K.o))|(clear K8;with_reducible refine yt 50 ?_;refine zn4 rfl rfl rfl aO.o o.o ?_)|(clear aB;with_reducible refine yt 59 ?_;refine zn2 rfl rfl rfl RF.o m.o ?_)|(clear aC;refine zg rfl (zU (t:=22) rfl rfl qO Jo (by rw[←yu];rfl) (by decide) (by decide) m.o) ?_)|(clear aK;at_builtin;refine zR rfl rfl rfl rfl B1.o ?_))|((with_reducible refine zv ?_);first|(clear K1;refine zi rfl (zm (w:=F) (cs:=zn q) (ty:=95) rfl rfl rfl (by rw[o.o];rfl) (by rw[o.o];exact xL) yI) ?_;generalize aq:F.heap.size=qb at*;generalize B:F.alloc (.cells (zn q).toArray 95)=wa at*)|(clear K4;refine zi rfl (zm (w:=u) (cs:=zJ ((xw L q).getD y6)) (ty:=103) rfl rfl rfl (by rw[m.o];rfl) (by rw[m.o];exact yz) yc) ?_;generalize ar:u.heap.size=r at*;generalize D:u.alloc (.cells (zJ ((xw L q).getD y6)).toArray 103)=w4 at*;have Z4:=@J (r<w4.heap.size) (by rw[←D,←ar];simp);have ZQ:=@J (qb<r) (by have:=ZA.o;have:=H.o.size;omega);clear D;obtain⟨v5,w5,a1,a2,a3,-,a5⟩:=yX (P:=prog) w4 G.heap.size 38 38 41 32 32 _ qi qI rfl (by decide) (zb PP.o k.o (λ_ _=>id)) (zf q.tx) HL.o zS (by have:=aH.o;omega) (by have:=aH.o;unfold maxLen;omega) (by have:=V.o.size;have:=k.o.size;omega);obtain⟨T,U,aS⟩:=a2.slice.arg.form;subst aS;have A1:=J a1;have A2:=J a2;have A3:=J a3;have A5:=J a5;clear a1 a2 a3 a5;have NP:=@J (∀j,(Value.slice pa (vX L t n).length av).ownBlock=some j→j<F.heap.size∧G.heap.size≤j) (λj d=>⟨(PP.o.lt j d).2,(PP.o.lt j d).1⟩);have aO:=J (za O.o A3.o (λe=>by have:=(NP.o _ e).1;omega));have aP:=J (za al.o A3.o (λe=>by have:=(NP.o _ e).1;have:=ZQ.o;omega));have aJ:=J (A3.o.obj BO.o (λe=>by have:=(NP.o _ e).1;have:=ZQ.o;omega)))|(clear aA;refine zi rfl (zm (w:=E) (cs:=zJ (yg S q)) (ty:=103) rfl rfl rfl (by rw[a.o];rfl) (by rw[a.o];exact yz) yc) ?_;generalize aQ:E.heap.size=qc at*;generalize au:E.alloc (.cells (zJ (yg S q)).toArray 103)=w7 at*;have aI:=J (za an.o A.o id);have ae:=J (A.o.obj ad.o id);have ZC:=@J (r<qc) (by have:=s.o.size;have:=Z4.o;have:=A3.o.size;omega);clear au;have O7:=@J (w7.ownsRow G.heap.size 103 33 (.slice Q n R) n ((zb1 S L t n).flatMap zJ)) (zb (zb (zb OO.o k.o (λ_ _=>id)) A3.o (λj d e=>DS.o j d e)) (s.o.trans0 A.o) (λ_ _=>id));have P7:=@J (w7.ownsRow G.heap.size 41 32 (.slice T ((vX L t n).length+1) U) ((vX L t n).length+1) ((vX L t n).flatMap zf++zf q.tx)) (zb A2.o (s.o.trans0 A.o) (λ_ _=>id));have PB:=@J (∀j,(Value.slice T ((vX L t n).length+1) U).ownBlock=some j→j≠r∧((Value.slice Q n R).ownBlock=some j→False)) (λj d=>⟨λe=>by rcases A5.o j d with h|h;(have:=(NP.o j h).1;have:=ZQ.o;omega);(have:=Z4.o;omega),λe=>by rcases A5.o j d with h|h;exact DS.o j e h;(have:=(OO.o.lt j e).2;have:=k.o.size;omega)⟩);have O8:=O7;have P8:=P7;have W:=@J (Fr No G _) (((((V.o.trans0 k.o).trans A3.o (λi hi e=>by have:=(NP.o _ e).2;omega)).trans0 s.o).trans0 A.o));have bj:w7=w7:=rfl;have RF:=aI;have az:=@J ((qQ S L q).getD y6=(xw L q).getD y6) (by rw[LK.o,if_neg (by rw[HK.o];decide)]);have ay:=@J ((qQ S L q).isSome=true) (by rw[LK.o,if_neg (by rw[HK.o];decide)];exact HM.o);obtain⟨v9,w9,b1,b2,b3,-,b5⟩:=yX (P:=prog) _ G.heap.size 22 22 103 33 40 _ qO Jz (by rw[←yu];rfl) (by decide) O8.o (zJ ((xw L q).getD y6)) m.o yc (by omega) (by unfold maxLen;omega) W.o.size;obtain⟨Z,aa,aF⟩:=b2.slice.arg.form;subst aF;have B1:=J b1;have B2:=J b2;have B3:=J b3;have B5:=J b5;clear b1 b2 b3 b5;have NO:=@J (∀j,(Value.slice Q n R).ownBlock=some j→G.heap.size≤j∧j<F.heap.size) (λj d=>OO.o.lt j d);have P9:=J (zb P8.o B3.o (λj d e=>(PB.o j d).2 e));have ax:=J (W.o.trans B3.o (λi hi e=>by have:=(NO.o _ e).1;omega));have aw:=@J (∀j,(Value.slice Z (n+1) aa).ownBlock=some j→(Value.slice T ((vX L t n).length+1) U).ownBlock=some j→False) (λj ho hp=>by rcases B5.o j ho with h|h;exact(PB.o j hp).2 h;(have:=(P8.o.lt j hp).2;omega))))|(clear K3;go_at_call 127;refine Y.o.mono ?_;rintro e u ⟨rfl,f3⟩;have H:=J f3;clear f3;have ZA:=@J (qb<wa.heap.size) (by rw[←B,←aq];simp);clear B;have ak:=J (za RN.o H.o id);have al:=J (zy u (zJ ((xw L q).getD y6)) 103);have FB:=J ((frN u).alloc (.cells (zJ ((xw L q).getD y6)).toArray 103));have BO:=J (ye u (.cells (zJ ((xw L q).getD y6)).toArray 103));have O:=J (za ak.o FB.o id);have k:=J ((FA.o.trans0 H.o).trans0 FB.o))|(clear K9;go_at_call 126;refine ah.o.mono ?_;rintro e E ⟨rfl,f6⟩;have s:=J f6;clear f6;have an:=J (za aP.o s.o id);have ad:=J (s.o.obj aJ.o id);have aD:=J (zy E (zJ (yg S q)) 103);have A:=J ((frN E).alloc (.cells (zJ (yg S q)).toArray 103))));go_frame)
       have PT:=@J (vX L t (n+1)=vX L t n++[q.tx]) (by unfold vX;rw[aN.o,if_pos HM.o])
       have aj:=@J ((vX L t (n+1)).length=(vX L t n).length+1) (by rw[PT.o];simp)
       have ab:=@J (∀q∈(zW t).take (n+1),(qQ S L q).isSome=true) (λy l=>by
        rw[take_add_one,HX.o] at l
        rcases mem_append.1 l with l|l
        ·exact AL.o y l
        ·simp at l;subst l;exact ay.o)
       go_roundw
       case rel=>exact⟨n+1,by go_num,by omega,ab.o,Z,aa,T,U,rfl,by rw[aj.o],by rw[aM.o,az.o,flatMap_append];simpa using B2.o,by rw[aj.o,PT.o,flatMap_append];simpa using P9.o,by rw[aj.o];exact aw.o,ax.o⟩
       case measure=>simp[intOf];omega
     ·replace hm:(xw L q).isSome=false:=by simpa using hm
      by_cases hk:xK S q=true
      ·skip
       have HM:=J hm
       have HK:=J hk
       rw[hm] at Y
       rw[hk] at z
       clear hm hk
       have⟨K0,K1,K2,K3,K4,K5,K6,K7,K8,K9,aA,aB,aC⟩:=tZ13
       go_wp2_with ((first|((with_reducible refine zt ?_);first|(clear K0;refine zn4 rfl rfl rfl R1.o o.o ?_)|(clear K2;refine zn4 rfl rfl rfl RN.o o.o ?_)|(clear K5;with_reducible refine yt 50 ?_;refine zn4 rfl rfl rfl O.o o.o ?_)|(clear K8;with_reducible refine yt 55 ?_;refine zn2 rfl rfl rfl aD.o a.o ?_)|(clear aA;with_reducible refine yt 59 ?_;refine zn2 rfl rfl rfl RF.o a.o ?_)|(clear aB;refine zg rfl (zU (t:=22) rfl rfl qO Jo (by rw[←yu];rfl) (by decide) (by decide) a.o) ?_)|(clear aC;at_builtin;refine zR rfl rfl rfl rfl B1.o ?_))|((with_reducible refine zv ?_);first|(clear K1;refine zi rfl (zm (w:=F) (cs:=zn q) (ty:=95) rfl rfl rfl (by rw[o.o];rfl) (by rw[o.o];exact xL) yI) ?_;generalize aq:F.heap.size=qb at*;generalize B:F.alloc (.cells (zn q).toArray 95)=wa at*)|(clear K4;refine zi rfl (zm (w:=u) (cs:=zJ ((xw L q).getD y6)) (ty:=103) rfl rfl rfl (by rw[m.o];rfl) (by rw[m.o];exact yz) yc) ?_;generalize ar:u.heap.size=r at*;generalize D:u.alloc (.cells (zJ ((xw L q).getD y6)).toArray 103)=w4 at*;have Z4:=@J (r<w4.heap.size) (by rw[←D,←ar];simp);have ZQ:=@J (qb<r) (by have:=ZA.o;have:=H.o.size;omega);clear D;have K:=@J (Fr No w w4) (ag.o.trans0 (H.o.trans0 FB.o));have ah:=J (z.o _ K.o))|(clear K7;refine zi rfl (zm (w:=E) (cs:=zJ (yg S q)) (ty:=103) rfl rfl rfl (by rw[a.o];rfl) (by rw[a.o];exact yz) yc) ?_;generalize aQ:E.heap.size=qc at*;generalize au:E.alloc (.cells (zJ (yg S q)).toArray 103)=w7 at*;have aI:=J (za an.o A.o id);have ae:=J (A.o.obj ad.o id);have ZC:=@J (r<qc) (by have:=s.o.size;have:=Z4.o;omega);clear au;have F8:=J (zu r (zJ (yg S q)) 0 w7);have RF:=@J ((w7.setCells r 0 (zJ (yg S q))).rangeAt r 0 (zJ (yg S q))) (yv ae.o (by rw[a.o,size_toArray,m.o])))|(clear K9;refine zi rfl (zK (ty:=103) (b:=r) (off:=0) (cs:=zJ (yg S q)) rfl rfl rfl (by rw[a.o];exact zV ae.o (by rw[size_toArray,m.o];exact le_refl _)) (by rw[a.o];exact yz) yc) ?_;generalize bh:w7.setCells r 0 (zJ (yg S q))=w8 at*;have O7:=@J (w7.ownsRow G.heap.size 103 33 (.slice Q n R) n ((zb1 S L t n).flatMap zJ)) (zb (zb (zb OO.o k.o (λ_ _=>id)) (frN w4) (λ_ _=>id)) (s.o.trans0 A.o) (λ_ _=>id));have P7:=@J (w7.ownsRow G.heap.size 41 32 (.slice pa (vX L t n).length av) (vX L t n).length ((vX L t n).flatMap zf)) (zb (zb PP.o k.o (λ_ _=>id)) (s.o.trans0 A.o) (λ_ _=>id));have PB:=@J (∀j,(Value.slice pa (vX L t n).length av).ownBlock=some j→j≠r∧((Value.slice Q n R).ownBlock=some j→False)) (λj d=>⟨λe=>by have:=(PP.o.lt j d).2;have:=ZQ.o;omega,λe=>DS.o j e d⟩);have O8:=J (zb O7.o F8.o (λj d e=>by have:=(OO.o.lt j d).2;have:=ZQ.o;omega));have P8:=J (zb P7.o F8.o (λj d e=>(PB.o j d).1 e));have a6:=@J (Fr No w _) (((K.o.trans0 s.o).trans0 A.o).trans F8.o (λi hi e=>by have:=ag.o.size;have:=ZA.o;have:=H.o.size;have:=ZQ.o;have:=af.o.size;have:=V.o.size;omega));have W:=@J (Fr No G _) (((((V.o.trans0 k.o).trans0 s.o).trans0 A.o)).trans F8.o (λi hi e=>by have:=ZQ.o;have:=V.o.size;omega));have az:=@J ((qQ S L q).getD y6=yg S q) (by rw[LK.o,if_pos HK.o];rfl);have ay:=@J ((qQ S L q).isSome=true) (by rw[LK.o,if_pos HK.o];rfl);obtain⟨v9,w9,b1,b2,b3,-,b5⟩:=yX (P:=prog) _ G.heap.size 22 22 103 33 40 _ qO Jz (by rw[←yu];rfl) (by decide) O8.o (zJ (yg S q)) a.o yc (by omega) (by unfold maxLen;omega) W.o.size;obtain⟨Z,aa,aF⟩:=b2.slice.arg.form;subst aF;have B1:=J b1;have B2:=J b2;have B3:=J b3;have B5:=J b5;clear b1 b2 b3 b5;have NO:=@J (∀j,(Value.slice Q n R).ownBlock=some j→G.heap.size≤j∧j<F.heap.size) (λj d=>OO.o.lt j d);have P9:=J (zb P8.o B3.o (λj d e=>(PB.o j d).2 e));have ax:=J (W.o.trans B3.o (λi hi e=>by have:=(NO.o _ e).1;omega));have aw:=@J (∀j,(Value.slice Z (n+1) aa).ownBlock=some j→(Value.slice pa (vX L t n).length av).ownBlock=some j→False) (λj ho hp=>by rcases B5.o j ho with h|h;exact(PB.o j hp).2 h;(have:=(P8.o.lt j hp).2;omega))))|(clear K3;go_at_call 127;refine Y.o.mono ?_;rintro e u ⟨rfl,f3⟩;have H:=J f3;clear f3;have ZA:=@J (qb<wa.heap.size) (by rw[←B,←aq];simp);clear B;have ak:=J (za RN.o H.o id);have al:=J (zy u (zJ ((xw L q).getD y6)) 103);have FB:=J ((frN u).alloc (.cells (zJ ((xw L q).getD y6)).toArray 103));have BO:=J (ye u (.cells (zJ ((xw L q).getD y6)).toArray 103));have O:=J (za ak.o FB.o id);have k:=J ((FA.o.trans0 H.o).trans0 FB.o))|(clear K6;go_at_call 126;refine ah.o.mono ?_;rintro e E ⟨rfl,f6⟩;have s:=J f6;clear f6;have an:=J (za al.o s.o id);have ad:=J (s.o.obj BO.o id);have aD:=J (zy E (zJ (yg S q)) 103);have A:=J ((frN E).alloc (.cells (zJ (yg S q)).toArray 103))));go_frame)
       have PT:=@J (vX L t (n+1)=vX L t n) (by unfold vX;rw[aN.o,if_neg (by rw[HM.o];decide),List.append_nil])
       have ab:=@J (∀q∈(zW t).take (n+1),(qQ S L q).isSome=true) (λy l=>by
        rw[take_add_one,HX.o] at l
        rcases mem_append.1 l with l|l
        ·exact AL.o y l
        ·simp at l;subst l;exact ay.o)
       go_roundw
       case rel=>exact⟨n+1,by go_num,by omega,ab.o,Z,aa,pa,av,rfl,by rw[PT.o],by rw[aM.o,az.o,flatMap_append];simpa using B2.o,by rw[PT.o];exact P9.o,by rw[PT.o];exact aw.o,ax.o⟩
       case measure=>simp[intOf];omega
      ·replace hk:xK S q=false:=by simpa using hk
       have HM:=J hm
       have HK:=J hk
       rw[hm] at Y
       rw[hk] at z
       clear hm hk
       have PE:=@J (JZ S L t=15) (by
        unfold JZ
        rw[if_neg (by rw[List.any_eq_true];rintro⟨y,l,hs⟩;rw[aT.o y l] at hs;cases hs),if_neg (by rw[List.all_eq_true];intro hh;have:=hh q (mem_of_getElem? HX.o);rw[LK.o,if_neg (by rw[HK.o];decide),HM.o] at this;cases this)])
       have⟨K0,K1,K2,K3,K4,K5,K6,K7⟩:=tZ8
       go_wp2_with ((first|((with_reducible refine zt ?_);first|(clear K0;refine zn4 rfl rfl rfl R1.o o.o ?_)|(clear K2;refine zn4 rfl rfl rfl RN.o o.o ?_)|(clear K5;with_reducible refine yt 50 ?_;refine zn4 rfl rfl rfl O.o o.o ?_))|((with_reducible refine zv ?_);first|(clear K1;refine zi rfl (zm (w:=F) (cs:=zn q) (ty:=95) rfl rfl rfl (by rw[o.o];rfl) (by rw[o.o];exact xL) yI) ?_;generalize aq:F.heap.size=qb at*;generalize B:F.alloc (.cells (zn q).toArray 95)=wa at*)|(clear K4;refine zi rfl (zm (w:=u) (cs:=zJ ((xw L q).getD y6)) (ty:=103) rfl rfl rfl (by rw[m.o];rfl) (by rw[m.o];exact yz) yc) ?_;generalize ar:u.heap.size=r at*;generalize D:u.alloc (.cells (zJ ((xw L q).getD y6)).toArray 103)=w4 at*;have Z4:=@J (r<w4.heap.size) (by rw[←D,←ar];simp);have ZQ:=@J (qb<r) (by have:=ZA.o;have:=H.o.size;omega);clear D;have K:=@J (Fr No w w4) (ag.o.trans0 (H.o.trans0 FB.o));have ah:=J (z.o _ K.o))|(clear K7;refine zi rfl (zm (w:=E) (cs:=zJ (yg S q)) (ty:=103) rfl rfl rfl (by rw[a.o];rfl) (by rw[a.o];exact yz) yc) ?_;generalize aQ:E.heap.size=qc at*;generalize au:E.alloc (.cells (zJ (yg S q)).toArray 103)=w7 at*;have aI:=J (za an.o A.o id);have ae:=J (A.o.obj ad.o id);have ZC:=@J (r<qc) (by have:=s.o.size;have:=Z4.o;omega);clear au))|(clear K3;go_at_call 127;refine Y.o.mono ?_;rintro e u ⟨rfl,f3⟩;have H:=J f3;clear f3;have ZA:=@J (qb<wa.heap.size) (by rw[←B,←aq];simp);clear B;have ak:=J (za RN.o H.o id);have al:=J (zy u (zJ ((xw L q).getD y6)) 103);have FB:=J ((frN u).alloc (.cells (zJ ((xw L q).getD y6)).toArray 103));have BO:=J (ye u (.cells (zJ ((xw L q).getD y6)).toArray 103));have O:=J (za ak.o FB.o id);have k:=J ((FA.o.trans0 H.o).trans0 FB.o))|(clear K6;go_at_call 126;refine ah.o.mono ?_;rintro e E ⟨rfl,f6⟩;have s:=J f6;clear f6;have an:=J (za al.o s.o id);have ad:=J (s.o.obj BO.o id);have aD:=J (zy E (zJ (yg S q)) 103);have A:=J ((frN E).alloc (.cells (zJ (yg S q)).toArray 103))));go_frame)
       go_ret3
       exact V2.bad PE.o (by decide) (K.o.trans0 (s.o.trans0 A.o)) _ _
    ·have ao:n=t.ins.length:=by omega
     have i1:¬(n:Int)<(t.ins.length:Int):=by omega
     have aU:=@J (∀q∈zW t,(qQ S L q).isSome=true) (λq hq=>AL.o q (by rw[ao,←ai.o,take_length];exact hq))
     have PE:=J (zfb.2 ⟨aT.o,aU.o⟩)
     have E1:=@J (zb1 S L t n=xR S L t) (by unfold zb1 xR;rw[ao,←ai.o,take_length])
     have E2:=@J (vX L t n=xE L t) (by unfold vX xE;rw[ao,←ai.o,take_length])
     have bf:=@J (∀x∈xR S L t,x.ok) (λx hx=>by
      obtain⟨q,hq,rfl⟩:=mem_map.1 hx
      unfold qQ
      split
      ·exact XC.o q
      ·exact XP.o q)
     have aW:=J (zfa S L t hn)
     clear ao
     go_wp2_with fail
     go_ret3
     exact⟨_,_,by rw[PE.o];rfl,af.o.trans0 V.o,λ_=>⟨⟨bf.o,by have:=OO.o.slice.arg;rw[E1.o] at this;rw[←E1.o,aW.o,E1.o];exact this⟩,by rw[←E2.o];exact xj PP.o af.o.size⟩⟩
end
section
open Go.Lib
theorem zar (x y:Nat) (c:x<18446744073709551616) (d:y<18446744073709551616) (w:World):
  Calls prog 159 #[.int .u64 x,.int .u64 y] w λe w'=>e=.returned (.tuple #[.int .u64 ((x*y / 18446744073709551616:Nat):Int),.int .u64 ((x*y % 18446744073709551616:Nat):Int)])∧w'=w:=by
 obtain⟨l,k,n,j⟩:=Lib.mul64_hi x y c d
 have o:=Lib.half_mul_le (a:=x / 4294967296) (b:=y / 4294967296) (by omega) (by omega)
 have p:=Lib.half_mul_le (a:=x / 4294967296) (b:=y % 4294967296) (by omega) (by omega)
 have q:=Lib.half_mul_le (a:=x % 4294967296) (b:=y / 4294967296) (by omega) (by omega)
 have f:x / 4294967296*(y / 4294967296)<18446744073709551616:=by omega
 have g:x / 4294967296*(y % 4294967296)<18446744073709551616:=by omega
 have h:x % 4294967296*(y / 4294967296)<18446744073709551616:=by omega
 have i:x / 4294967296*(y / 4294967296)+(x / 4294967296*(y % 4294967296)+x % 4294967296*(y % 4294967296) / 4294967296) / 4294967296<18446744073709551616:=by omega
 have m:x / 4294967296*(y / 4294967296)+(x / 4294967296*(y % 4294967296)+x % 4294967296*(y % 4294967296) / 4294967296) / 4294967296+((x / 4294967296*(y % 4294967296)+x % 4294967296*(y % 4294967296) / 4294967296) % 4294967296+x % 4294967296*(y / 4294967296)) / 4294967296<18446744073709551616:=by
  have:x*y / 18446744073709551616<18446744073709551616:=by
   have:=Nat.mul_le_mul (Nat.le_of_lt c) (Nat.le_of_lt d)
   have r:x*y<18446744073709551616*18446744073709551616:=Nat.mul_lt_mul'' c d
   omega
  omega
 go_enter Tryz.func159,Tryz.ntmps159
 go_wp2
 simp only[Mul64.maskN x c,Mul64.maskN y d,Mul64.divN,Mul64.mulN,Mul64.addN,Mul64.wrapN _ l,Mul64.wrapN _ g,Mul64.wrapN _ k,Mul64.maskN _ k,Mul64.wrapN _ h,Mul64.wrapN _ n,Mul64.wrapN _ f,Mul64.wrapN _ i,Mul64.wrapN _ m,Mul64.wrapM (x*y)]
 rw[j]
 go_ret2
 exact⟨rfl,rfl⟩
theorem zhC (lo:Nat) (c:lo<18446744073709551616) (w:World):
  Calls prog 160 #[.int .u64 0,.int .u64 lo,.int .u64 1000] w λe w'=>e=.returned (.tuple #[.int .u64 ((lo / 1000:Nat):Int),.int .u64 ((lo % 1000:Nat):Int)])∧Fr No w w':=by
 go_enter Tryz.func160,Tryz.ntmps160
 go_wp2
 refine wrLx [ff,ff,ff,ff,ff,ff,ff,ff] (λ_=>True) ?_ (λK hK=>?_)
 ·trivial
 repeat((first|(refine zj rfl ?_;constructor;constructor;(focus(first|(rintro w' -;go_simp;(try with_reducible rfl);done))))|(refine zl rfl ?_));try simp only[Act.put,pA,pB,pC])
 refine zL (hK.out _ _ ?_)
 have a:=@J (IntKind.u64.wrap ((lo:Int) / 1000)=((lo / 1000:Nat):Int)) (by rw[IntKind.wrap_u64];omega)
 have b:=@J (((lo:Int).tmod 1000)=((lo % 1000:Nat):Int)) (rfl)
 go_wp2_with fail
 rw[a.o,b.o]
 go_ret2
 exact⟨rfl,(frN w).drew⟩
theorem zjJ (n:Nat) (j:n≤1000000000000) (w:World):
  Calls prog 129 #[.int .u64 n,.int .u64 100] w λe w'=>e=.returned (.tuple #[.int .u64 (((n*100+999) / 1000:Nat):Int),.int .i64 0])∧Fr No w w':=by
 have M:=J (zar n 100 (by omega) (by omega) w)
 rw[show n*100 / 18446744073709551616=0 by omega,show n*100 % 18446744073709551616=n*100 by omega] at M
 have D:=J (zhC (n*100) (by omega) w)
 by_cases hr:n*100 % 1000=0
 ·have E:=@J ((n*100+999) / 1000=n*100 / 1000) (by omega)
  have g:(((n*100 % 1000:Nat):Int)==0)=true:=by rw[hr];rfl
  generalize n*100 / 1000=q at*
  generalize n*100 % 1000=r at*
  clear hr
  go_enter Tryz.func129,Tryz.ntmps129
  have⟨a,b⟩:=tZ2
  go_wp2_with ((first|(clear a;go_at_call 159;refine M.o.mono ?_;rintro e h ⟨rfl,d⟩;subst d)|(clear b;go_at_call 160;refine D.o.mono ?_;rintro e i ⟨rfl,c⟩));go_frame)
  go_ret2
  exact⟨by rw[E.o];rfl,c⟩
 ·have E:=@J ((n*100+999) / 1000=n*100 / 1000+1) (by omega)
  have g:(((n*100 % 1000:Nat):Int)==0)=false:=by rw[beq_eq_false_iff_ne];omega
  have k:((((n*100 / 1000:Nat):Int))==18446744073709551615)=false:=by rw[beq_eq_false_iff_ne];omega
  have f:n*100 / 1000≤1000000000000:=by omega
  generalize n*100 / 1000=q at*
  generalize n*100 % 1000=r at*
  clear hr
  go_enter Tryz.func129,Tryz.ntmps129
  have⟨a,b⟩:=tZ2
  go_wp2_with ((first|(clear a;go_at_call 159;refine M.o.mono ?_;rintro e h ⟨rfl,d⟩;subst d)|(clear b;go_at_call 160;refine D.o.mono ?_;rintro e i ⟨rfl,c⟩));go_frame)
  go_ret2
  exact⟨by rw[E.o];rfl,c⟩
theorem zcK (s:Nat) (c:s≤1000000000000) (w:World):
  Calls prog 79 #[.int .i64 s] w λe w'=>e=.returned (.int .u64 (jF s))∧Fr No w w':=by
 have N:=J (zjJ s c w)
 have E:=@J (jF (s:Int)=((s:Int)*100+999) / 1000) (by unfold jF;omega)
 have d:max (s:Int) 0=(s:Int):=by omega
 go_enter Tryz.func79,Tryz.ntmps79
 have a:=tru
 go_wp2_with (clear a;go_at_call 129;refine N.o.mono ?_;rintro e f ⟨rfl,b⟩;go_frame)
 go_ret
 exact⟨by rw[E.o];rfl,b⟩
def zi7 (x y:Nat):Int:=if x<y then -1 else if x=y then 0 else 1
theorem or_zero (x y:Nat) (b:x<18446744073709551616) (c:y<18446744073709551616):(bits .or .u64 (x:Int) (y:Int)==0)=(x==0 && y==0):=by
 rw[bits_or_u64_nat x y b c]
 rw[Bool.eq_iff_iff]
 simp only[beq_iff_eq,Bool.and_eq_true]
 constructor
 ·intro h
  have a:x|||y=0:=by omega
  exact Nat.or_eq_zero_iff.1 a
 ·rintro⟨rfl,rfl⟩
  rfl
theorem zkL (a b c d:Nat) (B:a<18446744073709551616) (C:b<18446744073709551616) (D:c<18446744073709551616) (F:d<18446744073709551616) (w:World):
  Calls prog 161 #[.int .u64 a,.int .u64 b,.int .u64 c,.int .u64 d] w λe w'=>e=.returned (.int .i64 (zi7 (a*b) (c*d)))∧w'=w:=by
 have s:=J (zar a b B C w)
 have t:=J (zar c d D F w)
 have T:a*b<18446744073709551616*18446744073709551616:=Nat.mul_lt_mul'' B C
 have U:c*d<18446744073709551616*18446744073709551616:=Nat.mul_lt_mul'' D F
 generalize a*b=X at*
 generalize c*d=Y at*
 obtain⟨h,K⟩:∃h,h=X / 18446744073709551616:=⟨_,rfl⟩
 obtain⟨l,L⟩:∃l,l=X % 18446744073709551616:=⟨_,rfl⟩
 obtain⟨i,hi⟩:∃i,i=Y / 18446744073709551616:=⟨_,rfl⟩
 obtain⟨m,M⟩:∃m,m=Y % 18446744073709551616:=⟨_,rfl⟩
 rw[←K,←L] at s
 rw[←hi,←M] at t
 have N:h<18446744073709551616:=by omega
 have O:l<18446744073709551616:=by omega
 have Q:i<18446744073709551616:=by omega
 have R:m<18446744073709551616:=by omega
 obtain⟨u,j⟩:∃u,u=(if l<m+0 then 1 else 0:Nat):=⟨_,rfl⟩
 have H:u≤1:=by rw[j];split<;>omega
 have p:=J (run_sub64 (P:=prog) l m 0 (by omega) w)
 have A:=J (run_sub64 (P:=prog) h i u H w)
 rw[←j] at p
 obtain⟨x,f⟩:∃x,x=(l+18446744073709551616-m-0) % 18446744073709551616:=⟨_,rfl⟩
 obtain⟨y,g⟩:∃y,y=(h+18446744073709551616-i-u) % 18446744073709551616:=⟨_,rfl⟩
 obtain⟨v,q⟩:∃v,v=(if h<i+u then 1 else 0:Nat):=⟨_,rfl⟩
 rw[←f] at p
 rw[←g,←q] at A
 have o:=J (or_zero y x (by omega) (by omega))
 have E:=@J (zi7 X Y=if v≠0 then -1 else if y=0∧x=0 then 0 else 1) (by
  unfold zi7
  by_cases k:X<Y
  ·have V:v=1:=by rw[q,j];split<;>split<;>omega
   rw[if_pos k,V]
   rfl
  ·have G:v=0:=by rw[q,j];split<;>split<;>omega
   rw[if_neg k,G]
   by_cases n:X=Y
   ·have y0:y=0:=by subst n;rw[g,j];split<;>omega
    have Z:x=0:=by subst n;rw[f];omega
    rw[if_pos n,y0,Z]
    rfl
   ·rw[if_neg n]
    have:¬(y=0∧x=0):=by
     rintro⟨I,S⟩
     rw[f] at S
     rw[g,j] at I
     split at I<;>omega
    simp[this])
 have BV:v≤1:=by rw[q];split<;>omega
 clear q j f g K L hi M T U B C D F N O Q R H
 rw[show((0:Nat):Int)=0 from rfl] at p
 have r:(v==0)=true∨v=1:=by rcases Nat.lt_or_ge v 1 with h|h;exact .inl (by simp;omega);exact .inr (by omega)
 go_enter Tryz.func161,Tryz.ntmps161
 go_wp2_with (first|(go_at_call 159;have mk:=s.o;refine s.o.mono ?_;rintro e W ⟨rfl,k⟩;subst k;clear mk s)|(go_at_call 159;refine t.o.mono ?_;rintro e W ⟨rfl,k⟩;subst k;clear t))
 rw[run_callFunc_extern Tryz.func185 (by kernel_rfl) (by kernel_rfl) (by kernel_rfl) (e:=sub64Entry) (by kernel_rfl),p.o]
 simp only[Result.andThen]
 rw[Oper.upon_value]
 go_wp2
 rw[run_callFunc_extern Tryz.func185 (by kernel_rfl) (by kernel_rfl) (by kernel_rfl) (e:=sub64Entry) (by kernel_rfl),A.o]
 simp only[Result.andThen]
 rw[Oper.upon_value]
 clear p A
 rcases r with r|r
 ·have G:v=0:=by simpa using r
  subst G
  rw[if_neg (by simp)] at E
  by_cases hxy:y=0∧x=0
  ·rw[if_pos hxy] at E
   rw[hxy.1,hxy.2] at o⊢
   have z:=o.o
   rw[show((0:Nat):Int)=0 from rfl] at z
   clear o
   go_wp2
   go_ret
   exact⟨by rw[E.o];rfl,rfl⟩
  ·rw[if_neg hxy] at E
   have z:=o.o
   rw[show(y==0 && x==0)=false by simp only[Bool.and_eq_false_imp,beq_iff_eq];intro h;simp;intro n;exact hxy ⟨h,n⟩] at z
   clear o
   go_wp2
   go_ret
   exact⟨by rw[E.o];rfl,rfl⟩
 ·subst r
  rw[if_pos (by simp)] at E
  go_wp2
  go_ret
  exact⟨by rw[E.o];rfl,rfl⟩
def xA (x:Int×Int):List Value:=[.int .u64 x.1,.int .i64 x.2]
def WOk (x:Int×Int):Prop:=(0≤x.1∧x.1≤18446744073709551615)∧0≤x.2∧x.2≤1000000000000
theorem Vf:∃d,prog.underlying 127=some d∧d.isRow=true:=vK (by kernel_rfl)
theorem qn:(prog.info? 127).map (·.size)=some 2:=by kernel_rfl
theorem VS {x:Int×Int}:∀u∈xA x,u.oneCell'=true:=by
 intro u a
 simp only[xA,mem_cons,not_mem_nil,or_false] at a
 rcases a with rfl|rfl<;>rfl
theorem zdg (f:Int) (s:Nat) (c:s≤1000000000000) (w:World):
  Calls prog 162 #[.agg #[.int .u64 f,.int .i64 s]] w λe w'=>e=.returned (.int .u64 ((max s 1:Nat):Int))∧Fr No w w':=by
 by_cases h:1≤s
 ·have m:max s 1=s:=by omega
  have g:max (s:Int) 1=s:=by omega
  have d:¬(s:Int)<1:=by omega
  rw[m]
  have a:=J ((frN w).alloc (.cells #[.int .u64 f,.int .i64 s] 127))
  go_enter Tryz.func162,Tryz.ntmps162
  go_wp2_with fail
  go_ret
  exact⟨rfl,a.o⟩
 ·have b:s=0:=by omega
  subst b
  have a:=J ((frN w).alloc (.cells #[.int .u64 f,.int .i64 ((0:Nat):Int)] 127))
  go_enter Tryz.func162,Tryz.ntmps162
  go_wp2_with fail
  go_ret
  exact⟨rfl,a.o⟩
theorem zml (a b s r:Nat):zi7 (a*max r 1) (b*max s 1)=Qw ((a:Int),(s:Int)) ((b:Int),(r:Int)):=by
 unfold zi7 Qw
 have c:(a:Int)*max (r:Int) 1=((a*max r 1:Nat):Int):=by rw[Int.natCast_mul];congr 1;omega
 have d:(b:Int)*max (s:Int) 1=((b*max s 1:Nat):Int):=by rw[Int.natCast_mul];congr 1;omega
 simp only
 rw[c,d]
 generalize a*max r 1=X
 generalize b*max s 1=Y
 by_cases h1:X<Y
 ·have c1:(X:Int)<(Y:Int):=by omega
  rw[if_pos h1,if_pos c1]
 ·have c1:¬(X:Int)<(Y:Int):=by omega
  rw[if_neg h1,if_neg c1]
  by_cases h2:X=Y
  ·have c2:(X:Int)=(Y:Int):=by omega
   rw[if_pos h2,if_pos c2]
  ·have c2:¬(X:Int)=(Y:Int):=by omega
   rw[if_neg h2,if_neg c2]
theorem zaG {x y:Int×Int} (O:WOk x) (P:WOk y) (w:World):
  Calls prog 130 #[.agg (xA x).toArray,.agg (xA y).toArray] w λe w'=>e=.returned (.int .i64 (Qw x y))∧Fr No w w':=by
 obtain⟨R,C,B⟩:=Vf
 obtain⟨W,X⟩:=x
 obtain⟨Y,Z⟩:=y
 obtain⟨⟨j,u⟩,k,v⟩:=O
 obtain⟨⟨l,z⟩,m,A⟩:=P
 dsimp only at j u k v l z m A
 obtain⟨a,rfl⟩:=Int.eq_ofNat_of_zero_le j
 obtain⟨s,rfl⟩:=Int.eq_ofNat_of_zero_le k
 obtain⟨b,rfl⟩:=Int.eq_ofNat_of_zero_le l
 obtain⟨r,rfl⟩:=Int.eq_ofNat_of_zero_le m
 have E:=J (zml a b s r)
 have F:=J (((frN w).alloc (.cells (xA ((a:Int),(s:Int))).toArray 127)).alloc (.cells (xA ((b:Int),(r:Int))).toArray 127))
 have d:=J (za (zy w (xA ((a:Int),(s:Int))) 127) ((frN _).alloc (.cells (xA ((b:Int),(r:Int))).toArray 127)) id)
 have f:=@J (((w.alloc (.cells (xA ((a:Int),(s:Int))).toArray 127)).alloc (.cells (xA ((b:Int),(r:Int))).toArray 127)).rangeAt (w.heap.size+1) 0 (xA ((b:Int),(r:Int)))) (by
  have:=zy (w.alloc (.cells (xA ((a:Int),(s:Int))).toArray 127)) (xA ((b:Int),(r:Int))) 127
  simpa using this)
 have G:=J (λw=>zdg b r (by omega) w)
 have H:=J (λw=>zdg a s (by omega) w)
 have D:=J (λw=>zkL a (max r 1) b (max s 1) (by omega) (by omega) (by omega) (by omega) w)
 clear j u k v l z m A
 unfold xA at*
 generalize max r 1=S at*
 generalize max s 1=ms at*
 go_enter Tryz.func130,Tryz.ntmps130
 go_wp2_with fail
 generalize N:w.heap.size=n at*
 generalize (w.alloc (.cells #[.int .u64 (a:Int),.int .i64 (s:Int)] 127)).alloc (.cells #[.int .u64 (b:Int),.int .i64 (r:Int)] 127)=Q at*
 have i:=J ((frN Q).drew)
 refine wrLx [ff,ff,ff,tt,ff,ff,ff,tt,tt,ff] (λw'=>w'.cell? ⟨n,0,none⟩=some (.int .u64 (a:Int))∧w'.rangeAt n 0 [.int .u64 (a:Int),.int .i64 (s:Int)]∧w'.cell? ⟨n+1,0,none⟩=some (.int .u64 (b:Int))∧w'.rangeAt (n+1) 0 [.int .u64 (b:Int),.int .i64 (r:Int)]) ?_ (λK hK=>?_)
 ·exact⟨za d.o i.o id 0 _ rfl,za d.o i.o id,za f.o i.o id 0 _ rfl,za f.o i.o id⟩
 repeat((first|(refine zj rfl ?_;constructor;constructor;(focus(first|exact yK (ty:=127) rfl (λw h=>h.2.2.2) C B qn|(rintro w' ⟨o,p,q,t⟩;go_simp;(try with_reducible rfl);done))))|(refine zl rfl ?_));try simp only[Act.put,pA,pB,pC])
 (refine zE rfl (λK' hK'=>?_))
 go_simp
 refine(G.o _).mono ?_
 rintro e T ⟨rfl,I⟩
 have g:=J (i.o.trans0 I)
 refine nXt hK' ?_ λhS=>?_
 ·exact⟨za d.o g.o id 0 _ rfl,za d.o g.o id,za f.o g.o id 0 _ rfl,za f.o g.o id⟩
 try simp only[Act.put,pA,pB,pC]
 repeat((first|(refine zj rfl ?_;constructor;constructor;(focus(first|exact yK (ty:=127) rfl (λw h=>h.2.1) C B qn|(rintro w' ⟨o,p,q,t⟩;go_simp;(try with_reducible rfl);done))))|(refine zl rfl ?_));try simp only[Act.put,pA,pB,pC])
 (refine zE rfl (λK' hK'=>?_))
 go_simp
 refine(H.o _).mono ?_
 rintro e U ⟨rfl,L⟩
 have c:=J (g.o.trans0 L)
 refine nXt hK' ?_ λhS=>?_
 ·exact⟨za d.o c.o id 0 _ rfl,za d.o c.o id,za f.o c.o id 0 _ rfl,za f.o c.o id⟩
 try simp only[Act.put,pA,pB,pC]
 repeat((first|(refine zj rfl ?_;constructor;constructor;(focus(first|(rintro w' ⟨o,p,q,t⟩;go_simp;(try with_reducible rfl);done))))|(refine zl rfl ?_));try simp only[Act.put,pA,pB,pC])
 (refine zE rfl (λK' hK'=>?_))
 go_simp
 refine(D.o _).mono ?_
 rintro e V ⟨rfl,M⟩
 subst M
 refine nXt hK' ?_ λhS=>?_
 ·exact⟨za d.o c.o id 0 _ rfl,za d.o c.o id,za f.o c.o id 0 _ rfl,za f.o c.o id⟩
 try simp only[Act.put,pA,pB,pC]
 repeat((first|(refine zj rfl ?_;constructor;constructor;(focus(first|(rintro w' ⟨o,p,q,t⟩;go_simp;(try with_reducible rfl);done))))|(refine zl rfl ?_));try simp only[Act.put,pA,pB,pC])
 refine zL (hK.out _ _ ?_)
 go_wp2_with fail
 go_ret
 exact⟨by rw[←E.o];rfl,F.o.trans0 c.o⟩
end
section
open Go.Lib
theorem zjF {x y:Int×Int} (d:WOk x) (f:WOk y) (w:World):
  Calls prog 90 #[.agg (xA x).toArray,.agg (xA y).toArray] w λe w'=>e=.returned (.bool (decide (Qw x y<0)))∧Fr No w w':=by
 obtain⟨r,h,g⟩:=Vf
 have C:=J (λw=>zaG d f w)
 have i:=J (((frN w).alloc (.cells (xA x).toArray 127)).alloc (.cells (xA y).toArray 127))
 have o:=J (za (zy w (xA x) 127) ((frN _).alloc (.cells (xA y).toArray 127)) id)
 have p:=@J (((w.alloc (.cells (xA x).toArray 127)).alloc (.cells (xA y).toArray 127)).rangeAt (w.heap.size+1) 0 (xA y)) (by
  have:=zy (w.alloc (.cells (xA x).toArray 127)) (xA y) 127
  simpa using this)
 generalize Qw x y=c at*
 generalize a:xA x=X at*
 generalize b:xA y=Y at*
 have m:=@J (X.length=2) (by rw[←a];rfl)
 have n:=@J (Y.length=2) (by rw[←b];rfl)
 clear a b d f
 go_enter Tryz.func90,Tryz.ntmps90
 have⟨j,k,l⟩:=tZ3
 go_wp2_with ((first|((with_reducible refine zt ?_);first|(clear j;with_reducible refine yt 5 ?_;refine zg rfl (zZ (ty:=127) rfl rfl o.o h g (by rw[m.o];exact qn)) ?_)|(clear k;with_reducible refine yt 6 ?_;refine zg rfl (zZ (ty:=127) rfl rfl p.o h g (by rw[n.o];exact qn)) ?_))|(clear l;go_at_call 130;refine(C.o _).mono ?_;rintro e s ⟨rfl,q⟩));go_frame)
 go_ret
 exact⟨rfl,i.o.trans0 q⟩
def Qr (w:World) (v:Value) (l:List (Int×Int)):Prop:=(∀x∈l,WOk x)∧y7 w v l.length (l.flatMap xA)
theorem Qr.keep {w w':World} {v:Value} {l:List (Int×Int)} (h:Qr w v l) (f:Fr No w w'):Qr w' v l:=⟨h.1,h.2.keep f⟩
theorem Qr.at_ {w:World} {v:Value} {l:List (Int×Int)} (h:Qr w v l) {i:Nat} {c:Int×Int} (d:l[i]? =some c):∃b off a,v=.slice (some ⟨b,off,none⟩) l.length a∧w.rangeAt b (off+i*2) (xA c)∧b<w.heap.size:=
 h.2.elem (k:=2) (by decide) (λ_ _=>rfl) d
def Za (l:List (Int×Int)) (n:Nat):Int:=match Zb l n with
 |none=> -1
 |some k=>k
theorem ziG (w:World) {v:Value} {l:List (Int×Int)} (H:Qr w v l) (X:l.length≤100000):
  Calls prog 89 #[v] w λe w'=>e=.returned (.int .i64 (Za l l.length))∧Fr No w w':=by
 obtain⟨W,g,f⟩:=Vf
 obtain⟨va,vc,rfl⟩:=H.2.form
 have s:=J H
 clear H
 go_enter Tryz.func89,Tryz.ntmps89
 go_wp2_with fail
 go_loopw [3,8] (λR N wr=>∃n:Nat,N=.int .i64 n∧n≤l.length∧R=.int .i64 (Za l n)∧Fr No w wr) (λ_ N _=>l.length-(intOf N).toNat)
 case atStart=>exact⟨0,rfl,zero_le _,rfl,Fr.refl _ _⟩
 case round=>
  obtain⟨n,rfl,Z,rfl,fr⟩:=hrel
  have r:=J fr
  clear fr
  by_cases I:n<l.length
  ·have T:(n:Int)<(l.length:Int):=by omega
   obtain⟨x,q⟩:∃x,l[n]? =some x:=⟨_,getElem?_eq_getElem I⟩
   obtain⟨b,off,S,e,M,-⟩:=(s.o.keep r.o).at_ q
   cases e
   have D:=J (s.o.1 x (mem_of_getElem? q))
   have B:=J M
   have m:=J (zy wr (xA x) 127)
   have A:=J (r.o.alloc (.cells (xA x).toArray 127))
   cases hw:Zb l n with
   |none=>
    have a:=@J (Za l n= -1∧Za l (n+1)=n) (by unfold Za;simp only[Zb,hw];exact⟨trivial,trivial⟩)
    rw[a.o.1]
    clear M q hw
    have⟨i,j⟩:=tZ2
    go_wp2_with ((first|((with_reducible refine zt ?_);clear i;refine zg rfl (zZ (ty:=127) rfl rfl B.o g f (show _=some (xA x).length from qn)) ?_)|((with_reducible refine zv ?_);clear j;refine zi rfl (zm (w:=wr) (cs:=xA x) (ty:=127) rfl rfl rfl rfl (show _=some (xA x).length from qn) VS) ?_));go_frame)
    refine wrLx [ff,ff,ff,ff,ff,ff,tt,ff,ff,ff,ff] (λw'=>w'.rangeAt wr.heap.size 0 (xA x)) ?_ (λK hK=>?_)
    ·exact za m.o (frN _).drew id
    repeat((first|(refine zj rfl ?_;constructor;constructor;(focus(first|(rintro w' z;go_simp;(try with_reducible rfl);done))))|(refine zl rfl ?_));try simp only[Act.put,pA,pB,pC])
    refine zL (hK.out _ _ ?_)
    go_wp2_with fail
    go_roundw
    case rel=>exact⟨n+1,by simp,by omega,by rw[a.o.2],A.o.drew⟩
    case measure=>simp[intOf];omega
   |some k=>
    have Y:=zaB l n k hw
    obtain⟨y,u⟩:∃y,l[k]? =some y:=⟨_,getElem?_eq_getElem (by omega)⟩
    obtain⟨V,Q,P,o,p,-⟩:=(s.o.keep r.o).at_ u
    injection o with o e3 e4
    injection o with o
    injection o with e5 e6 e7
    subst e5
    subst e6
    have E:=J (s.o.1 y (mem_of_getElem? u))
    have t:=J (za p ((frN wr).alloc (.cells (xA x).toArray 127)) id)
    have C:=J (λw=>zaG D.o E.o w)
    have a:=@J (Za l n=k∧Za l (n+1)=if Qw x y<0 then(n:Int) else(k:Int)) (by
     unfold Za
     simp only[Zb,hw,q,u,Option.getD_some]
     refine⟨trivial,?_⟩
     by_cases G:Qw x y<0
     ·simp[G]
     ·simp[G])
    rw[a.o.1]
    have i2:¬(k:Int)<0:=by omega
    have i3:(k:Int)<(l.length:Int):=by omega
    clear M p q u hw e4
    generalize G:Qw x y=c at*
    by_cases hc0:c<0
    ·rw[if_pos hc0] at a
     have⟨i,j⟩:=tZ2
     go_wp2_with ((first|((with_reducible refine zt ?_);clear i;refine zg rfl (zZ (ty:=127) rfl rfl B.o g f (show _=some (xA x).length from qn)) ?_)|((with_reducible refine zv ?_);clear j;refine zi rfl (zm (w:=wr) (cs:=xA x) (ty:=127) rfl rfl rfl rfl (show _=some (xA x).length from qn) VS) ?_));go_frame)
     refine wrLx [ff,ff,ff,ff,ff,ff,ff,ff,tt,ff,ff] (λw'=>w'.rangeAt wr.heap.size 0 (xA x)∧w'.rangeAt b (off+k*2) (xA y)) ?_ (λK hK=>?_)
     ·exact⟨za m.o (frN _).drew id,za t.o (frN _).drew id⟩
     repeat((first|(refine zj rfl ?_;constructor;constructor;(focus(first|exact yK (ty:=127) rfl (λw h=>h.1) g f (show _=some (xA x).length from qn)|exact yK (ty:=127) rfl (λw h=>h.2) g f (show _=some (xA y).length from qn)|(rintro w' ⟨z,O⟩;go_simp;(try with_reducible rfl);done))))|(refine zl rfl ?_));try simp only[Act.put,pA,pB,pC])
     (refine zE rfl (λK' hK'=>?_))
     go_simp
     refine(C.o _).mono ?_
     rintro e U ⟨rfl,F⟩
     have d:=J ((frN _).drew.trans0 F)
     refine nXt hK' ?_ λhS=>?_
     ·exact⟨za m.o d.o id,za t.o d.o id⟩
     try simp only[Act.put,pA,pB,pC]
     repeat((first|(refine zj rfl ?_;constructor;constructor;(focus(first|(rintro w' ⟨z,O⟩;go_simp;(try with_reducible rfl);done))))|(refine zl rfl ?_));try simp only[Act.put,pA,pB,pC])
     refine zL (hK.out _ _ ?_)
     go_wp2_with fail
     go_roundw
     case rel=>exact⟨n+1,by simp,by omega,by rw[a.o.2],A.o.trans0 d.o⟩
     case measure=>simp[intOf];omega
    ·rw[if_neg hc0] at a
     have⟨i,j⟩:=tZ2
     go_wp2_with ((first|((with_reducible refine zt ?_);clear i;refine zg rfl (zZ (ty:=127) rfl rfl B.o g f (show _=some (xA x).length from qn)) ?_)|((with_reducible refine zv ?_);clear j;refine zi rfl (zm (w:=wr) (cs:=xA x) (ty:=127) rfl rfl rfl rfl (show _=some (xA x).length from qn) VS) ?_));go_frame)
     refine wrLx [ff,ff,ff,ff,ff,ff,ff,ff,tt,ff,ff] (λw'=>w'.rangeAt wr.heap.size 0 (xA x)∧w'.rangeAt b (off+k*2) (xA y)) ?_ (λK hK=>?_)
     ·exact⟨za m.o (frN _).drew id,za t.o (frN _).drew id⟩
     repeat((first|(refine zj rfl ?_;constructor;constructor;(focus(first|exact yK (ty:=127) rfl (λw h=>h.1) g f (show _=some (xA x).length from qn)|exact yK (ty:=127) rfl (λw h=>h.2) g f (show _=some (xA y).length from qn)|(rintro w' ⟨z,O⟩;go_simp;(try with_reducible rfl);done))))|(refine zl rfl ?_));try simp only[Act.put,pA,pB,pC])
     (refine zE rfl (λK' hK'=>?_))
     go_simp
     refine(C.o _).mono ?_
     rintro e U ⟨rfl,F⟩
     have d:=J ((frN _).drew.trans0 F)
     refine nXt hK' ?_ λhS=>?_
     ·exact⟨za m.o d.o id,za t.o d.o id⟩
     try simp only[Act.put,pA,pB,pC]
     repeat((first|(refine zj rfl ?_;constructor;constructor;(focus(first|(rintro w' ⟨z,O⟩;go_simp;(try with_reducible rfl);done))))|(refine zl rfl ?_));try simp only[Act.put,pA,pB,pC])
     refine zL (hK.out _ _ ?_)
     go_wp2_with fail
     go_roundw
     case rel=>exact⟨n+1,by simp,by omega,by rw[a.o.2],A.o.trans0 d.o⟩
     case measure=>simp[intOf];omega
  ·have L:n=l.length:=by omega
   have T:¬(n:Int)<(l.length:Int):=by omega
   subst L
   go_wp2_with fail
   go_ret
   exact⟨rfl,r.o⟩
def Ya (l:List InD):Int:=(l.map λx=>(x.key.length:Int)).sum
theorem zf7 {l:List InD} {n:Nat} {x:InD} (h:l[n]? =some x):Ya (l.take (n+1))=Ya (l.take n)+(x.key.length:Int):=by
 rw[take_add_one,h]
 simp[Ya]
theorem zeN {l:List InD} (h:∀x∈l,x.key.length≤64):0≤Ya l∧Ya l≤64*(l.length:Int):=by
 induction l with
 |nil=>simp[Ya]
 |cons x r ih=>
  have b:=ih (λy a=>h y (.tail _ a))
  have c:=h x (.head _)
  have e:Ya (x::r)=(x.key.length:Int)+Ya r:=by simp[Ya]
  rw[e,List.length_cons]
  omega
theorem VF (w:World) {t:TxD} {cs:List Value} (K:TxQ w t cs) (a:qE t=true):
  Calls prog 78 #[.agg cs.toArray] w λe w'=>e=.returned (.tuple #[.int .i64 (qR t),.int .i64 0])∧Fr No w w':=by
 have S:=J K
 obtain⟨g,h,k,m,rfl,y,hi,ho⟩:=K
 have zI:=Zn
 obtain⟨H,ab,ad⟩:=y5.1 a
 have o:=J ((frN w).alloc (.cells #[.int .u32 t.ver,.slice g t.ins.length h,.slice k t.outs.length m] 34))
 obtain⟨-,c1,c2,L⟩:=qN w t.ver (.slice g t.ins.length h) (.slice k t.outs.length m)
 have M:=J c1
 have N:=J c2
 have R0:=J L
 have R:=J (hi.keep0 o.o)
 have s:=zby (w.alloc (.cells #[.int .u32 t.ver,.slice g t.ins.length h,.slice k t.outs.length m] 34)) (S.o.keep o.o)
 rw[a] at s
 have Q:=J s
 have D:=J (λn=>zeN (l:=t.ins.take n) (λx f=>H x (List.mem_of_mem_take f)))
 have A:=@J (qR t=6+37*(t.ins.length:Int)+40*(t.outs.length:Int)+Ya t.ins) (rfl)
 clear hi ho y c1 c2 L H s a
 show Calls prog 78 #[.agg #[.int .u32 t.ver,.slice g t.ins.length h,.slice k t.outs.length m]] w _
 go_enter Tryz.func78,Tryz.ntmps78
 generalize ae:w.alloc (.cells #[.int .u32 t.ver,.slice g t.ins.length h,.slice k t.outs.length m] 34)=w1 at*
 obtain⟨B,r⟩:∃B:Int,B=6+37*(t.ins.length:Int)+40*(t.outs.length:Int):=⟨_,rfl⟩
 have Z:(37:Int)*(t.ins.length:Int)=37*(t.ins.length:Int):=rfl
 go_wp2_with (first|(refine zn1 rfl rfl rfl R0.o rfl ?_)|(go_at_call 66;refine Q.o.mono ?_;rintro e w2 ⟨rfl,G⟩;have p:=J G;clear G;have d1:=p.o.cell M.o id;have d2:=p.o.cell N.o id))
 clear Z
 rw[←r]
 rw[←r] at A
 have P:=@J (6≤B∧B≤622) (by omega)
 have aa:=P.o
 clear r
 go_loopw [4,23] (λnv z wr=>∃n:Nat,z=.int .i64 n∧n≤t.ins.length∧nv=.int .i64 (B+Ya (t.ins.take n))∧Fr No w1 wr) (λ_ z _=>t.ins.length-(intOf z).toNat)
 case atStart=>exact⟨0,rfl,zero_le _,by simp[Ya],p.o⟩
 case round=>
  obtain⟨n,rfl,hn,rfl,fr⟩:=hrel
  have q:=J fr
  have V:=D.o n
  rw[length_take] at V
  clear fr
  by_cases u:n<t.ins.length
  ·have i1:(n:Int)<(t.ins.length:Int):=by omega
   obtain⟨x,f⟩:∃x,t.ins[n]? =some x:=⟨_,getElem?_eq_getElem u⟩
   obtain⟨b,off,Y,cs,y,I,i,j,rfl,c,d⟩:=(R.o.keep0 q.o).at_ f
   cases y
   have W:=J I
   have C:=J (vo c (.slice i x.key.length j))
   have X:=(YN wr (kv:=.slice i x.key.length j) c).2
   have O:=J (q.o.alloc (.cells (inC x.from_ (.slice i x.key.length j)).toArray 108))
   have F:=J (zf7 f)
   have U:=D.o (n+1)
   rw[F.o,length_take] at U
   clear I d c f
   generalize Ya (t.ins.take n)=T at*
   go_wp2_with (first|(refine zn0 rfl rfl rfl W.o C.o ?_)|(refine zn9 (w:=wr) (cs:=inC x.from_ (.slice i x.key.length j)) rfl rfl rfl rfl C.o jQ ?_;generalize wr.alloc (.cells (inC x.from_ (.slice i x.key.length j)).toArray 108)=wA at*))
   go_roundw
   case rel=>exact⟨n+1,by go_num,by omega,by rw[F.o];go_num,O.o⟩
   case measure=>simp[intOf];omega
  ·have v:n=t.ins.length:=by omega
   have i1:¬(n:Int)<(t.ins.length:Int):=by omega
   have E:=A
   subst v
   go_wp2_with fail
   go_ret2
   exact⟨by rw[E.o];rfl,o.o.trans0 q.o⟩
end
theorem Vx {fn:Func} {p u v:Tmp} {ty:TypeId} (h:fn.results= #[.cell p ty,.tmp u,.tmp v]) (tmps:Array Value) (P:Program) (w:World):
  (results fn tmps).run P w=
   ((asAddr (tmps.getD p undef)).run P w).andThen λa b=>((loadVar ty a).run P b).andThen λx c=>.ok (.tuple #[x,tmps.getD u undef,tmps.getD v undef]) c:=by
 simp only[results,h]
 simp[Sem.run_bind,Result.andThen]
theorem xV {P:Program} {w:World} {fn:Func} {p u v:Tmp} {ty:TypeId} (h:fn.results= #[.cell p ty,.tmp u,.tmp v]) (tmps:Array Value) {g:Nat} {cs:List Value} {d:TypeDesc} {x y:Value} (b:tmps.getD p undef=.pointer (some ⟨g,0,none⟩)) (c:w.rangeAt g 0 cs)
  (e:P.underlying ty=some d) (a:d.isRow=true) (hi:(P.info? ty).map (·.size)=some cs.length) (f:tmps.getD u undef=x) (i:tmps.getD v undef=y):
  (results fn tmps).run P w=.ok (.tuple #[.agg cs.toArray,x,y]) w:=by
 rw[Vx h,b,f,i]
 simp only[asAddr,Sem.run_pure,Result.andThen_ok,run_loadVar_mid w g 0 ty cs d c e a hi]
theorem XB (w:World):(Instr.build 129 #[]).run prog w=.ok (.agg vx.toArray) w:=by kernel_rfl
theorem zmj (f s:Int) (w:World):(Instr.build 127 #[(0,.int .u64 f),(1,.int .i64 s)]).run prog w=.ok (.agg [.int .u64 f,.int .i64 s].toArray) w:=by kernel_rfl
theorem zmh (v:Int) (a c:Option Addr) (n b m d:Nat) (f s:Int) (w:World):(Instr.build 129 #[(0,.agg #[.int .u32 v,.slice a n b,.slice c m d]),(1,.agg #[.int .u64 f,.int .i64 s])]).run prog w=.ok (.agg [.int .u32 v,.slice a n b,.slice c m d,.int .u64 f,.int .i64 s,.int .u64 0].toArray) w:=by kernel_rfl
theorem zmC {t:TxD} {prev:List yE} (h:vz t prev=0):(jr prev).sum<18446744073709551616∧qW t.outs≤(jr prev).sum:=by
 unfold vz at h
 by_cases h1:yF t=0
 ·rw[if_pos h1] at h
  by_cases h2:prev.length=t.ins.length
  ·rw[if_pos h2] at h
   by_cases h3:opens t.ins prev=true
   ·rw[if_pos h3] at h
    by_cases h4:(jr prev).sum<18446744073709551616
    ·rw[if_pos h4] at h
     by_cases h5:qW t.outs≤(jr prev).sum
     ·exact⟨h4,h5⟩
     ·rw[if_neg h5] at h;cases h
    ·rw[if_neg h4] at h;cases h
   ·rw[if_neg h3] at h;cases h
  ·rw[if_neg h2] at h;cases h
 ·rw[if_neg h1] at h;exact absurd h h1
theorem za5 {t:TxD} {prev:List yE} (f:∀x∈prev,x.ok) (a:∀x∈t.outs,x.ok):0≤j7 t prev∧j7 t prev≤18446744073709551615:=by
 unfold j7
 by_cases h:vz t prev=0
 ·rw[if_pos h]
  obtain⟨c,e⟩:=zmC h
  have d:=VK (l:=t.outs) (λx b=>(a x b).1.1)
  omega
 ·rw[if_neg h]
  omega
theorem Xu {t:TxD} (h:qE t=true):0≤qR t∧qR t≤1200:=by
 obtain⟨a,b,c⟩:=y5.1 h
 have d:=zeN a
 have e:qR t=6+37*(t.ins.length:Int)+40*(t.outs.length:Int)+Ya t.ins:=rfl
 omega
theorem znN (v:Int) (c e:Option Addr) (n d m h:Nat) (f s a:Int):∀u∈[Value.int .u32 v,.slice c n d,.slice e m h,.int .u64 f,.int .i64 s,.int .u64 a],u.oneCell'=true:=by
 intro u b
 simp only[mem_cons,not_mem_nil,or_false] at b
 rcases b with rfl|rfl|rfl|rfl|rfl|rfl<;>rfl
def YF (w:World) (S:List zr) (I:List zd) (L:List yb) (t:TxD) (cs:List Value) (e:Ending) (w':World):Prop:=
 ∃(ecs:List Value) (pv:Value),e=.returned (.tuple #[.agg ecs.toArray,pv,.int .i64 (qP S I L t)])∧Fr No w w'∧(ecs.length=6∧∀v∈ecs,v.oneCell'=true)∧
  (qP S I L t=0→ecs=cs++[.int .u64 (j7 t (xR S L t)),.int .i64 (qR t),.int .u64 0]∧w'.ownsRow w.heap.size 41 32 pv (xE L t).length ((xE L t).flatMap zf))
theorem YF.bad {w w':World} {S:List zr} {I:List zd} {L:List yb} {t:TxD} {cs:List Value} {c:Int} (h:qP S I L t=c) (b:c≠0) (f:Fr No w w') (a:Value):YF w S I L t cs (.returned (.tuple #[.agg vx.toArray,a,.int .i64 c])) w':=
 ⟨vx,a,by rw[h],f,⟨rfl,JV⟩,λe=>absurd (h.symm.trans e) b⟩
section
variable {w0 w:World} {p ma ms g N:Nat} {VG X:Nat→Prop} {C:zd→List Value} {L:List yb}
theorem zbO (hg:vj w) (h:yn w0 w p ma ms g VG X C L N) (aV:N≤900) {w1:World} {pc:Nat} {VC:Nat→Prop} {S:List zr} {bs:List yx} {I:List zd} (hc:Cn w1 w pc VC S bs I) (hS:∀c∈S,c.ok) {t:TxD} {cs:List Value} (ht:TxQ w t cs) (aw:yF t=0):
  Calls prog 47 #[.pointer (some ⟨p,0,none⟩),.pointer (some ⟨pc,0,none⟩),.agg (zf (idH t)).toArray,.agg cs.toArray] w (YF w S I L t cs):=by
 obtain⟨dE,uE,rE⟩:=zgP
 have ze:=show ∀w,(zeroValue 129).run prog w=.ok (.agg vx.toArray) w from VU
 obtain⟨aH,-,-,-,-,-⟩:=JM aw
 obtain⟨aT,aL,aU⟩:=y5.1 aH
 obtain⟨x,hx⟩:∃x,x=idH t:=⟨_,rfl⟩
 have aE:=@J (zX x) (by rw[hx];exact vG t)
 have T:=J (zx aE.o)
 obtain⟨U,V,W,Y,rfl⟩:=ht.form
 have f1:Fr No w (w.alloc (.cells (zf x).toArray 41)):=(frN w).alloc _
 have f2:Fr No (w.alloc (.cells (zf x).toArray 41)) ((w.alloc (.cells (zf x).toArray 41)).alloc (.cells #[.int .u32 t.ver,.slice U t.ins.length V,.slice W t.outs.length Y] 34)):=(frN _).alloc _
 have s:Fr No ((w.alloc (.cells (zf x).toArray 41)).alloc (.cells #[.int .u32 t.ver,.slice U t.ins.length V,.slice W t.outs.length Y] 34)) (((w.alloc (.cells (zf x).toArray 41)).alloc (.cells #[.int .u32 t.ver,.slice U t.ins.length V,.slice W t.outs.length Y] 34)).alloc (.cells vx.toArray 129)).drew:=((frN _).alloc _).drew
 have F1:=J ((f1.trans0 f2).trans0 s)
 have RH:=J (za (zy w (zf x) 41) (f2.trans0 s) id)
 have RT:=@J ((((w.alloc (.cells (zf x).toArray 41)).alloc (.cells #[.int .u32 t.ver,.slice U t.ins.length V,.slice W t.outs.length Y] 34)).alloc (.cells vx.toArray 129)).drew.rangeAt (w.heap.size+1) 0 [.int .u32 t.ver,.slice U t.ins.length V,.slice W t.outs.length Y]) (by
  have:=za (zy (w.alloc (.cells (zf x).toArray 41)) [.int .u32 t.ver,.slice U t.ins.length V,.slice W t.outs.length Y] 34) s id
  simpa using this)
 have BE:=@J ((((w.alloc (.cells (zf x).toArray 41)).alloc (.cells #[.int .u32 t.ver,.slice U t.ins.length V,.slice W t.outs.length Y] 34)).alloc (.cells vx.toArray 129)).drew.heap[w.heap.size+2]? =some (.cells vx.toArray 129 (0,0))) ((frN _).drew.obj (yL ((w.alloc (.cells (zf x).toArray 41)).alloc (.cells #[.int .u32 t.ver,.slice U t.ins.length V,.slice W t.outs.length Y] 34)) (.cells vx.toArray 129) (n:=w.heap.size+2) (by simp)) id)
 have Z:=J ht
 have HG:=J hg
 have HH:=J h
 have HC:=J hc
 have HS:=J hS
 obtain⟨M,hM,hm⟩:=h.am
 have HM:=J (hM.keep F1.o id)
 have CP:=J (λw' (f:Fr No w w')=>(h.fr0 f).cells)
 have LK:=J (λw' (h':qK w' ma M)=>zbN (w:=w') aE.o h' hm true)
 obtain⟨y,hy⟩:∃y,YH C L x=y∧y.length=6∧∀v∈y,v.oneCell'=true:=⟨_,rfl,zek h x⟩
 have YL:=J hy.2.1
 have YO:=J hy.2.2
 rw[hy.1] at LK
 have aA:=@J (decide (x∈xq L)=decide (idH t∈xq L)) (by rw[hx])
 generalize aS:decide (x∈xq L)=bb at LK
 have HX:=J hx
 have FM:=J aH
 have D:=@J (t.ins.length≤8) (aL)
 clear h hM hm hy ht hg hc hS f1 f2 s aT aL aU aH aw
 show Calls prog 47 #[.pointer (some ⟨p,0,none⟩),.pointer (some ⟨pc,0,none⟩),.agg (zf (idH t)).toArray,.agg #[.int .u32 t.ver,.slice U t.ins.length V,.slice W t.outs.length Y]] w _
 rw[←hx]
 clear hx
 go_enter Tryz.func47,Tryz.ntmps47
 go_wp2_with fail
 generalize hq:w.heap.size=q at*
 generalize aM:((w.alloc (.cells (zf x).toArray 41)).alloc (.cells #[.int .u32 t.ver,.slice U t.ins.length V,.slice W t.outs.length Y] 34)).alloc (.cells vx.toArray 129)=wz at*
 have ZQ:=@J (wz.drew.heap.size=q+3) (by show wz.heap.size=q+3;rw[←aM,←hq];simp)
 clear aM
 refine wrLx [ff,ff,ff,ff,ff,ff,ff,ff,ff,tt,tt,ff] (λw'=>w'.cell? ⟨p,0,none⟩=some (.map (some ma))∧w'.rangeAt q 0 (zf x)∧qK w' ma M) ?_ (λK hK=>?_)
 ·exact⟨(CP.o _ F1.o).1,RH.o,HM.o⟩
 generalize wz.drew=wd at*
 repeat((first|(refine zj rfl ?_;constructor;constructor;(focus(first|exact zn7 rfl (λw h=>h.2.1) T.o|exact λw' h=>zQ (t:=133) rfl rfl rfl (LK.o w' h.2.2)|(rintro w' ⟨s1,s2,s3⟩;go_simp;(try with_reducible rfl);done))))|(refine zl rfl ?_));try simp only[Act.put,pA,pB,pC])
 (refine zE rfl (λK' hK'=>?_))
 refine yj (yA rfl (VU _)) ?_
 have FE:=J ((frN wd).alloc (.cells vx.toArray 129))
 refine nXt hK' ?_ λhS=>?_
 ·exact⟨FE.o.cell (CP.o _ F1.o).1 id,za RH.o FE.o id,HM.o.keep FE.o id⟩
 try simp only[Act.put,pA,pB,pC]
 (refine zE rfl (λK' hK'=>?_))
 refine yN (zm (w:=wd) (ty:=129) (cs:=y) rfl rfl rfl (by rw[YL.o];rfl) (by rw[YL.o];exact qm) YO.o) ?_
 have FY:=J ((frN wd).alloc (.cells y.toArray 129))
 refine nXt hK' ?_ λhS=>?_
 ·exact⟨FY.o.cell (CP.o _ F1.o).1 id,za RH.o FY.o id,HM.o.keep FY.o id⟩
 try simp only[Act.put]
 repeat((first|(refine zj rfl ?_;constructor;constructor;(focus(first|(rintro w' -;go_simp;(try with_reducible rfl);done))))|(refine zl rfl ?_));try simp only[Act.put,pA,pB,pC])
 refine zL (hK.out _ _ ?_)
 have ab:=J (za RH.o FY.o id)
 have ad:=J (za RT.o FY.o id)
 have G:=J (FY.o.obj BE.o id)
 have r:=J (F1.o.trans0 FY.o)
 have Z2:=@J (q+3≤(wd.alloc (.cells y.toArray 129)).heap.size) (by have:=FY.o.size;have:=ZQ.o;omega)
 clear HM LK RH RT BE CP
 generalize wd.alloc (.cells y.toArray 129)=w2 at*
 have HP:=J (QJ (HH.o.fr0 r.o) (HC.o.fr0 r.o) HS.o (Z.o.keep r.o) (by have:=D.o;omega))
 have HD:=J (zcE (HC.o.fr0 r.o) aE.o)
 rw[show decide (x∈I)=decide (idH t∈I) by rw[HX.o]] at HD
 rw[aS] at aA
 by_cases c1:idH t∈xq L
 ·have aG:bb=true:=by rw[aA.o];exact decide_eq_true c1
  have LE:=@J (qP S I L t=10) (by unfold qP;rw[if_pos c1])
  subst aG
  clear c1
  have⟨K0,K1⟩:=tZ2
  go_wp2_with ((first|((with_reducible refine zt ?_);clear K0;with_reducible refine yt 29 ?_;refine zg rfl (yf (t:=129) rfl rfl (XB _)) ?_)|((with_reducible refine zv ?_);clear K1;refine zi rfl (zK (ty:=129) (b:=q+2) (off:=0) (cs:=vx) rfl rfl rfl (zV G.o (le_refl 6)) qm JV) ?_));go_frame)
  refine bodyPost_ret (xV (P:=prog) (fn:=Tryz.f47) rfl _ rfl (yv G.o rfl) uE rE qm rfl rfl) rfl (YF.bad LE.o (by decide) ((r.o).trans (zu (q+2) vx 0 w2) (λi hi e=>by omega)) _)
 have aG:bb=false:=by rw[aA.o];exact decide_eq_false c1
 subst aG
 by_cases c2:idH t∈I
 ·have LE:=@J (qP S I L t=19) (by unfold qP;rw[if_neg c1,if_pos c2])
  have hd:decide (idH t∈I)=true:=decide_eq_true c2
  rw[hd] at HD
  clear c1 c2 hd
  have⟨K0,K1,K2,K3⟩:=tZ4
  go_wp2_with ((first|((with_reducible refine zt ?_);first|(clear K0;with_reducible refine yt 31 ?_;refine zn3 rfl rfl rfl ab.o T.o ?_)|(clear K2;with_reducible refine yt 33 ?_;refine zg rfl (yf (t:=129) rfl rfl (XB _)) ?_))|(clear K1;go_at_call 74;refine HD.o.mono ?_;rintro e w3 ⟨rfl,s⟩;have m:=J s;clear s;have k:=J (za ad.o m.o id);have l:=J (m.o.obj G.o id);have a:=J (r.o.trans0 m.o);have A:=J (QJ (HH.o.fr0 a.o) (HC.o.fr0 a.o) HS.o (Z.o.keep a.o) (by have:=D.o;omega)))|((with_reducible refine zv ?_);clear K3;refine zi rfl (zK (ty:=129) (b:=q+2) (off:=0) (cs:=vx) rfl rfl rfl (zV l.o (le_refl 6)) qm JV) ?_));go_frame)
  refine bodyPost_ret (xV (P:=prog) (fn:=Tryz.f47) rfl _ rfl (yv l.o rfl) uE rE qm rfl rfl) rfl (YF.bad LE.o (by decide) ((a.o).trans (zu (q+2) vx 0 w3) (λi hi e=>by omega)) _)
 have hd:decide (idH t∈I)=false:=decide_eq_false c2
 rw[hd] at HD
 clear hd
 by_cases c3:JZ S L t=0
 rotate_left
 ·have LE:=@J (qP S I L t=JZ S L t) (by unfold qP;rw[if_neg c1,if_neg c2,if_pos c3])
  have je:(JZ S L t==0)=false:=by simpa using c3
  have NE:=J c3
  clear c1 c2 c3
  have⟨K0,K1,K2,K3,K4,K5⟩:=tZ6
  go_wp2_with ((first|((with_reducible refine zt ?_);first|(clear K0;with_reducible refine yt 31 ?_;refine zn3 rfl rfl rfl ab.o T.o ?_)|(clear K2;refine zn1 rfl rfl rfl k.o rfl ?_)|(clear K4;with_reducible refine yt 44 ?_;refine zg rfl (yf (t:=129) rfl rfl (XB _)) ?_))|(clear K1;go_at_call 74;refine HD.o.mono ?_;rintro e w3 ⟨rfl,s⟩;have m:=J s;clear s;have k:=J (za ad.o m.o id);have l:=J (m.o.obj G.o id);have a:=J (r.o.trans0 m.o);have A:=J (QJ (HH.o.fr0 a.o) (HC.o.fr0 a.o) HS.o (Z.o.keep a.o) (by have:=D.o;omega)))|(clear K3;go_at_call 86;refine A.o.mono ?_;rintro e w4 ⟨ov,pv,rfl,f4,hz⟩;clear hz;have B:=J f4;clear f4;have o:=J (za k.o B.o id);have u:=J (B.o.obj l.o id);have d:=J (a.o.trans0 B.o))|((with_reducible refine zv ?_);clear K5;refine zi rfl (zK (ty:=129) (b:=q+2) (off:=0) (cs:=vx) rfl rfl rfl (zV u.o (le_refl 6)) qm JV) ?_));go_frame)
  refine bodyPost_ret (xV (P:=prog) (fn:=Tryz.f47) rfl _ rfl (yv u.o rfl) uE rE qm rfl rfl) rfl (YF.bad LE.o NE.o ((d.o).trans (zu (q+2) vx 0 w4) (λi hi e=>by omega)) _)
 have an:=@J (∀(pv ov:Value) w' (w3s:Nat),(JZ S L t=0→xy w' ov (xR S L t)∧w'.ownsRow w3s 41 32 pv (xE L t).length ((xE L t).flatMap zf))→xy w' ov (xR S L t)∧w'.ownsRow w3s 41 32 pv (xE L t).length ((xE L t).flatMap zf)) (λ_ _ _ _ h=>h c3)
 unfold V2 at HP
 rw[c3] at HP
 have ao:=@J ((xR S L t).length≤1000) (by unfold xR;rw[length_map,vJ];have:=D.o;omega)
 have aJ:=@J ((xE L t).length≤1000) (by have:=ze6 L t;have:=D.o;omega)
 have ar:=J c3
 by_cases c4:vz t (xR S L t)=0
 rotate_left
 ·have LE:=@J (qP S I L t=vz t (xR S L t)) (by unfold qP;rw[if_neg c1,if_neg c2,if_neg (by simp[c3]),if_pos c4])
  have je:(vz t (xR S L t)==0)=false:=by simpa using c4
  have NE:=J c4
  clear c1 c2 c3 c4
  have⟨K0,K1,K2,K3,K4,K5,K6,K7⟩:=tZ8
  go_wp2_with ((first|((with_reducible refine zt ?_);first|(clear K0;with_reducible refine yt 31 ?_;refine zn3 rfl rfl rfl ab.o T.o ?_)|(clear K2;refine zn1 rfl rfl rfl k.o rfl ?_)|(clear K4;refine zn1 rfl rfl rfl o.o rfl ?_)|(clear K6;with_reducible refine yt 54 ?_;refine zg rfl (yf (t:=129) rfl rfl (XB _)) ?_))|(clear K1;go_at_call 74;refine HD.o.mono ?_;rintro e w3 ⟨rfl,s⟩;have m:=J s;clear s;have k:=J (za ad.o m.o id);have l:=J (m.o.obj G.o id);have a:=J (r.o.trans0 m.o);have A:=J (QJ (HH.o.fr0 a.o) (HC.o.fr0 a.o) HS.o (Z.o.keep a.o) (by have:=D.o;omega)))|(clear K3;go_at_call 86;refine A.o.mono ?_;rintro e w4 ⟨ov,pv,rfl,f4,hz⟩;rw[ar.o];have HZ:=J (an.o pv ov w4 _ hz);clear hz;have B:=J f4;clear f4;have o:=J (za k.o B.o id);have u:=J (B.o.obj l.o id);have d:=J (a.o.trans0 B.o);have R:=J (Zp (HG.o.keep0 d.o) (Z.o.keep d.o) HZ.o.1 ao.o))|(clear K5;go_at_call 77;refine R.o.mono ?_;rintro e w5 ⟨rfl,f5⟩;have O:=J f5;clear f5;have E:=J (za o.o O.o id);have H:=J (O.o.obj u.o id);have z:=J (d.o.trans0 O.o))|((with_reducible refine zv ?_);clear K7;refine zi rfl (zK (ty:=129) (b:=q+2) (off:=0) (cs:=vx) rfl rfl rfl (zV H.o (le_refl 6)) qm JV) ?_));go_frame)
  refine bodyPost_ret (xV (P:=prog) (fn:=Tryz.f47) rfl _ rfl (yv H.o rfl) uE rE qm rfl rfl) rfl (YF.bad LE.o NE.o ((z.o).trans (zu (q+2) vx 0 w5) (λi hi e=>by omega)) _)
 have ax:=J c4
 obtain⟨sz,av⟩:=Int.eq_ofNat_of_zero_le (Xu FM.o).1
 have SZ:=J av
 have aQ:=@J (sz≤1200) (by have:=(Xu FM.o).2;omega)
 have ay:=J (λw=>zcK sz (by have:=aQ.o;omega) w)
 by_cases c5:j7 t (xR S L t)<jF (qR t)
 ·have LE:=@J (qP S I L t=17) (by unfold qP;rw[if_neg c1,if_neg c2,if_neg (by simp[c3]),if_neg (by simp[c4]),if_pos c5])
  rw[av] at c5
  generalize ae:j7 t (xR S L t)=FR at*
  generalize jF (sz:Int)=FF at*
  clear c1 c2 c3 c4
  have⟨K0,K1,K2,K3,K4,K5,K6,K7,K8,K9,aj⟩:=tZ11
  go_wp2_with ((first|((with_reducible refine zt ?_);first|(clear K0;with_reducible refine yt 31 ?_;refine zn3 rfl rfl rfl ab.o T.o ?_)|(clear K2;refine zn1 rfl rfl rfl k.o rfl ?_)|(clear K4;refine zn1 rfl rfl rfl o.o rfl ?_)|(clear K6;refine zn1 rfl rfl rfl E.o rfl ?_)|(clear K9;with_reducible refine yt 65 ?_;refine zg rfl (yf (t:=129) rfl rfl (XB _)) ?_))|(clear K1;go_at_call 74;refine HD.o.mono ?_;rintro e w3 ⟨rfl,s⟩;have m:=J s;clear s;have k:=J (za ad.o m.o id);have l:=J (m.o.obj G.o id);have a:=J (r.o.trans0 m.o);have A:=J (QJ (HH.o.fr0 a.o) (HC.o.fr0 a.o) HS.o (Z.o.keep a.o) (by have:=D.o;omega)))|(clear K3;go_at_call 86;refine A.o.mono ?_;rintro e w4 ⟨ov,pv,rfl,f4,hz⟩;rw[ar.o];have HZ:=J (an.o pv ov w4 _ hz);clear hz;have B:=J f4;clear f4;have o:=J (za k.o B.o id);have u:=J (B.o.obj l.o id);have d:=J (a.o.trans0 B.o);have R:=J (Zp (HG.o.keep0 d.o) (Z.o.keep d.o) HZ.o.1 ao.o))|(clear K5;go_at_call 77;refine R.o.mono ?_;rintro e w5 ⟨rfl,f5⟩;rw[ax.o,ae];have O:=J f5;clear f5;have E:=J (za o.o O.o id);have H:=J (O.o.obj u.o id);have z:=J (d.o.trans0 O.o);have ai:=J (VF w5 (Z.o.keep z.o) FM.o))|(clear K7;go_at_call 78;refine ai.o.mono ?_;rintro e w6 ⟨rfl,f6⟩;rw[SZ.o];have F6:=J f6;clear f6;have al:=J (za E.o F6.o id);have af:=J (F6.o.obj H.o id);have ah:=J (z.o.trans0 F6.o))|(clear K8;go_at_call 79;refine(ay.o _).mono ?_;rintro e w7 ⟨rfl,f7⟩;have F7:=J f7;clear f7;have aq:=J (za al.o F7.o id);have aa:=J (F7.o.obj af.o id);have Q:=J (ah.o.trans0 F7.o))|((with_reducible refine zv ?_);clear aj;refine zi rfl (zK (ty:=129) (b:=q+2) (off:=0) (cs:=vx) rfl rfl rfl (zV aa.o (le_refl 6)) qm JV) ?_));go_frame)
  refine bodyPost_ret (xV (P:=prog) (fn:=Tryz.f47) rfl _ rfl (yv aa.o rfl) uE rE qm rfl rfl) rfl (YF.bad LE.o (by decide) ((Q.o).trans (zu (q+2) vx 0 w7) (λi hi e=>by omega)) _)
 have au:(upS (gOf L) (xE L t)).length≤1000:=by have:=qy (HH.o.gr.gok.nd.sublist (jL (xE L t))) (λx hx=>(jL (xE L t)).subset hx);have:=HH.o.gr.len;rw[vn] at*;simp[xq,gOf] at*;omega
 by_cases c6:6≤(upS (gOf L) (xE L t)).length
 ·have LE:=@J (qP S I L t=16) (by unfold qP;rw[if_neg c1,if_neg c2,if_neg (by simp[c3]),if_neg (by simp[c4]),if_neg c5,if_pos c6])
  rw[av] at c5
  generalize ae:j7 t (xR S L t)=FR at*
  generalize jF (sz:Int)=FF at*
  have aN:=J au
  generalize aF:upS (gOf L) (xE L t)=UU at*
  have i6:¬(UU.length:Int)<6:=by omega
  clear c1 c2 c3 c4 au
  have⟨K0,K1,K2,K3,K4,K5,K6,K7,K8,K9,aj,aC⟩:=tZ12
  go_wp2_with ((first|((with_reducible refine zt ?_);first|(clear K0;with_reducible refine yt 31 ?_;refine zn3 rfl rfl rfl ab.o T.o ?_)|(clear K2;refine zn1 rfl rfl rfl k.o rfl ?_)|(clear K4;refine zn1 rfl rfl rfl o.o rfl ?_)|(clear K6;refine zn1 rfl rfl rfl E.o rfl ?_)|(clear aj;with_reducible refine yt 74 ?_;refine zg rfl (yf (t:=129) rfl rfl (XB _)) ?_))|(clear K1;go_at_call 74;refine HD.o.mono ?_;rintro e w3 ⟨rfl,s⟩;have m:=J s;clear s;have k:=J (za ad.o m.o id);have l:=J (m.o.obj G.o id);have a:=J (r.o.trans0 m.o);have A:=J (QJ (HH.o.fr0 a.o) (HC.o.fr0 a.o) HS.o (Z.o.keep a.o) (by have:=D.o;omega)))|(clear K3;go_at_call 86;refine A.o.mono ?_;rintro e w4 ⟨ov,pv,rfl,f4,hz⟩;rw[ar.o];have HZ:=J (an.o pv ov w4 _ hz);clear hz;have B:=J f4;clear f4;have o:=J (za k.o B.o id);have u:=J (B.o.obj l.o id);have d:=J (a.o.trans0 B.o);have R:=J (Zp (HG.o.keep0 d.o) (Z.o.keep d.o) HZ.o.1 ao.o))|(clear K5;go_at_call 77;refine R.o.mono ?_;rintro e w5 ⟨rfl,f5⟩;rw[ax.o,ae];have O:=J f5;clear f5;have E:=J (za o.o O.o id);have H:=J (O.o.obj u.o id);have z:=J (d.o.trans0 O.o);have ai:=J (VF w5 (Z.o.keep z.o) FM.o))|(clear K7;go_at_call 78;refine ai.o.mono ?_;rintro e w6 ⟨rfl,f6⟩;rw[SZ.o];have F6:=J f6;clear f6;have al:=J (za E.o F6.o id);have af:=J (F6.o.obj H.o id);have ah:=J (z.o.trans0 F6.o))|(clear K8;go_at_call 79;refine(ay.o _).mono ?_;rintro e w7 ⟨rfl,f7⟩;have F7:=J f7;clear f7;have aq:=J (za al.o F7.o id);have aa:=J (F7.o.obj af.o id);have Q:=J (ah.o.trans0 F7.o);have P7:=J (HH.o.fr0 Q.o);have ak:=J (zb HZ.o.2 ((O.o.trans0 F6.o).trans0 F7.o) (λ_ _=>id));have aB:=J (y3.own ak.o (λx hx=>HH.o.ids x (Yw hx)));have aR:=P7.o.cells.2.2;have HU:=J (zm3 P7.o.gr (by omega) aB.o aJ.o))|(clear K9;go_at_call 87;refine HU.o.mono ?_;rintro e w8 ⟨uv,rfl,F⟩;rw[aF] at F;obtain⟨ua,uc,aI⟩:=F.1.slice.arg.form;subst aI;have F8:=J F.2;clear F;have aK:=J (za aq.o F8.o id);have ag:=J (F8.o.obj aa.o id);have az:=J (Q.o.trans0 F8.o);have aD:=J (zb ak.o F8.o (λ_ _=>id)))|((with_reducible refine zv ?_);clear aC;refine zi rfl (zK (ty:=129) (b:=q+2) (off:=0) (cs:=vx) rfl rfl rfl (zV ag.o (le_refl 6)) qm JV) ?_));go_frame)
  refine bodyPost_ret (xV (P:=prog) (fn:=Tryz.f47) rfl _ rfl (yv ag.o rfl) uE rE qm rfl rfl) rfl (YF.bad LE.o (by decide) ((az.o).trans (zu (q+2) vx 0 w8) (λi hi e=>by omega)) _)
 ·have LE:=@J (qP S I L t=0) (by unfold qP;rw[if_neg c1,if_neg c2,if_neg (by simp[c3]),if_neg (by simp[c4]),if_neg c5,if_neg c6])
  rw[av] at c5
  generalize ae:j7 t (xR S L t)=FR at*
  generalize jF (sz:Int)=FF at*
  have aN:=J au
  generalize aF:upS (gOf L) (xE L t)=UU at*
  have i6:(UU.length:Int)<6:=by omega
  have i7:¬6≤UU.length:=c6
  clear c1 c2 c3 c4 au
  have⟨K0,K1,K2,K3,K4,K5,K6,K7,K8,K9,aj,aC,aO,aP⟩:=tZ14
  go_wp2_with ((first|((with_reducible refine zt ?_);first|(clear K0;with_reducible refine yt 31 ?_;refine zn3 rfl rfl rfl ab.o T.o ?_)|(clear K2;refine zn1 rfl rfl rfl k.o rfl ?_)|(clear K4;refine zn1 rfl rfl rfl o.o rfl ?_)|(clear K6;refine zn1 rfl rfl rfl E.o rfl ?_)|(clear aj;refine zn1 rfl rfl rfl aK.o rfl ?_)|(clear aC;with_reducible refine yt 78 ?_;refine zg rfl (yf (t:=127) rfl rfl (zmj FR sz _)) ?_)|(clear aO;with_reducible refine yt 79 ?_;refine zg rfl (yf (t:=129) rfl rfl (zmh t.ver U W t.ins.length V t.outs.length Y FR sz _)) ?_))|(clear K1;go_at_call 74;refine HD.o.mono ?_;rintro e w3 ⟨rfl,s⟩;have m:=J s;clear s;have k:=J (za ad.o m.o id);have l:=J (m.o.obj G.o id);have a:=J (r.o.trans0 m.o);have A:=J (QJ (HH.o.fr0 a.o) (HC.o.fr0 a.o) HS.o (Z.o.keep a.o) (by have:=D.o;omega)))|(clear K3;go_at_call 86;refine A.o.mono ?_;rintro e w4 ⟨ov,pv,rfl,f4,hz⟩;rw[ar.o];have HZ:=J (an.o pv ov w4 _ hz);clear hz;have B:=J f4;clear f4;have o:=J (za k.o B.o id);have u:=J (B.o.obj l.o id);have d:=J (a.o.trans0 B.o);have R:=J (Zp (HG.o.keep0 d.o) (Z.o.keep d.o) HZ.o.1 ao.o))|(clear K5;go_at_call 77;refine R.o.mono ?_;rintro e w5 ⟨rfl,f5⟩;rw[ax.o,ae];have O:=J f5;clear f5;have E:=J (za o.o O.o id);have H:=J (O.o.obj u.o id);have z:=J (d.o.trans0 O.o);have ai:=J (VF w5 (Z.o.keep z.o) FM.o))|(clear K7;go_at_call 78;refine ai.o.mono ?_;rintro e w6 ⟨rfl,f6⟩;rw[SZ.o];have F6:=J f6;clear f6;have al:=J (za E.o F6.o id);have af:=J (F6.o.obj H.o id);have ah:=J (z.o.trans0 F6.o))|(clear K8;go_at_call 79;refine(ay.o _).mono ?_;rintro e w7 ⟨rfl,f7⟩;have F7:=J f7;clear f7;have aq:=J (za al.o F7.o id);have aa:=J (F7.o.obj af.o id);have Q:=J (ah.o.trans0 F7.o);have P7:=J (HH.o.fr0 Q.o);have ak:=J (zb HZ.o.2 ((O.o.trans0 F6.o).trans0 F7.o) (λ_ _=>id));have aB:=J (y3.own ak.o (λx hx=>HH.o.ids x (Yw hx)));have aR:=P7.o.cells.2.2;have HU:=J (zm3 P7.o.gr (by omega) aB.o aJ.o))|(clear K9;go_at_call 87;refine HU.o.mono ?_;rintro e w8 ⟨uv,rfl,F⟩;rw[aF] at F;obtain⟨ua,uc,aI⟩:=F.1.slice.arg.form;subst aI;have F8:=J F.2;clear F;have aK:=J (za aq.o F8.o id);have ag:=J (F8.o.obj aa.o id);have az:=J (Q.o.trans0 F8.o);have aD:=J (zb ak.o F8.o (λ_ _=>id)))|((with_reducible refine zv ?_);clear aP;refine zi rfl (zK (ty:=129) (b:=q+2) (off:=0) (cs:=[.int .u32 t.ver,.slice U t.ins.length V,.slice W t.outs.length Y,.int .u64 FR,.int .i64 sz,.int .u64 0]) rfl rfl rfl (zV ag.o (le_refl 6)) qm (znN _ _ _ _ _ _ _ _ _ _)) ?_));go_frame)
  refine bodyPost_ret (xV (P:=prog) (fn:=Tryz.f47) rfl _ rfl (yv (cs:=[.int .u32 t.ver,.slice U t.ins.length V,.slice W t.outs.length Y,.int .u64 FR,.int .i64 sz,.int .u64 0]) ag.o rfl) uE rE qm rfl rfl) rfl ⟨_,_,by rw[LE.o];rfl,az.o.trans (zu (q+2) [.int .u32 t.ver,.slice U t.ins.length V,.slice W t.outs.length Y,.int .u64 FR,.int .i64 sz,.int .u64 0] 0 w8) (λi hi e=>by omega),⟨rfl,znN _ _ _ _ _ _ _ _ _ _⟩,λ_=>⟨by rw[ae,SZ.o];rfl,xj (zb aD.o (zu (q+2) [.int .u32 t.ver,.slice U t.ins.length V,.slice W t.outs.length Y,.int .u64 FR,.int .i64 sz,.int .u64 0] 0 w8) (λj hj e=>by have:=(aD.o.lt j hj).1;have:=m.o.size;have:=Z2.o;omega)) (by rw[hq];have:=m.o.size;have:=Z2.o;omega)⟩⟩
end
structure JU (w0 w:World) (p ma ms g:Nat) (X:Nat→Prop) (C:zd→List Value) (L:List yb):Prop where
 obj:w.heap[p]? =some (.cells #[.map (some ma),.map (some ms),.pointer (some ⟨g,0,none⟩)] 137 (0,0))
 am:∃M,qK w ma M∧∀x cs,(x,cs)∈M↔∃e∈L,e.id=x∧cs=C x
 sm:∃M,zaE w ms M∧∀q x,(q,x)∈M↔∃e∈L,q∈zW e.tx∧e.id=x
 data:∀e∈L,Kept X w (λw=>zhj w e (C e.id))
 apart:p≠ma∧p≠ms∧ma≠ms
 lo3:w0.heap.size≤p∧w0.heap.size≤ma∧w0.heap.size≤ms
 subX:X ma∧X ms
 fr:Fr No w0 w
 ok:∀x∈xq L,zX x
section
variable {w0 w w':World} {p ma ms g N:Nat} {VG X:Nat→Prop} {C:zd→List Value} {L:List yb}
theorem yn.m (h:yn w0 w p ma ms g VG X C L N):JU w0 w p ma ms g X C L:=
 ⟨h.obj,h.am,h.sm,h.data,⟨h.apart.1,h.apart.2.1,h.apart.2.2.1⟩,h.lo3,⟨h.sub _ (.inr (.inl rfl)),h.sub _ (.inr (.inr (.inl rfl)))⟩,h.fr,h.ids⟩
theorem JU.at_ (h:JU w0 w p ma ms g X C L) (b:GC w0 w g VG (gOf L) N) (a:¬VG p∧¬VG ma∧¬VG ms) (c:∀j,poV p ma ms VG j→X j):yn w0 w p ma ms g VG X C L N:=
 ⟨h.obj,b,h.am,h.sm,h.data,⟨h.apart.1,h.apart.2.1,h.apart.2.2,a⟩,h.lo3,c⟩
theorem JU.frV (h:JU w0 w p ma ms g X C L) {U X':Nat→Prop} (f:Fr U w w') (b:¬U p∧¬U ma∧¬U ms) (k:∀j,U j→w0.heap.size≤j) (c:∀j,U j→X j) (m:∀j,j<w.heap.size→X' j→X j) (q:X' ma∧X' ms):JU w0 w' p ma ms g X' C L:=by
 obtain⟨M,l,o⟩:=h.am
 obtain⟨M',a,d⟩:=h.sm
 exact {h with
  obj:=f.obj h.obj b.1
  am:=⟨M,l.keep f b.2.1,o⟩
  sm:=⟨M',a.keep f b.2.2,d⟩
  data:=λe n=>(h.data e n).step (f.mono c) m
  fr:=h.fr.trans f (λi hi e=>by have:=k i e;omega)
  subX:=q}
theorem JU.fr0 (h:JU w0 w p ma ms g X C L) (f:Fr No w w'):JU w0 w' p ma ms g X C L:=
 h.frV f ⟨id,id,id⟩ (λ_ h=>h.elim) (λ_ h=>h.elim) (λ_ _ h=>h) h.subX
theorem JU.cells (h:JU w0 w p ma ms g X C L):w.cell? ⟨p,0,none⟩=some (.map (some ma))∧w.cell? ⟨p,1,none⟩=some (.map (some ms))∧w.cell? ⟨p,2,none⟩=some (.pointer (some ⟨g,0,none⟩)):=by
 have:=zq h.obj
 exact⟨by simpa using this 0 _ rfl,by simpa using this 1 _ rfl,by simpa using this 2 _ rfl⟩
structure Xb (w0 w:World) (p ma ms g:Nat) (X:Nat→Prop) (C:zd→List Value) (L:List yb) (e:yb) (m:Nat):Prop where
 obj:w.heap[p]? =some (.cells #[.map (some ma),.map (some ms),.pointer (some ⟨g,0,none⟩)] 137 (0,0))
 am:∃M,qK w ma M∧∀x cs,(x,cs)∈M↔∃e∈L,e.id=x∧cs=C x
 sm:∃M,zaE w ms M∧∀q x,(q,x)∈M↔q∉(zW e.tx).take m∧∃e∈L,q∈zW e.tx∧e.id=x
theorem Xb.cells {e:yb} {m:Nat} (h:Xb w0 w p ma ms g X C L e m):w.cell? ⟨p,0,none⟩=some (.map (some ma))∧w.cell? ⟨p,1,none⟩=some (.map (some ms)):=by
 have:=zq h.obj
 exact⟨by simpa using this 0 _ rfl,by simpa using this 1 _ rfl⟩
theorem Xb.fr0 {e:yb} {m:Nat} (h:Xb w0 w p ma ms g X C L e m) (f:Fr No w w'):Xb w0 w' p ma ms g X C L e m:=by
 obtain⟨M,c,d⟩:=h.am
 obtain⟨M',a,b⟩:=h.sm
 exact⟨f.obj h.obj id,⟨M,c.keep f id,d⟩,⟨M',a.keep f id,b⟩⟩
theorem zcd {ps:List zd} {n:Nat} {q:zd} (c:ps.Nodup) (h:ps[n]? =some q):q∉ps.take n:=λb=>by
 obtain⟨i,hi⟩:=List.mem_iff_getElem?.1 b
 have a:i<n:=by
  have:=(List.getElem?_eq_some_iff.1 hi).1
  rw[length_take] at this
  omega
 rw[List.getElem?_take_of_lt a] at hi
 have:=(List.getElem?_inj (List.getElem?_eq_some_iff.1 hi).1 c).1 (hi.trans h.symm)
 omega
theorem zfX {l:List zd} {n:Nat} {x:zd} (h:l[n]? =some x):xu L (l.take (n+1))=(xu L (l.take n)).filter λe=>decide (e.id≠x):=by
 unfold xu
 rw[List.filter_filter,take_add_one,h]
 refine List.filter_congr λe _=>?_
 by_cases h1:e.id=x<;>by_cases h2:e.id∈l.take n<;>simp[h1,h2]
theorem zmw (h:JU w0 w p ma ms g X C L) (aA:L.Pairwise λa b=>∀q∈zW a.tx,q∉zW b.tx) (aI:(xq L).Nodup) (aF:∀e∈L,e.tx.ins.length≤1000) {v:Value} {l:List zd} (hl:Kept (λj=>j=ma∨j=ms) w (λw=>y3 w v l)) (hs:∀x∈l,x∈xq L) (aG:l.Nodup) (bh:l.length≤100000):
  Calls prog 92 #[.pointer (some ⟨p,0,none⟩),v] w λe w'=>e=.returned (.tuple #[])∧JU w0 w' p ma ms g X C (xu L l)∧Fr (λj=>j=ma∨j=ms) w w':=by
 have zp:=vO
 have zh:=yR
 obtain⟨va,vc,rfl⟩:=hl.now.2.form
 have HL:=J hl
 have HH:=J h
 have AP:=J aA
 have ND:=J aI
 have aR:=J aF
 have HS:=J hs
 have aS:=J aG
 have AA:=J h.apart
 clear hl h aA aI aF hs aG
 go_enter Tryz.func92,Tryz.ntmps92
 go_wp2_with fail
 go_loopw [10] (λiv wr=>∃n:Nat,iv=.int .i64 n∧n≤l.length∧JU w0 wr p ma ms g X C (xu L (l.take n))∧Fr (λj=>j=ma∨j=ms) w wr) (λiv _=>l.length-(intOf iv).toNat)
 case atStart=>exact⟨0,rfl,zero_le _,by rw[List.take_zero,XH];exact HH.o,Fr.refl _ _⟩
 case round=>
  obtain⟨n,rfl,hn,aL,aD⟩:=hrel
  have D:=J aL
  have FR:=J aD
  clear aL aD
  by_cases a7:n<l.length
  ·have i1:(n:Int)<(l.length:Int):=by omega
   obtain⟨x,hx⟩:∃x,l[n]? =some x:=⟨_,getElem?_eq_getElem a7⟩
   obtain⟨b,off,bf,e0,hr,-⟩:=(HL.o wr FR.o).at_ hx
   cases e0
   obtain⟨e,T,U⟩:=mem_map.1 (HS.o x (mem_of_getElem? hx))
   have aJ:x∉l.take n:=zcd aS.o hx
   have EM:=@J (e∈xu L (l.take n)) (Zr.2 ⟨T,by rw[U];exact aJ⟩)
   have EX:=J U
   have ag:=J (D.o.ok x (by rw[←U];exact mem_map.2 ⟨e,EM.o,rfl⟩))
   have XL:=J (zx ag.o)
   have R1:=J hr
   have aT:=@J ((xq (xu L (l.take n))).Nodup) (by rw[XG];exact ND.o.filter _)
   have al:=J (aR.o e T)
   have aO:=@J (∀a∈xu L (l.take n),a≠e→∀q∈zW e.tx,q∉zW a.tx) (λa B ai q F aM=>by
    have d:=(List.pairwise_iff_getElem.1 AP.o)
    obtain⟨i,hi,rfl⟩:=getElem_of_mem (Zr.1 B).1
    obtain⟨k,hk,E⟩:=getElem_of_mem T
    rcases Nat.lt_trichotomy i k with hik|hik|hik
    ·exact d i k hi hk hik q aM (by rw[E];exact F)
    ·subst hik;exact ai E
    ·exact d k i hk hi hik q (by rw[E];exact F) aM)
   have aZ:=J (zfX (L:=L) hx)
   have ao:=@J (ma<wr.heap.size∧ms<wr.heap.size) (by
    obtain⟨M',d,-⟩:=D.o.am
    obtain⟨M2,u,-⟩:=D.o.sm
    exact⟨d.lt,u.lt⟩)
   have bn:=al.o
   clear hr hx aJ U T
   generalize bg:xu L (l.take n)=V at*
   have RX:=J (zy wr (zf x) 41)
   have FA:=J ((frN wr).alloc (.cells (zf x).toArray 41))
   have⟨K0,K1⟩:=tZ2
   go_wp2_with ((first|((with_reducible refine zt ?_);clear K0;refine zn3 rfl rfl rfl R1.o XL.o ?_)|((with_reducible refine zv ?_);clear K1;refine zob (w:=wr) (cs:=zf x) rfl rfl rfl rfl XL.o zS ?_));go_frame)
   generalize bk:wr.heap.size=qx at*
   generalize ba:wr.alloc (.cells (zf x).toArray 41)=wa at*
   have FD:=J (FA.o.drew)
   have s:=J (D.o.fr0 FD.o)
   have af:=J (za RX.o (frN wa).drew id)
   clear ba
   obtain⟨M,hM,hm⟩:=s.o.am
   obtain⟨ia,ic,oa,oc,ah⟩:=(s.o.data e EM.o).now.form
   have W:YH C V x=[.int .u32 e.tx.ver,.slice ia e.tx.ins.length ic,.slice oa e.tx.outs.length oc,.int .u64 e.fee,.int .i64 e.size,.int .u64 e.added]:=by
    unfold YH
    rw[if_pos (show x∈xq V from mem_map.2 ⟨e,EM.o,EX.o⟩),←EX.o,ah]
   have LK:=J (λw' (h':qK w' ma M)=>Ys (w:=w') ag.o h' hm W)
   have HM:=J hM
   have TQ:=@J (TxQ wa.drew e.tx [.int .u32 e.tx.ver,.slice ia e.tx.ins.length ic,.slice oa e.tx.outs.length oc]) (by
    obtain⟨bq,d,u⟩:=(s.o.data e EM.o).now
    rw[ah] at d
    obtain⟨bl,bm,bo,bp,rfl⟩:=u.form
    unfold zmx at d
    simp only[List.cons_append,List.nil_append,List.cons.injEq,and_true,true_and] at d
    rw[d.1,d.2]
    exact u)
   clear hM hm ah W
   refine wrLx [ff,ff,ff,ff,ff,ff,ff,tt,ff,ff] (λw'=>w'.cell? ⟨p,0,none⟩=some (.map (some ma))∧w'.rangeAt qx 0 (zf x)∧qK w' ma M) ?_ (λK hK=>?_)
   ·exact⟨s.o.cells.1,af.o,HM.o⟩
   generalize wa.drew=wd at*
   repeat((first|(refine zj rfl ?_;constructor;constructor;(focus(first|exact zn7 rfl (λw h=>h.2.1) XL.o|exact λw' h=>zQ (t:=133) rfl rfl rfl (LK.o w' h.2.2)|exact λw' _=>vT (t:=129) (f:=0) rfl rfl (zjt e.tx.ver ia oa e.tx.ins.length ic e.tx.outs.length oc e.fee e.size e.added w')|(rintro w' ⟨s1,s2,s3⟩;go_simp;(try with_reducible rfl);done))))|(refine zl rfl ?_));try simp only[Act.put,pA,pB,pC])
   (refine zE rfl (λK' hK'=>?_))
   go_simp
   refine(vY wd TQ.o al.o).mono ?_
   rintro e' w3 ⟨pv,rfl,aj,f3⟩
   obtain⟨pa,pc,a8⟩:=aj.slice.arg.form
   subst a8
   have Y:=J f3
   have PO:=J aj
   clear f3 aj
   refine nXt hK' ?_ λhS=>?_
   ·exact⟨(s.o.fr0 Y.o).cells.1,za af.o Y.o id,HM.o.keep Y.o id⟩
   try simp only[Act.put,pA,pB,pC]
   repeat((first|(refine zj rfl ?_;constructor;constructor;(focus(first|(rintro w' ⟨s1,s2,s3⟩;go_simp;(try with_reducible rfl);done))))|(refine zl rfl ?_));try simp only[Act.put,pA,pB,pC])
   refine zL (hK.out _ _ ?_)
   have ad:=J (s.o.fr0 Y.o)
   have aw:=@J (∀q∈zW e.tx,q.ok) (λq F=>by obtain⟨y,hy,rfl⟩:=mem_map.1 F;exact TQ.o.oks.1 y hy)
   have ae:=J (vJ e.tx)
   have aX:=J (za af.o Y.o id)
   have aP:=@J (Xb w0 w3 p ma ms g X C V e 0) (⟨ad.o.obj,ad.o.am,by
    obtain⟨M',d,u⟩:=ad.o.sm
    exact⟨M',d,λq y=>by rw[u];simp⟩⟩)
   have aV:=@J (∀j,(Value.slice pa e.tx.ins.length pc).ownBlock=some j→wd.heap.size≤j) (λj hj=>(PO.o.lt j hj).1)
   have aq:=@J (ma<wd.heap.size∧ms<wd.heap.size∧p<wd.heap.size) (by
    obtain⟨M',d,-⟩:=s.o.sm
    exact⟨HM.o.lt,d.lt,yG s.o.obj⟩)
   go_wp2_with fail
   go_loopw [23] (λiv R=>∃m:Nat,iv=.int .i64 m∧m≤e.tx.ins.length∧Xb w0 R p ma ms g X C V e m∧Fr (λj=>j=ms) w3 R) (λiv _=>e.tx.ins.length-(intOf iv).toNat)
   case atStart=>exact⟨0,rfl,zero_le _,aP.o,Fr.refl _ _⟩
   case round=>
    obtain⟨m,rfl,hm,aB,aC⟩:=hrel
    rename World=>R
    have DI:=J aB
    have FI:=J aC
    clear aB aC
    by_cases hmt:m<e.tx.ins.length
    ·have i2:(m:Int)<(e.tx.ins.length:Int):=by omega
     obtain⟨q,F⟩:∃q,(zW e.tx)[m]? =some q:=⟨_,getElem?_eq_getElem (by rw[ae.o];exact hmt)⟩
     have ax:=J (aw.o q (mem_of_getElem? F))
     have aW:=J (zb PO.o FI.o (λj hj e=>by have:=aV.o j hj;have:=aq.o;omega))
     have aK:xN R (.slice pa e.tx.ins.length pc) (zW e.tx):=⟨aw.o,by rw[ae.o];exact aW.o.slice.arg⟩
     obtain⟨b2,bd,bc,e2,aN,-⟩:=aK.at_ F
     injection e2 with e3 e4 e5
     subst e3
     have R2:=J aN
     have PL:=J (zY ax.o)
     have RQ:=J (zy R (zn q) 95)
     have FQ:=J ((frN R).alloc (.cells (zn q).toArray 95))
     have TK:=@J (∀y,y∉(zW e.tx).take (m+1)↔y≠q∧y∉(zW e.tx).take m) (λy=>by
      rw[take_add_one,F]
      simp[and_comm])
     clear aN F e4 e5 aK
     have⟨K0,K1⟩:=tZ2
     go_wp2_with ((first|((with_reducible refine zt ?_);clear K0;refine zn4 rfl rfl rfl R2.o PL.o ?_)|((with_reducible refine zv ?_);clear K1;refine zoc (w:=R) (cs:=zn q) rfl rfl rfl rfl PL.o yI ?_));go_frame)
     generalize bj:R.heap.size=qq at*
     generalize bb:R.alloc (.cells (zn q).toArray 95)=wb at*
     have an:=J FQ.o.drew
     have o:=J (DI.o.fr0 an.o)
     have ay:=J (za RQ.o (frN wb).drew id)
     clear bb
     refine wrLx [ff,ff,ff,ff,ff,tt] (λw'=>w'.cell? ⟨p,1,none⟩=some (.map (some ms))∧w'.rangeAt qq 0 (zn q)) ?_ (λK hK=>?_)
     ·exact⟨o.o.cells.2,ay.o⟩
     generalize wb.drew=z1 at*
     obtain⟨M2,I,P⟩:=o.o.sm
     obtain⟨w5,M5,A,Q,H,O,-⟩:=I.del Jf.keyed VQ (λ_ _=>vr) (xP ax.o) 0 95
     have ab:=J A
     have S:=J O.fr
     have au:=@J (p≠ms∧ma≠ms) (⟨AA.o.2.1,AA.o.2.2⟩)
     have ak:=@J (Xb w0 w5 p ma ms g X C V e (m+1)) (⟨S.o.obj o.o.obj au.o.1,by
      obtain⟨Ma,d,u⟩:=o.o.am
      exact⟨Ma,d.keep S.o au.o.2,u⟩,⟨M5,Q,λy z=>by
      rw[H y z,P,TK.o]
      exact⟨λ⟨a,b,c⟩=>⟨⟨a,b⟩,c⟩,λ⟨⟨a,b⟩,c⟩=>⟨a,b,c⟩⟩⟩⟩)
     have F5:=@J (Fr (λj=>j=ms) w3 w5) ((FI.o.trans0 an.o).trans S.o (λj _ e=>e))
     have R5:=J (za ay.o S.o (λe=>by have:=aq.o;have:=Y.o.size;have:=FI.o.size;omega))
     clear A Q H O I P
     repeat((first|(refine zj rfl ?_;constructor;constructor;(focus(first|exact zn6 rfl (λw h=>h.2) PL.o|(rintro w' ⟨s1,s2⟩;go_simp;(try with_reducible rfl);done))))|(refine zl rfl ?_));try simp only[Act.put,pA,pB,pC])
     (refine zE rfl (λK' hK'=>?_))
     refine yj (jE rfl rfl rfl ab.o) ?_
     refine nXt hK' ?_ λhS=>?_
     ·exact⟨ak.o.cells.2,R5.o⟩
     try simp only[Act.put]
     refine zL (hK.out _ _ ?_)
     go_wp2_with fail
     go_roundw
     case rel=>exact⟨m+1,by go_num,by omega,ak.o,F5.o⟩
     case measure=>simp[intOf];omega
    ·have aH:m=e.tx.ins.length:=by omega
     have i2:¬(m:Int)<(e.tx.ins.length:Int):=by omega
     have a1:=@J ((zW e.tx).take m=zW e.tx) (by rw[aH,←ae.o,take_length])
     have aY:=J (za aX.o FI.o (λe=>by have:=ao.o;omega))
     clear aH
     go_wp2_with fail
     have aa:=J ((frN R).drew)
     have o:=J (DI.o.fr0 aa.o)
     have az:=J (za aY.o aa.o id)
     refine wrLx [ff,ff,ff,ff,ff,tt] (λw'=>w'.cell? ⟨p,0,none⟩=some (.map (some ma))∧w'.rangeAt qx 0 (zf x)) ?_ (λK hK=>?_)
     ·exact⟨o.o.cells.1,az.o⟩
     generalize R.drew=z1 at*
     obtain⟨M2,I,P⟩:=o.o.am
     obtain⟨w5,M5,A,Q,H,O,-⟩:=I.del xT.keyed X7 (λ_ _=>yY) (yq ag.o) 0 41
     have ab:=J A
     have S:=J O.fr
     have ar:=@J (p≠ma∧ms≠ma) (⟨AA.o.1,λe=>AA.o.2.2 e.symm⟩)
     have aQ:=@J (∀a∈V,a.id=x→a=e) (λa B r=>by
      obtain⟨i,hi,aE⟩:=getElem_of_mem B
      obtain⟨k,hk,E⟩:=getElem_of_mem EM.o
      have d:(xq V)[i]? =some x:=by unfold xq;rw[List.getElem?_map,getElem?_eq_getElem hi,aE];exact congrArg some r
      have u:(xq V)[k]? =some x:=by unfold xq;rw[List.getElem?_map,getElem?_eq_getElem hk,E];exact congrArg some EX.o
      have:=(List.getElem?_inj (List.getElem?_eq_some_iff.1 d).1 aT.o).1 (d.trans u.symm)
      subst this
      exact aE.symm.trans E)
     have Z:=@J (Fr (λj=>j=ma∨j=ms) wr w5) ((((FD.o.trans0 Y.o).of0.trans FI.o (λj _ e=>.inr e)).trans0 aa.o).trans S.o (λj _ e=>.inl e))
     have av:=@J (JU w0 w5 p ma ms g X C (xu L (l.take (n+1)))) (by
      rw[aZ.o]
      refine⟨S.o.obj o.o.obj ar.o.1,⟨M5,Q,λy cs=>?_⟩,?_,λa B=>?_,AA.o,D.o.lo3,D.o.subX,D.o.fr.trans Z.o (λi hi e=>by have:=D.o.lo3;rcases e with e|e<;>omega),λy hy=>?_⟩
      ·rw[H y cs,P]
       constructor
       ·rintro⟨d,a,B,r,rfl⟩
        exact⟨a,mem_filter.2 ⟨B,by simpa[r] using d⟩,r,rfl⟩
       ·rintro⟨a,B,r,rfl⟩
        obtain⟨d,u⟩:=mem_filter.1 B
        exact⟨by simpa[r] using u,a,d,r,rfl⟩
      ·obtain⟨M6,d,u⟩:=o.o.sm
       refine⟨M6,d.keep S.o ar.o.2,λq y=>?_⟩
       rw[u,a1.o]
       constructor
       ·rintro⟨F,a,B,G,rfl⟩
        refine⟨a,mem_filter.2 ⟨B,?_⟩,G,rfl⟩
        simp only[decide_eq_true_eq]
        intro r
        rw[aQ.o a B r] at G
        exact F G
       ·rintro⟨a,B,G,rfl⟩
        obtain⟨d,u⟩:=mem_filter.1 B
        refine⟨λF=>aO.o a d (λe=>?_) q F G,a,d,G,rfl⟩
        simp only[decide_eq_true_eq] at u
        exact u (by rw[e];exact EX.o)
      ·exact(D.o.data a (mem_filter.1 B).1).step (Z.o.mono (λj e=>by rcases e with e|e;rw[e];exact D.o.subX.1;rw[e];exact D.o.subX.2)) (λ_ _ h=>h)
      ·obtain⟨a,B,a6⟩:=mem_map.1 hy
       exact D.o.ok y (mem_map.2 ⟨a,(mem_filter.1 B).1,a6⟩))
     have R5:=J (za az.o S.o (λe=>by have:=ao.o;omega))
     have aU:=J av.o.cells.1
     clear A Q H O I P
     repeat((first|(refine zj rfl ?_;constructor;constructor;(focus(first|exact zn7 rfl (λw h=>h.2) XL.o|(rintro w' ⟨s1,s2⟩;go_simp;(try with_reducible rfl);done))))|(refine zl rfl ?_));try simp only[Act.put,pA,pB,pC])
     (refine zE rfl (λK' hK'=>?_))
     refine yj (jE rfl rfl rfl ab.o) ?_
     refine nXt hK' ?_ λhS=>?_
     ·exact⟨aU.o,R5.o⟩
     try simp only[Act.put]
     refine zL (hK.out _ _ ?_)
     go_wp2_with fail
     go_roundw
     case rel=>exact⟨n+1,by go_num,by omega,av.o,FR.o.trans Z.o (λ_ _ h=>h)⟩
     case measure=>simp[intOf];omega
  ·have ai:n=l.length:=by omega
   have i1:¬(n:Int)<(l.length:Int):=by omega
   have PE:=@J (JU w0 wr p ma ms g X C (xu L l)) (by have:=D.o;rw[ai,take_length] at this;exact this)
   go_wp2_with fail
   refine bodyPost_end (results_none rfl _ _ _) rfl ?_
   exact⟨rfl,PE.o,FR.o⟩
end
section
open Go.ChangeShapes Go.WideShapes Go.Deep
section
variable {H:Type} {enc:TypeId×Value→H} {w:World} {base:Nat} {spare:Nat→Bool} {held:Bool}
end
theorem zis {a b:Option Addr} {n m c d:Nat} (h:Value.slice a n c=.slice b m d):a=b∧n=m∧c=d:=by
 injection h with h1 h2 h3
 exact⟨h1,h2,h3⟩
theorem zei {P:Program} (w:World) (t ty e:TypeId) (d:P.underlying t=some (.slice e)) (i:TypeInfo) (hi:P.info? e=some i) (base:Option Addr) (n a c:Nat) (b:n≤a):
  (Builtin.append_ #[t,t] ty #[.slice base n a,.slice none 0 c]).run P w=.ok (.slice base n a) w:=by
 cases base<;>simp[Builtin.append_,run_underlying d,sizeOf,typeInfo,hi,b,storeCells,loadCells,Builtin.lenOf,Builtin.firstCells]
theorem zid {α:Type} {k:Nat} {q:World→α→List Value→Prop} {V:Nat→Prop} {w:World} {j:Option Addr} {n s:Nat} {L:List α} (g:0<k) (r:∀w d cs,q w d cs→cs.length=k) (h:Kept V w (λw=>qU k q w (.slice j n s) L)):∃css:List (List Value),css.length=L.length∧∀(i:Nat) (d:α) (cs:List Value),L[i]? =some d→css[i]? =some cs→∃b off,j=some ⟨b,off,none⟩∧Kept V w (λw=>w.rangeAt b (off+i*k) cs∧q w d cs):=by
 have a:∀i:Fin L.length,∃cs,∃b off,j=some ⟨b,off,none⟩∧Kept V w (λw=>w.rangeAt b (off+i.1*k) cs∧q w L[i.1] cs):=λi=>by
  obtain⟨b,off,p,cs,e,-,-,o⟩:=Vy g r h (getElem?_eq_getElem i.2)
  exact⟨cs,b,off,(zis e).1,o⟩
 refine⟨List.ofFn (λi=>Classical.choose (a i)),by simp,λi d cs m l=>?_⟩
 have hi:i<L.length:=(List.getElem?_eq_some_iff.1 m).1
 have c:cs=Classical.choose (a ⟨i,hi⟩):=by
  rw[List.getElem?_ofFn,dif_pos hi] at l
  exact(Option.some.inj l).symm
 have f:L[i]=d:=(List.getElem?_eq_some_iff.1 m).2
 have:=Classical.choose_spec (a ⟨i,hi⟩)
 rw[←c] at this
 dsimp only at this
 rw[f] at this
 exact this
theorem InQ.len {w:World} {x:InD} {cs:List Value} (h:InQ w x cs):cs.length=34:=by
 obtain⟨b,c,rfl,a,-⟩:=h
 exact vo a _
theorem zfH (w:World) {B:Nat} {v x:Value} {n:Nat} {xs:List Value} {L:List InD} (F:w.ownsRow B 108 34 v n xs) {V:Nat→Prop} (I:Kept V w (λw=>QS w x L)) (hn:n+L.length≤100000) (U:B≤w.heap.size):
  ∃(css:List (List Value)) (t:Value) (w':World),(Builtin.append_ #[32,32] 32 #[v,x]).run prog w=.ok t w'∧css.length=L.length∧(∀(i:Nat) (d:InD) (cs:List Value),L[i]? =some d→css[i]? =some cs→Kept V w (λw=>InQ w d cs))∧(∀cs∈css,cs.length=34)∧
   w'.ownsRow B 108 34 t (n+L.length) (xs++css.flatMap id)∧Fr (λj=>v.ownBlock=some j) w w'∧Yf w v t:=by
 obtain⟨va,K,rfl⟩:=I.now.form
 obtain⟨css,l,m⟩:=zid (by decide) (λ_ _ _ h=>h.len) I
 have q:∀cs∈css,cs.length=34∧∀u∈cs,u.oneCell'=true:=λcs o=>by
  obtain⟨i,hi⟩:=List.mem_iff_getElem?.1 o
  have D:i<L.length:=by rw[←l];exact(List.getElem?_eq_some_iff.1 hi).1
  obtain⟨_,_,_,r⟩:=m i L[i] cs (getElem?_eq_getElem D) hi
  obtain⟨-,ka,kc,rfl,Z,_⟩:=r.now
  exact⟨vo Z _,jQ⟩
 obtain⟨i,hi,hz,hs,X⟩:=info_parts zgV
 have s:(css.flatMap id).length=L.length*34:=by rw[xJ id 34 css (λcs o=>(q cs o).1),l]
 cases hva:va with
 |none=>
  have W:L=[]:=by
   cases L with
   |nil=>rfl
   |cons d L=>
    have T:0<css.length:=by rw[l];simp
    obtain⟨b,off,e,_⟩:=m 0 d css[0] rfl (getElem?_eq_getElem T)
    rw[hva] at e
    cases e
  subst W
  have A:css=[]:=List.eq_nil_of_length_eq_zero l
  subst A
  obtain⟨a,c,e,hle⟩:∃a c,v=.slice a n c∧n≤c:=by
   rcases F.2 with⟨rfl,rfl⟩|⟨g,R,S,rfl,_,_,h,_⟩
   ·exact⟨none,0,rfl,le_refl _⟩
   ·exact⟨_,_,rfl,h⟩
  subst e
  refine⟨[],_,w,zei w _ _ _ Xw i hi a n c K hle,rfl,(λi d cs h=>by simp at h),(λ_ h=>by cases h),?_,Fr.refl _ _,λk h=>.inl h⟩
  simpa using F
 |some ad=>
  rw[hva] at m
  have p:∀j u,(css.flatMap id)[j]? =some u→w.cell? (ad.add j)=some u:=λj u G=>by
   have Y:j<L.length*34:=by rw[←s];exact(List.getElem?_eq_some_iff.1 G).1
   have C:j / 34<L.length:=by omega
   obtain⟨b,off,e,r⟩:=m (j / 34) L[j / 34] css[j / 34] (getElem?_eq_getElem C) (getElem?_eq_getElem (by rw[l];exact C))
   have hr:=r.now.1
   obtain rfl:=Option.some.inj e
   have y:=Zz id 34 css (λcs o=>(q cs o).1) (j / 34) css[j / 34] (getElem?_eq_getElem (by rw[l];exact C)) (j % 34) (by omega)
   rw[show j / 34*34+j % 34=j by omega] at y
   have z:=hr (j % 34) u (by rw[←G,y];rfl)
   rw[Zw]
   rw[show off+j / 34*34+j % 34=off+j by omega] at z
   exact z
  obtain⟨t,w',M,N,O,a4,Q⟩:=V6 (P:=prog) w B 32 32 108 34 64 _ Xw i hi hz hs X rfl (by decide) v n xs F ad L.length K (css.flatMap id) p s (λu E=>by
   obtain⟨cs,o,E⟩:=List.mem_flatMap.1 E
   exact(q cs o).2 u E) (by omega) (by unfold maxLen;omega) U
  exact⟨css,t,w',M,l,λi d cs y z=>(m i d cs y z).elim λb h=>h.elim λoff h=>λw' f=>(h.2 w' f).2,λcs o=>(q cs o).1,N,(Fr.refl _ w).grown O (λk e=>.inr e),Q⟩
end
end Go.Proofs.YtdkkjchclkjleaaGreatDoor
