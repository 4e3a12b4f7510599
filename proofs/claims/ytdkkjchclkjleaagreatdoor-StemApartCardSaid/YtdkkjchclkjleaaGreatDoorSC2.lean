/- Sums of 256 bits, plain, as the program reckons them; a number's bits turned (printed by gen_sha.py). -/
import Derived.Test.YtdkkjchclkjleaaGreatDoorProg
import Derived.Lib.Hide
import Derived.Deep.Cut
import Derived.Maps.RangeWalk
import Derived.Tactics2
import Derived.Laws.IdiomCopy
import Derived.Lib.Bytealg
import Derived.Maps.RangeRun
import Derived.Outline
import Derived.Test.YtdkkjchclkjleaaGreatDoorSC1
set_option linter.unusedVariables false
set_option linter.unusedSimpArgs false
set_option linter.unnecessarySimpa false
set_option linter.all false
set_option maxRecDepth 20000
set_option maxHeartbeats 16000000
namespace Go.Proofs.YtdkkjchclkjleaaGreatDoor
open Go Go.RowKit Go.Maps Go.MapKept
open Go.Proofs.Tryz(prog)
open List(mem_map getElem?_eq_getElem mem_append mem_cons length_append length_map map_append length_take getElem?_map nodup_cons map_cons length_cons append_assoc not_mem_nil setIfInBounds_toArray)
open Nat(le_refl zero_le zero_add)
def ziq:List Int:=[1116352408,1899447441,3049323471,3921009573,961987163,1508970993,2453635748,2870763221,3624381080,310598401,607225278,1426881987,1925078388,2162078206,2614888103,3248222580,3835390401,4022224774,264347078,604807628,770255983,1249150122,1555081692,1996064986,2554220882,2821834349,2952996808,3210313671,3336571891,3584528711,113926993,338241895,666307205,773529912,1294757372,1396182291,1695183700,1986661051,2177026350,2456956037,2730485921,2820302411,3259730800,3345764771,3516065817,3600352804,4094571909,275423344,430227734,506948616,659060556,883997877,958139571,1322822218,1537002063,1747873779,1955562222,2024104815,2227730452,2361852424,2428436474,2756734187,3204031479,3329325298]
def zio:List Int:=[1779033703,3144134277,1013904242,2773480762,1359893119,2600822924,528734635,1541459225]
def rot (m d x:Int):Int:=bits .or .u32 (x*m % 4294967296) (x / d)
abbrev znP (x:Int):Int:=rot 1073741824 4 x
abbrev zmR (x:Int):Int:=rot 67108864 64 x
abbrev zmS (x:Int):Int:=rot 33554432 128 x
abbrev zj5 (x:Int):Int:=rot 2097152 2048 x
abbrev zl7 (x:Int):Int:=rot 524288 8192 x
abbrev zj6 (x:Int):Int:=rot 32768 131072 x
abbrev zj7 (x:Int):Int:=rot 16384 262144 x
abbrev zj8 (x:Int):Int:=rot 8192 524288 x
abbrev zl8 (x:Int):Int:=rot 1024 4194304 x
abbrev zj9 (x:Int):Int:=rot 128 33554432 x
def zfx (x y u c:Int):Int:=IntKind.u32.wrap (c+IntKind.u32.wrap (IntKind.u32.wrap (bits .xor .u32 (bits .xor .u32 (zj6 x) (zj8 x)) (x / 1024)+u)+bits .xor .u32 (bits .xor .u32 (zmS y) (zj7 y)) (y / 8)))
def Y6 (W:List Int) (t:Nat):List Int:=if t<16 then W else W.set (t % 16) (zfx (W.getD ((t-2) % 16) 0) (W.getD ((t-15) % 16) 0) (W.getD ((t-7) % 16) 0) (W.getD (t % 16) 0))
theorem ziF (W:List Int) (t:Nat):(Y6 W t).length=W.length:=by unfold Y6;split<;>simp
def YW (x:Int):Value:=.int .u32 x
theorem XK {n:Int} (a:0≤n) (b:n<9223372036854775808):bits .and .i64 n 15=n % 16:=bits_mask .i64 63 (by decide) (λn a b=>IntWalk.i64_in _ (by omega)) 4 (by decide) n a (by omega)
structure zeb where
 a:Int
 b:Int
 c:Int
 d:Int
 e:Int
 f:Int
 g:Int
 h:Int
 W:List Int
def zlv (s:zeb) (t:Nat):Int:=IntKind.u32.wrap ((s.h+bits .xor .u32 (bits .xor .u32 (zmR s.e) (zj5 s.e)) (zj9 s.e)) % 4294967296+IntKind.u32.wrap (IntKind.u32.wrap (bits .xor .u32 s.g (bits .and .u32 s.e (bits .xor .u32 s.f s.g))+ziq.getD t 0)+(Y6 s.W t).getD (t % 16) 0))
def znQ (s:zeb):Int:=(bits .xor .u32 (bits .xor .u32 (znP s.a) (zl7 s.a)) (zl8 s.a)+bits .or .u32 (bits .and .u32 s.a s.b) (bits .and .u32 s.c (bits .or .u32 s.a s.b))) % 4294967296
def zbd (s:zeb) (t:Nat):zeb:=⟨(zlv s t+znQ s) % 4294967296,s.a,s.b,s.c,(s.d+zlv s t) % 4294967296,s.e,s.f,s.g,Y6 s.W t⟩
def xZ (s:zeb):Nat→zeb
 |0=>s
 |n+1=>zbd (xZ s n) n
def jS (B:List Int):Nat→List Int
 |0=>List.replicate 16 0
 |i+1=>(jS B i).set (i / 4) (bits .or .u32 ((jS B i).getD (i / 4) 0*256 % 4294967296) (B.getD i 0 % 4294967296))
theorem Xt (B:List Int):∀i,(jS B i).length=16
 |0=>by simp[jS]
 |i+1=>by simp[jS,Xt B i]
theorem zb5 {s:zeb} (h:s.W.length=16):∀n,(xZ s n).W.length=16
 |0=>h
 |n+1=>by simp[xZ,zbd,ziF,zb5 h n]
def jj (S B:List Int):List Int:=
 let r:=xZ ⟨S.getD 0 0,S.getD 1 0,S.getD 2 0,S.getD 3 0,S.getD 4 0,S.getD 5 0,S.getD 6 0,S.getD 7 0,jS B 64⟩ 64
 [(S.getD 0 0+r.a) % 4294967296,(S.getD 1 0+r.b) % 4294967296,(S.getD 2 0+r.c) % 4294967296,(S.getD 3 0+r.d) % 4294967296,(S.getD 4 0+r.e) % 4294967296,(S.getD 5 0+r.f) % 4294967296,(S.getD 6 0+r.g) % 4294967296,(S.getD 7 0+r.h) % 4294967296]
theorem zmT (w:World) (x:Int):Calls prog 201 #[.int .u32 x,.int .i64 (-2)] w λe w'=>e=.returned (.int .u32 (znP x))∧w=w':=by
 have a:bits .and .u64 (IntKind.u64.wrap (-2)) 31=30:=by decide+kernel
 go_enter Tryz.func201,Tryz.ntmps201
 go_wp2
 go_ret
 exact⟨rfl,rfl⟩
theorem zmU (w:World) (x:Int):Calls prog 201 #[.int .u32 x,.int .i64 (-6)] w λe w'=>e=.returned (.int .u32 (zmR x))∧w=w':=by
 have a:bits .and .u64 (IntKind.u64.wrap (-6)) 31=26:=by decide+kernel
 go_enter Tryz.func201,Tryz.ntmps201
 go_wp2
 go_ret
 exact⟨rfl,rfl⟩
theorem zmV (w:World) (x:Int):Calls prog 201 #[.int .u32 x,.int .i64 (-7)] w λe w'=>e=.returned (.int .u32 (zmS x))∧w=w':=by
 have a:bits .and .u64 (IntKind.u64.wrap (-7)) 31=25:=by decide+kernel
 go_enter Tryz.func201,Tryz.ntmps201
 go_wp2
 go_ret
 exact⟨rfl,rfl⟩
theorem zll (w:World) (x:Int):Calls prog 201 #[.int .u32 x,.int .i64 (-11)] w λe w'=>e=.returned (.int .u32 (zj5 x))∧w=w':=by
 have a:bits .and .u64 (IntKind.u64.wrap (-11)) 31=21:=by decide+kernel
 go_enter Tryz.func201,Tryz.ntmps201
 go_wp2
 go_ret
 exact⟨rfl,rfl⟩
theorem zlm (w:World) (x:Int):Calls prog 201 #[.int .u32 x,.int .i64 (-13)] w λe w'=>e=.returned (.int .u32 (zl7 x))∧w=w':=by
 have a:bits .and .u64 (IntKind.u64.wrap (-13)) 31=19:=by decide+kernel
 go_enter Tryz.func201,Tryz.ntmps201
 go_wp2
 go_ret
 exact⟨rfl,rfl⟩
theorem zln (w:World) (x:Int):Calls prog 201 #[.int .u32 x,.int .i64 (-17)] w λe w'=>e=.returned (.int .u32 (zj6 x))∧w=w':=by
 have a:bits .and .u64 (IntKind.u64.wrap (-17)) 31=15:=by decide+kernel
 go_enter Tryz.func201,Tryz.ntmps201
 go_wp2
 go_ret
 exact⟨rfl,rfl⟩
theorem zlo (w:World) (x:Int):Calls prog 201 #[.int .u32 x,.int .i64 (-18)] w λe w'=>e=.returned (.int .u32 (zj7 x))∧w=w':=by
 have a:bits .and .u64 (IntKind.u64.wrap (-18)) 31=14:=by decide+kernel
 go_enter Tryz.func201,Tryz.ntmps201
 go_wp2
 go_ret
 exact⟨rfl,rfl⟩
theorem zlp (w:World) (x:Int):Calls prog 201 #[.int .u32 x,.int .i64 (-19)] w λe w'=>e=.returned (.int .u32 (zj8 x))∧w=w':=by
 have a:bits .and .u64 (IntKind.u64.wrap (-19)) 31=13:=by decide+kernel
 go_enter Tryz.func201,Tryz.ntmps201
 go_wp2
 go_ret
 exact⟨rfl,rfl⟩
theorem zlq (w:World) (x:Int):Calls prog 201 #[.int .u32 x,.int .i64 (-22)] w λe w'=>e=.returned (.int .u32 (zl8 x))∧w=w':=by
 have a:bits .and .u64 (IntKind.u64.wrap (-22)) 31=10:=by decide+kernel
 go_enter Tryz.func201,Tryz.ntmps201
 go_wp2
 go_ret
 exact⟨rfl,rfl⟩
theorem zlr (w:World) (x:Int):Calls prog 201 #[.int .u32 x,.int .i64 (-25)] w λe w'=>e=.returned (.int .u32 (zj9 x))∧w=w':=by
 have a:bits .and .u64 (IntKind.u64.wrap (-25)) 31=7:=by decide+kernel
 go_enter Tryz.func201,Tryz.ntmps201
 go_wp2
 go_ret
 exact⟨rfl,rfl⟩
def J6 (W:List Int):Array Value:=(W.map YW).toArray
theorem zfu (W:List Int) (k:Nat) (v:Int):(J6 W).setIfInBounds k (.int .u32 v)=J6 (W.set k v):=by
 unfold J6
 rw[setIfInBounds_toArray,List.map_set]
 rfl
theorem ZP {w:World} {q k:Nat} {W:List Int} {T:TypeId} {f:Nat×Nat} (h:w.heap[q]? =some (.cells (J6 W) T f)) (a:k<W.length):w.cell? ⟨q,k,none⟩=some (.int .u32 (W.getD k 0)):=by
 simp only[World.cell?,h,J6]
 simp[a,YW]
theorem yl {w:World} {b i:Nat} {c:Array Value} {T:TypeId} (h:w.heap[b]? =some (.cells c T (0,0))):w.frozen? ⟨b,i,none⟩=false:=by simp[World.frozen?,h]
theorem zkv {w:World} {q:Nat} {W:List Int} (hW:W.length=16) (p:w.heap[q]? =some (.cells (J6 W) 315 (0,0))) {t:Nat} (ht:t<64):
  Calls prog 202 #[.pointer (some ⟨q,0,none⟩),.int .i64 t] w λe w'=>e=.returned (.int .u32 ((Y6 W t).getD (t % 16) 0))∧w'.heap[q]? =some (.cells (J6 (Y6 W t)) 315 (0,0))∧Fr (λj=>j=q) w w':=by
 have G:=J p
 obtain⟨k,r⟩:∃k,k=t % 16:=⟨_,rfl⟩
 have O:k<16:=by omega
 have e1:bits .and .i64 (t:Int) 15=(k:Int):=by rw[XK (by omega) (by omega),r];omega
 have N:=ZP (k:=k) p (by omega)
 have aa:(k:Int).toNat=k:=by omega
 have Z:(k:Int)<16:=by omega
 have X:(0:Int)≤(k:Int):=by omega
 have Y:¬(k:Int)<0:=by omega
 by_cases h16:t<16
 ·have j1:decide ((16:Int)≤(t:Int))=false:=by simp;omega
  have j2:(t:Int)<16:=by omega
  have o:=@J (Y6 W t=W) (by unfold Y6;rw[if_pos h16])
  rw[←r,o.o]
  generalize W.getD k 0=c at*
  clear p r o
  go_enter Tryz.func202,Tryz.ntmps202
  go_wp2
  go_ret
  exact⟨by rfl,G.o,Fr.refl _ _⟩
 ·have j1:decide ((16:Int)≤(t:Int))=true:=by simp;omega
  have j2:¬(t:Int)<16:=by omega
  obtain⟨b,m⟩:∃k,k=(t-2) % 16:=⟨_,rfl⟩
  obtain⟨a,f⟩:∃k,k=(t-15) % 16:=⟨_,rfl⟩
  obtain⟨d,n⟩:∃k,k=(t-7) % 16:=⟨_,rfl⟩
  have ag:IntKind.i64.wrap ((t:Int)-2)=(t:Int)-2:=IntWalk.i64_in _ (by omega)
  have Q:IntKind.i64.wrap ((t:Int)-15)=(t:Int)-15:=IntWalk.i64_in _ (by omega)
  have ah:IntKind.i64.wrap ((t:Int)-7)=(t:Int)-7:=IntWalk.i64_in _ (by omega)
  have e2:bits .and .i64 ((t:Int)-2) 15=(b:Int):=by rw[XK (by omega) (by omega),m];omega
  have V:bits .and .i64 ((t:Int)-15) 15=(a:Int):=by rw[XK (by omega) (by omega),f];omega
  have e7:bits .and .i64 ((t:Int)-7) 15=(d:Int):=by rw[XK (by omega) (by omega),n];omega
  have l2:b<16:=by omega
  have ad:a<16:=by omega
  have l7:d<16:=by omega
  have i2:(b:Int)<16:=by omega
  have ab:(a:Int)<16:=by omega
  have i7:(d:Int)<16:=by omega
  have o2:(0:Int)≤(b:Int):=by omega
  have af:(0:Int)≤(a:Int):=by omega
  have o7:(0:Int)≤(d:Int):=by omega
  have n2:(b:Int).toNat=b:=by omega
  have ae:(a:Int).toNat=a:=by omega
  have n7:(d:Int).toNat=d:=by omega
  have R:=J (ZP (k:=b) p (by omega))
  have B:=J (ZP (k:=a) p (by omega))
  have S:=J (ZP (k:=d) p (by omega))
  have T:=J N
  have o:=@J (Y6 W t=W.set k (zfx (W.getD b 0) (W.getD a 0) (W.getD d 0) (W.getD k 0))) (by unfold Y6;rw[if_neg h16,r,m,f,n])
  have E:=@J ((W.set k (zfx (W.getD b 0) (W.getD a 0) (W.getD d 0) (W.getD k 0))).getD k 0=zfx (W.getD b 0) (W.getD a 0) (W.getD d 0) (W.getD k 0)) (by
   have:k<W.length:=by omega
   simp[this])
  rw[←r]
  generalize W.getD b 0=x at*
  generalize W.getD a 0=y at*
  generalize W.getD d 0=u at*
  generalize W.getD k 0=c at*
  clear N r m f n
  go_enter Tryz.func202,Tryz.ntmps202
  go_wp2
  refine wrLx [ff,ff,ff,ff,ff,ff,ff,ff,ff,ff,ff,ff,ff,ff,ff,ff] (λw'=>w'.cell? ⟨q,b,none⟩=some (.int .u32 x)∧w'.cell? ⟨q,a,none⟩=some (.int .u32 y)) ?_ (λK hK=>?_)
  ·exact⟨(frN w).drew.cell R.o id,(frN w).drew.cell B.o id⟩
  repeat((first|(refine zj rfl ?_;constructor;constructor;(focus(rintro w' ⟨s1,s2⟩;go_simp;(try with_reducible rfl);done)))|(refine zl rfl ?_));try simp only[Act.put,pA,pB,pC])
  refine zL (hK.out _ _ ?_)
  have A:=J (frN w).drew
  generalize w.drew=g at*
  have H:=tru
  have I:=tru
  have L:=tru
  have M:=tru
  go_upto_region 5 with(first|(have mk:=H.o;go_at_call 201;refine(zln _ _).mono ?_;rintro e F ⟨rfl,rfl⟩;clear mk H)|(have mk:=I.o;go_at_call 201;refine(zlp _ _).mono ?_;rintro e F ⟨rfl,rfl⟩;clear mk I)|(have mk:=L.o;go_at_call 201;refine(zmV _ _).mono ?_;rintro e F ⟨rfl,rfl⟩;clear mk L)|(have mk:=M.o;go_at_call 201;refine(zlo _ _).mono ?_;rintro e F ⟨rfl,rfl⟩;clear mk M))
  have s:=J ((A.o.trans0 (frN g).drew).obj G.o id)
  have FK:=yl (i:=k) s.o
  have C:=(A.o.trans0 (frN g).drew).cell T.o id
  refine ym [ff,ff,ff,ff,ff,ff,ff,ff,ff,ff,ff,ff,ff,ff,ff,ff,ff,ff,ff,ff,tt] (λw'=>w'.cell? ⟨q,k,none⟩=some (.int .u32 c)∧w'.cell? ⟨q,d,none⟩=some (.int .u32 u)) (by kernel_rfl) (by kernel_rfl) 20 (by kernel_rfl) (by kernel_rfl) ?_ (λK hK=>?_)
  ·exact⟨C,(A.o.trans0 (frN g).drew).cell S.o id⟩
  repeat((first|(refine z7 rfl ?_;constructor;constructor;(focus(first|(rintro w' ⟨s1,s2⟩;go_simp;(try with_reducible rfl);done))))|(refine ya rfl ?_));try simp only[Act.put,pA,pB,pC])
  (refine z6 rfl (λK' hK'=>?_))
  go_simp
  refine hK'.out _ _ (λh=>absurd rfl h) (λhS=>?_)
  refine xD (hK.out _ _ ?_)
  generalize P:IntKind.u32.wrap (c+IntKind.u32.wrap (IntKind.u32.wrap (bits .xor .u32 (bits .xor .u32 (zj6 x) (zj8 x)) (x / 1024)+u)+bits .xor .u32 (bits .xor .u32 (zmS y) (zj7 y)) (y / 8)))=v at*
  have z:zfx x y u c=v:=P
  rw[z] at o E
  have l:=@J ((g.setCell ⟨q,k,none⟩ (.int .u32 v)).heap[q]? =some (.cells (J6 (W.set k v)) 315 (0,0))) (by
   have:=heap_setCell_same g q k _ _ (.int .u32 v) s.o
   rw[zfu] at this
   exact this)
  have c9:(g.setCell ⟨q,k,none⟩ (.int .u32 v)).drew.cell? ⟨q,k,none⟩=some (.int .u32 v):=by
   have:=ZP (k:=k) l.o (by simp;omega)
   rw[E.o] at this
   exact this
  have U:=@J (Fr (λj=>j=q) w (g.setCell ⟨q,k,none⟩ (.int .u32 v)).drew) (((A.o.of0 (W:=λj=>j=q)).setCell ⟨q,k,none⟩ (.inr rfl) _).drew)
  have D:=@J ((g.setCell ⟨q,k,none⟩ (.int .u32 v)).drew.heap[q]? =some (.cells (J6 (W.set k v)) 315 (0,0))) (l.o)
  clear P z l
  generalize (g.setCell ⟨q,k,none⟩ (.int .u32 v)).drew=w9 at*
  go_wp2
  go_ret
  exact⟨by rw[o.o,E.o];rfl,by rw[o.o];exact D.o,U.o⟩
end Go.Proofs.YtdkkjchclkjleaaGreatDoor
namespace Go
section
variable {P:Program} {ops:Array Oper} {Q:Exit→Act→World→Prop} {a:Act} {w:World} {rest:List Oper} {o:Oper}
theorem yt (d:Tmp) {op:Op} {t:TypeId} {pos:String} {after:Array Edge} {guard:Option (Nat×Bool)} (h:wpList P ops Q ({dst:=some d,op:=op,type:=t,pos:=pos,after:=after,guard:=guard}::rest) a w):wpList P ops Q ({dst:=some d,op:=op,type:=t,pos:=pos,after:=after,guard:=guard}::rest) a w:=h
theorem zv {op:Op} {t:TypeId} {pos:String} {after:Array Edge} {guard:Option (Nat×Bool)} (h:wpList P ops Q ({dst:=none,op:=op,type:=t,pos:=pos,after:=after,guard:=guard}::rest) a w):wpList P ops Q ({dst:=none,op:=op,type:=t,pos:=pos,after:=after,guard:=guard}::rest) a w:=h
theorem zt (h:wpList P ops Q (o::rest) a w):wpList P ops Q (o::rest) a w:=h
end
end Go
namespace Go.Proofs.YtdkkjchclkjleaaGreatDoor
open Go Go.RowKit Go.Maps Go.MapKept
open Go.Proofs.Tryz(prog)
open List(mem_map getElem?_eq_getElem mem_append mem_cons length_append length_map map_append length_take getElem?_map nodup_cons map_cons length_cons append_assoc not_mem_nil setIfInBounds_toArray)
open Nat(le_refl zero_le zero_add)
structure Zc (w:World):Prop where
 k:∀(j:Nat) (x:Int),ziq[j]? =some x→w.cell? ⟨3,j,none⟩=some (.int .u32 x)
 i:∀(j:Nat) (x:Int),zio[j]? =some x→w.cell? ⟨0,j,none⟩=some (.int .u32 x)
theorem Zc.keep {w w':World} (h:Zc w) {W:Nat→Prop} (f:Fr W w w') (a:¬W 0) (b:¬W 3):Zc w':=⟨λj x e=>f.cell (h.k j x e) b,λj x e=>f.cell (h.i j x e) a⟩
theorem zlu {w:World} (h:Zc w) {t:Nat} (a:t<64):w.cell? ⟨3,t,none⟩=some (.int .u32 (ziq.getD t 0)):=h.k t _ (by
 have:t<ziq.length:=a
 rw[List.getD_eq_getElem?_getD,getElem?_eq_getElem this]
 rfl)
theorem zkK (w:World) (a b c d:Obj):((((w.alloc a).alloc b).alloc c).alloc d).heap[w.heap.size]? =some a∧((((w.alloc a).alloc b).alloc c).alloc d).heap[w.heap.size+1]? =some b∧((((w.alloc a).alloc b).alloc c).alloc d).heap[w.heap.size+1+1]? =some c∧((((w.alloc a).alloc b).alloc c).alloc d).heap[w.heap.size+1+1+1]? =some d∧Fr No w ((((w.alloc a).alloc b).alloc c).alloc d):=
 ⟨Jj (Jj (Jj (ye w a) b) c) d,Jj (Jj (yL (w.alloc a) b (by simp)) c) d,Jj (yL ((w.alloc a).alloc b) c (by simp)) d,yL (((w.alloc a).alloc b).alloc c) d (by simp),(((((frN w).alloc a).alloc b).alloc c).alloc d)⟩
theorem vt {w:World} {b:Nat} {cs:List Value} {T:TypeId} {a:Nat×Nat} (h:w.heap[b]? =some (.cells cs.toArray T a)):w.rangeAt b 0 cs:=λj v c=>by
 simp only[World.cell?,h]
 simpa using c
theorem zjx:(prog.info? 268).map (·.size)=some 64:=by kernel_rfl
theorem zjf:∃d,prog.underlying 268=some d∧d.isRow=true:=vK (by kernel_rfl)
theorem zk0 {B:List Int} (d:B.length=64) {i:Nat} (hi:i<64) (w:World):(Instr.index 268 (.agg (B.map zM).toArray) (.int .i64 i)).run prog w=.ok (.int .u8 (B.getD i 0)) w:=by
 have b:(0≤(i:Int)∧(i:Int)<((64:Nat):Int)):=by omega
 have c:(sizeOf 5).run prog w=.ok 1 w:=by kernel_rfl
 simp[Instr.index,run_underlying Tryz.underlying268,asIntOf,b,c,part,go_sem]
 have a:i<B.length:=by omega
 rw[getElem?_eq_getElem a]
 simp[hi,zM]
theorem zhr {w:World} (hg:Zc w) (x:3<w.heap.size) {S B:List Int} (hS:S.length=8) (hB:B.length=64):
  Calls prog 183 #[.agg (J6 S),.agg (B.map zM).toArray] w λe w'=>e=.returned (.agg (J6 (jj S B)))∧Fr No w w':=by
 have z8:∀w,(zeroValue 267).run prog w=.ok (.agg (J6 [0,0,0,0,0,0,0,0])) w:=λw=>by kernel_rfl
 have av:∀w,(zeroValue 315).run prog w=.ok (.agg (J6 [0,0,0,0,0,0,0,0,0,0,0,0,0,0,0,0])) w:=λw=>by kernel_rfl
 obtain⟨au,ar,aq⟩:=zjf
 obtain⟨b1,b2,b3,b4,f4⟩:=zkK w (.cells (J6 S) 267) (.cells (B.map zM).toArray 268) (.cells (J6 [0,0,0,0,0,0,0,0]) 267) (.cells (J6 [0,0,0,0,0,0,0,0,0,0,0,0,0,0,0,0]) 315)
 have B1:=J b1
 have R2:=J (vt b2)
 have B3:=J b3
 have B4:=J b4
 have F4:=J f4
 have HG:=J hg
 have HW:=J x
 have BL:=@J ((B.map zM).length=64) (by simp[hB])
 have HS:=J hS
 have ai:=J hB
 clear hg b1 b2 b3 b4 f4 x hS hB
 go_enter Tryz.func183,Tryz.ntmps183
 go_wp2_with ((with_reducible refine yt 19 ?_);refine zg rfl (zZ (ty:=268) rfl rfl R2.o ar aq (by rw[BL.o];exact zjx)) ?_;generalize (((w.alloc (.cells (J6 S) 267)).alloc (.cells (B.map zM).toArray 268)).alloc (.cells (J6 [0,0,0,0,0,0,0,0]) 267)).alloc (.cells (J6 [0,0,0,0,0,0,0,0,0,0,0,0,0,0,0,0]) 315)=w4 at*)
 go_loopw [20] (λO wr=>∃i:Nat,O=.int .i64 i∧i≤64∧wr.heap[w.heap.size+1+1+1]? =some (.cells (J6 (jS B i)) 315 (0,0))∧Fr (λj=>j=w.heap.size+1+1+1) w4 wr) (λO _=>64-(intOf O).toNat)
 case atStart=>exact⟨0,rfl,by omega,B4.o,Fr.refl _ _⟩
 case round=>
  obtain⟨i,rfl,hi,hb,fr⟩:=hrel
  have FR:=J fr
  have HB:=J hb
  clear fr hb
  by_cases h:i<64
  ·have i1:(i:Int)<64:=by omega
   have hx:=zk0 ai.o h
   obtain⟨k,q⟩:∃k,k=i / 4:=⟨_,rfl⟩
   have ao:k<16:=by omega
   have ki:(k:Int)<16:=by omega
   have k0:(0:Int)≤(k:Int):=by omega
   have kn:(k:Int).toNat=k:=by omega
   have kd:(i:Int) / 4=(k:Int):=by omega
   have ck:=ZP (k:=k) HB.o (by rw[Xt];exact ao)
   have fz:=yl (i:=k) HB.o
   have FS:=@J (jS B (i+1)=(jS B i).set k (bits .or .u32 ((jS B i).getD k 0*256 % 4294967296) (B.getD i 0 % 4294967296))) (by rw[jS,←q])
   have ak:=J (λv=>heap_setCell_same wr (w.heap.size+1+1+1) k _ _ (.int .u32 v) HB.o)
   generalize (jS B i).getD k 0=c at*
   generalize B.getD i 0=y at*
   clear q
   go_wp2
   go_roundw
   case rel=>exact⟨i+1,by simp,by omega,by rw[FS.o,←zfu];exact ak.o _,FR.o.setCell _ (.inr rfl) _⟩
   case measure=>show 64-(i+1)<64-i;omega
  ·have i1:¬(i:Int)<64:=by omega
   obtain rfl:i=64:=by omega
   have ad:=FR.o.obj B1.o (by omega)
   have ae:=FR.o.obj B3.o (by omega)
   have sc:∀k,k<8→wr.cell? ⟨w.heap.size,k,none⟩=some (.int .u32 (S.getD k 0)):=λk q=>ZP ad (by rw[HS.o];exact q)
   generalize A:S.getD 0 0=Q at*
   generalize C:S.getD 1 0=R at*
   generalize D:S.getD 2 0=T at*
   generalize E:S.getD 3 0=U at*
   generalize F:S.getD 4 0=V at*
   generalize G:S.getD 5 0=X at*
   generalize H:S.getD 6 0=Y at*
   generalize I:S.getD 7 0=Z at*
   have CS:=@J (∀n,Fr No wr n→n.cell? ⟨w.heap.size,0,none⟩=some (.int .u32 Q)∧n.cell? ⟨w.heap.size,1,none⟩=some (.int .u32 R)∧n.cell? ⟨w.heap.size,2,none⟩=some (.int .u32 T)∧n.cell? ⟨w.heap.size,3,none⟩=some (.int .u32 U)∧n.cell? ⟨w.heap.size,4,none⟩=some (.int .u32 V)∧n.cell? ⟨w.heap.size,5,none⟩=some (.int .u32 X)∧n.cell? ⟨w.heap.size,6,none⟩=some (.int .u32 Y)∧n.cell? ⟨w.heap.size,7,none⟩=some (.int .u32 Z)) (λn f=>by
    have z:=λk q=>f.cell (sc k q) id
    have c0:=z 0 (by omega)
    have c1:=z 1 (by omega)
    have c2:=z 2 (by omega)
    have c3:=z 3 (by omega)
    have c4:=z 4 (by omega)
    have c5:=z 5 (by omega)
    have c6:=z 6 (by omega)
    have c7:=z 7 (by omega)
    simp only[A,C,D,E,F,G,H,I] at*
    exact⟨c0,c1,c2,c3,c4,c5,c6,c7⟩)
   have ag:=J ae
   have al:=J HB.o
   clear ad ae sc
   go_upto_region 7 with fail
   refine wrLx [ff,ff,ff,ff,ff,ff,ff,ff,ff,ff,ff,ff,ff,ff,ff,ff,ff,ff,ff,ff,ff,ff,ff,ff] (λW=>W.cell? ⟨w.heap.size,0,none⟩=some (.int .u32 Q)∧W.cell? ⟨w.heap.size,1,none⟩=some (.int .u32 R)∧W.cell? ⟨w.heap.size,2,none⟩=some (.int .u32 T)∧W.cell? ⟨w.heap.size,3,none⟩=some (.int .u32 U)∧W.cell? ⟨w.heap.size,4,none⟩=some (.int .u32 V)∧W.cell? ⟨w.heap.size,5,none⟩=some (.int .u32 X)∧W.cell? ⟨w.heap.size,6,none⟩=some (.int .u32 Y)∧W.cell? ⟨w.heap.size,7,none⟩=some (.int .u32 Z)) ?_ (λK hK=>?_)
   ·exact CS.o _ (frN _).drew
   repeat((first|(refine zj rfl ?_;constructor;constructor;(focus(rintro w' ⟨c0,c1,c2,c3,c4,c5,c6,c7⟩;go_simp;(try with_reducible rfl);done)))|(refine zl rfl ?_));try simp only[Act.put,pA,pB,pC])
   refine zL (hK.out _ _ ?_)
   have FB:=J (frN wr).drew
   generalize wr.drew=wb at*
   have af:=Xt B 64
   generalize aa:jS B 64=WF at*
   have an:=J aa
   clear aa
   obtain⟨l,M⟩:∃l:zeb,l=⟨Q,R,T,U,V,X,Y,Z,WF⟩:=⟨_,rfl⟩
   have p:=J M
   have SL:=@J (l.W.length=16) (by rw[M];exact af)
   clear M af
   go_wp2
   go_loopw [8,9,10,11,12,13,14,15,52] (λva vb vc vd ve vf vg vh O wi=>∃t:Nat,O=.int .i64 t∧t≤64∧va=.int .u32 (xZ l t).a∧vb=.int .u32 (xZ l t).b∧vc=.int .u32 (xZ l t).c∧vd=.int .u32 (xZ l t).d∧ve=.int .u32 (xZ l t).e∧vf=.int .u32 (xZ l t).f∧vg=.int .u32 (xZ l t).g∧vh=.int .u32 (xZ l t).h∧wi.heap[w.heap.size+1+1+1]? =some (.cells (J6 (xZ l t).W) 315 (0,0))∧Fr (λj=>j=w.heap.size+1+1+1) wb wi) (λ_ _ _ _ _ _ _ _ O _=>64-(intOf O).toNat)
   case atStart=>exact⟨0,rfl,by omega,by rw[p.o];rfl,by rw[p.o];rfl,by rw[p.o];rfl,by rw[p.o];rfl,by rw[p.o];rfl,by rw[p.o];rfl,by rw[p.o];rfl,by rw[p.o];rfl,by rw[p.o];exact FB.o.obj al.o id,Fr.refl _ _⟩
   case round=>
    obtain⟨t,rfl,ht,rfl,rfl,rfl,rfl,rfl,rfl,rfl,rfl,hb,fr⟩:=hrel
    have o:=J fr
    have aj:=J hb
    have WL:=J (zb5 SL.o t)
    clear fr hb
    by_cases h:t<64
    ·have i1:(t:Int)<64:=by omega
     have i0:(0:Int)≤(t:Int):=by omega
     have tn:(t:Int).toNat=t:=by omega
     have SN:=@J (xZ l (t+1)=zbd (xZ l t) t) (rfl)
     generalize xZ l t=s at*
     obtain⟨a,b,c,d,e,f,g,hh,W⟩:=s
     generalize L:ziq.getD t 0=kt at*
     generalize N:(Y6 W t).getD (t % 16) 0=wt at*
     have q:=zlu HG.o h
     rw[L] at q
     have x:=HW.o
     have CK:=@J (∀n,Fr (λj=>j=w.heap.size+1+1+1) wb n→n.cell? ⟨3,t,none⟩=some (.int .u32 kt)) (λn f=>by
      have c1:=F4.o.cell q id
      have c2:=FR.o.cell c1 (show ¬(3:Nat)=_ by omega)
      exact f.cell (FB.o.cell c2 id) (show ¬(3:Nat)=_ by omega))
     clear q x
     have M0:=tru
     have M1:=tru
     have M2:=tru
     have M3:=tru
     have M4:=tru
     have M5:=tru
     go_upto_region 12 with(first|(have mk:=M0.o;go_at_call 201;refine(zmU _ _).mono ?_;rintro e w2 ⟨rfl,rfl⟩;clear mk M0)|(have mk:=M1.o;go_at_call 201;refine(zll _ _).mono ?_;rintro e w2 ⟨rfl,rfl⟩;clear mk M1)|(have mk:=M2.o;go_at_call 201;refine(zlr _ _).mono ?_;rintro e w2 ⟨rfl,rfl⟩;clear mk M2))
     have fd:=(frN wr).drew
     refine wrLx [ff,ff,ff,ff,ff,ff,ff,ff,ff,ff,ff,ff,ff,tt,ff,ff,ff] (λn=>n.cell? ⟨3,t,none⟩=some (.int .u32 kt)) ?_ (λK hK=>?_)
     ·exact CK.o _ (o.o.trans0 fd)
     repeat((first|(refine zj rfl ?_;constructor;constructor;(focus(rintro w' _;go_simp;(try with_reducible rfl);done)))|(refine zl rfl ?_));try simp only[Act.put,pA,pB,pC])
     (refine zE rfl (λK' hK'=>?_))
     go_simp
     refine(zkv WL.o (fd.obj aj.o id) h).mono ?_
     rintro e' w6 ⟨rfl,ab,f6⟩
     rw[N]
     have F6:=J ((o.o.trans0 fd).trans f6 (λ_ _ h=>h))
     have ah:=J ab
     clear ab f6 fd
     refine nXt hK' ?_ λhS=>?_
     ·exact CK.o _ F6.o
     try simp only[Act.put,pA,pB,pC]
     repeat((first|(refine zj rfl ?_;constructor;constructor;(focus(rintro w' _;go_simp;(try with_reducible rfl);done)))|(refine zl rfl ?_));try simp only[Act.put,pA,pB,pC])
     refine zL (hK.out _ _ ?_)
     generalize hP:IntKind.u32.wrap ((hh+bits .xor .u32 (bits .xor .u32 (zmR e) (zj5 e)) (zj9 e)) % 4294967296+IntKind.u32.wrap (IntKind.u32.wrap (bits .xor .u32 g (bits .and .u32 e (bits .xor .u32 f g))+kt)+wt))=P at*
     have SP:=@J (zlv ⟨a,b,c,d,e,f,g,hh,W⟩ t=P) (by unfold zlv;simp only[];rw[L,N];exact hP)
     clear hP L N
     go_wp2_with (first|(have mk:=M3.o;go_at_call 201;refine(zmT _ _).mono ?_;rintro e w2 ⟨rfl,rfl⟩;clear mk M3)|(have mk:=M4.o;go_at_call 201;refine(zlm _ _).mono ?_;rintro e w2 ⟨rfl,rfl⟩;clear mk M4)|(have mk:=M5.o;go_at_call 201;refine(zlq _ _).mono ?_;rintro e w2 ⟨rfl,rfl⟩;clear mk M5))
     have r:=@J (xZ l (t+1)=⟨(P+znQ ⟨a,b,c,d,e,f,g,hh,W⟩) % 4294967296,a,b,c,(d+P) % 4294967296,e,f,g,Y6 W t⟩) (by rw[SN.o];unfold zbd;rw[SP.o])
     go_roundw
     case rel=>exact⟨t+1,by simp,by omega,by rw[r.o];rfl,by rw[r.o],by rw[r.o],by rw[r.o],by rw[r.o],by rw[r.o],by rw[r.o],by rw[r.o],by rw[r.o];exact ah.o,F6.o⟩
     case measure=>show 64-(t+1)<64-t;omega
    ·have i1:¬(t:Int)<64:=by omega
     obtain rfl:t=64:=by omega
     have SB:=@J (jj S B=[(Q+(xZ l 64).a) % 4294967296,(R+(xZ l 64).b) % 4294967296,(T+(xZ l 64).c) % 4294967296,(U+(xZ l 64).d) % 4294967296,(V+(xZ l 64).e) % 4294967296,(X+(xZ l 64).f) % 4294967296,(Y+(xZ l 64).g) % 4294967296,(Z+(xZ l 64).h) % 4294967296]) (by
      unfold jj
      simp only[A,C,D,E,F,G,H,I,an.o,←p.o])
     generalize xZ l 64=m at*
     obtain⟨k0,k1,k2,k3,k4,k5,k6,k7⟩:=CS.o _ FB.o
     have q0:=o.o.cell k0 (show ¬w.heap.size=_ by omega)
     have q1:=o.o.cell k1 (show ¬w.heap.size=_ by omega)
     have q2:=o.o.cell k2 (show ¬w.heap.size=_ by omega)
     have q3:=o.o.cell k3 (show ¬w.heap.size=_ by omega)
     have q4:=o.o.cell k4 (show ¬w.heap.size=_ by omega)
     have q5:=o.o.cell k5 (show ¬w.heap.size=_ by omega)
     have q6:=o.o.cell k6 (show ¬w.heap.size=_ by omega)
     have q7:=o.o.cell k7 (show ¬w.heap.size=_ by omega)
     have HR:=J (o.o.obj (FB.o.obj ag.o id) (show ¬w.heap.size+1+1=_ by omega))
     have FF:=@J (Fr No w wr) ((F4.o.trans (FR.o.trans (FB.o.of0 (W:=λj=>j=w.heap.size+1+1+1)) (λ_ _ h=>h)) (λi hi e=>by omega)).trans o.o (λi hi e=>by omega))
     have bl:∀(x0 x1 x2 x3 x4 x5 x6 x7:Int) (w:World),(Instr.build 267 #[(0,.int .u32 x0),(1,.int .u32 x1),(2,.int .u32 x2),(3,.int .u32 x3),(4,.int .u32 x4),(5,.int .u32 x5),(6,.int .u32 x6),(7,.int .u32 x7)]).run prog w=.ok (.agg [.int .u32 x0,.int .u32 x1,.int .u32 x2,.int .u32 x3,.int .u32 x4,.int .u32 x5,.int .u32 x6,.int .u32 x7].toArray) w:=by
      intros
      kernel_rfl
     clear k0 A k1 C k2 D k3 E k4 F k5 G k6 H k7 I
     go_wp2_with (first|((with_reducible refine yt 144 ?_);refine zg rfl (yf (t:=267) rfl rfl (bl _ _ _ _ _ _ _ _ _)) ?_)|((with_reducible refine zv ?_);refine zi rfl (zK (ty:=267) (b:=w.heap.size+1+1) (off:=0) (cs:=[(.int .u32 ((Q+m.a) % 4294967296):Value),(.int .u32 ((R+m.b) % 4294967296):Value),(.int .u32 ((T+m.c) % 4294967296):Value),(.int .u32 ((U+m.d) % 4294967296):Value),(.int .u32 ((V+m.e) % 4294967296):Value),(.int .u32 ((X+m.f) % 4294967296):Value),(.int .u32 ((Y+m.g) % 4294967296):Value),(.int .u32 ((Z+m.h) % 4294967296):Value)]) rfl rfl rfl (zV HR.o (by simp[J6])) (by kernel_rfl) (by intro u hu;simp only[mem_cons,not_mem_nil,or_false] at hu;rcases hu with rfl|rfl|rfl|rfl|rfl|rfl|rfl|rfl<;>rfl)) ?_))
     have HE:=@J ((wr.setCells (w.heap.size+1+1) 0 [(.int .u32 ((Q+m.a) % 4294967296):Value),(.int .u32 ((R+m.b) % 4294967296):Value),(.int .u32 ((T+m.c) % 4294967296):Value),(.int .u32 ((U+m.d) % 4294967296):Value),(.int .u32 ((V+m.e) % 4294967296):Value),(.int .u32 ((X+m.f) % 4294967296):Value),(.int .u32 ((Y+m.g) % 4294967296):Value),(.int .u32 ((Z+m.h) % 4294967296):Value)]).heap[w.heap.size+1+1]? =some (.cells (J6 (jj S B)) 267 (0,0))) (by
      have:=xz (w.heap.size+1+1) 267 [(.int .u32 ((Q+m.a) % 4294967296):Value),(.int .u32 ((R+m.b) % 4294967296):Value),(.int .u32 ((T+m.c) % 4294967296):Value),(.int .u32 ((U+m.d) % 4294967296):Value),(.int .u32 ((V+m.e) % 4294967296):Value),(.int .u32 ((X+m.f) % 4294967296):Value),(.int .u32 ((Y+m.g) % 4294967296):Value),(.int .u32 ((Z+m.h) % 4294967296):Value)] 0 wr _ HR.o
      rw[this,SB.o]
      simp[J6,setM,YW])
     exact bodyPost_ret (v:=.agg (J6 (jj S B))) (results_cell_row (P:=prog) (fn:=Tryz.f183) rfl _ _ (w.heap.size+1+1) 267 (J6 (jj S B)) (0,0) _ rfl HE.o Tryz.underlying267 rfl (by kernel_rfl)) rfl ⟨rfl,FF.o.trans (zu _ _ _ _) (λi hi e=>by omega)⟩
structure jW where
 st:List Int
 op:List Int
 n:Nat
def xY (h:jW) (x:Int):jW:=⟨if(h.n+1) % 64=0 then jj h.st (h.op.set (h.n % 64) x) else h.st,h.op.set (h.n % 64) x,h.n+1⟩
def YR (xs:List Int):Nat→List Int→List Int
 |_,[]=>xs
 |o,c::cs=>YR (xs.set o c) (o+1) cs
theorem Yy:∀(cs xs:List Int) (o:Nat),(YR xs o cs).length=xs.length
 |[],_,_=>rfl
 |c::cs,xs,o=>by rw[YR,Yy cs,List.length_set]
theorem zfi:∀(cs xs:List Int) (o:Nat) (A C:List Value),o+cs.length≤xs.length→setM (A++xs.map zM++C) (A.length+o) (cs.map zM)=A++(YR xs o cs).map zM++C
 |[],_,_,_,_,_=>by simp[setM,YR]
 |c::cs,xs,o,A,C,h=>by
  simp only[length_cons] at h
  rw[map_cons,setM,YR]
  have:=zfi cs (xs.set o c) (o+1) A C (by rw[List.length_set];omega)
  rw[List.map_set] at this
  rw[←this]
  congr 1
  rw[append_assoc,List.set_append_right _ _ (by omega),append_assoc]
  congr 1
  rw[show A.length+o-A.length=o by omega,List.set_append_left _ _ (by rw[length_map];omega)]
def zhl (h:jW) (c:List Int):jW:=⟨if(h.n+c.length) % 64=0 then jj h.st (YR h.op (h.n % 64) c) else h.st,YR h.op (h.n % 64) c,h.n+c.length⟩
theorem zbl:∀(c:List Int) (h:jW),c≠[]→h.n % 64+c.length≤64→c.foldl xY h=zhl h c
 |[],_,hn,_=>absurd rfl hn
 |[x],h,_,_=>by simp[xY,zhl,YR]
 |x::y::r,h,_,hl=>by
  simp only[length_cons] at hl
  have e:(h.n+1) % 64=h.n % 64+1:=by omega
  rw[List.foldl_cons,zbl (y::r) (xY h x) (by simp) (by simp only[xY,length_cons];omega)]
  have a:(xY h x).n=h.n+1:=rfl
  have b:(xY h x).op=h.op.set (h.n % 64) x:=rfl
  have d:(xY h x).st=h.st:=by unfold xY;simp only[];rw[if_neg (by omega)]
  unfold zhl
  rw[a,b,d,e,show h.n+1+(y::r).length=h.n+(x::y::r).length by simp only[length_cons];omega]
  rfl
def yS (h:jW):List Value:=h.st.map YW++h.op.map zM++[.int .u64 h.n]
structure vR (h:jW):Prop where
 st:h.st.length=8
 op:h.op.length=64
theorem VE (S B:List Int):(jj S B).length=8:=rfl
theorem vR.add {h:jW} (ok:vR h) (x:Int):vR (xY h x):=⟨by unfold xY;simp only[];split;exact VE _ _;exact ok.st,by simp[xY,ok.op]⟩
theorem vR.adds:∀ {l:List Int} {h:jW},vR h→vR (l.foldl xY h)
 |[],_,ok=>ok
 |x::r,_,ok=>vR.adds (l:=r) (ok.add x)
theorem Xy:∀(l:List Int) (h:jW),(l.foldl xY h).n=h.n+l.length
 |[],_=>rfl
 |x::r,h=>by
  rw[List.foldl_cons,Xy r]
  simp only[xY,length_cons]
  omega
theorem zeE {h:jW} (ok:vR h):(yS h).length=73:=by simp[yS,ok.st,ok.op]
theorem vF {w:World} {p:Nat} {h:jW} {T:TypeId} (ok:vR h) (c:w.heap[p]? =some (.cells (yS h).toArray T (0,0))):
  w.rangeAt p 0 (h.st.map YW)∧w.rangeAt p 8 (h.op.map zM)∧w.cell? ⟨p,72,none⟩=some (.int .u64 h.n):=by
 have r:=vt c
 refine⟨λj v a=>r j v ?_,λj v a=>?_,?_⟩
 ·have:=(List.getElem?_eq_some_iff.1 a).1
  rw[yS,append_assoc,List.getElem?_append_left this];exact a
 ·have b:=(List.getElem?_eq_some_iff.1 a).1
  have:=r (8+j) v (by
   rw[yS,append_assoc,List.getElem?_append_right (by simp[ok.st]),List.getElem?_append_left (by simp[ok.st] at b⊢;omega)]
   simpa[ok.st] using a)
  rwa [zero_add] at this
 ·have:=r 72 (.int .u64 h.n) (by
   rw[yS,List.getElem?_append_right (by simp[ok.st,ok.op])]
   simp[ok.st,ok.op])
  simpa using this
end Go.Proofs.YtdkkjchclkjleaaGreatDoor
namespace Go
open Go.RowKit Go.Maps Go.MapKept
theorem Xl {P:Program} {t:TypeId} {w:World} {o:Oper} {a:Operand→Value} {parts:Array (Nat×Operand)} {vs:List (Nat×Value)} {cs:List Value} (b:o.op=.build t parts) (c:(parts.toList.map λ(i,x)=>(i,a x))=vs) (h:P.built t vs=some cs.toArray):
  (execOp a o).run P w=.ok (.value (.agg cs.toArray)) w:=by
 have:=run_build w t (parts.map λ(i,x)=>(i,a x)) _ (by rw[Array.toList_map,c];exact h)
 simp only[execOp,b,Sem.run_bind,this,Result.andThen_ok,Sem.run_pure]
end Go
namespace Go.Proofs.YtdkkjchclkjleaaGreatDoor
open Go Go.RowKit Go.Maps Go.MapKept
open Go.Proofs.Tryz(prog)
open List(mem_map getElem?_eq_getElem mem_append mem_cons length_append length_map map_append length_take getElem?_map nodup_cons map_cons length_cons append_assoc not_mem_nil setIfInBounds_toArray)
open Nat(le_refl zero_le zero_add)
theorem Xx {P:Program} {ops:Array Oper} {rest:List Oper} {o:Oper} {a:Act} {w w':World} {Q:Exit→Act→World→Prop} {s x:Operand} {e:Array TypeId} {d f v:Value} (i:o.guard=none)
  (c:o.op=.call {callee:=.builtin .copy,args:= #[s,x],argTypes:=e}) (j:a.eval s=d) (k:a.eval x=f)
  (b:(Builtin.copy_ e o.type #[d,f]).run P w=.ok v w') (h:wpList P ops Q rest (a.put o.dst v) w'):wpList P ops Q (o::rest) a w:=by
 refine wpList_plain i λK' hK'=>?_
 unfold Oper.wp
 have g:(execOp a.eval o).run P w=.ok (.value v) w':=by
  simp[execOp,c,resolve,j,k,invoke,builtin,b,Result.andThen]
 rw[g]
 exact hK' _ _ h
theorem zaA {n:Int} (a:0≤n) (b:n<18446744073709551616):bits .and .u64 n 63=n % 64:=bits_mask .u64 64 (by decide) (λn a b=>by simp[IntKind.wrap,IntKind.bits,IntKind.signed];omega) 6 (by decide) n a (by omega)
def Jd (w:World) (p:Nat) (v:Value) (l:List Int):Prop:=(l=[]∧∃a c,v=.slice a 0 c)∨∃b o c,v=.slice (some ⟨b,o,none⟩) l.length c∧b≠p∧w.rangeAt b o (l.map zM)∧l.length≤c
theorem Jd.keep {w w':World} {p:Nat} {v:Value} {l:List Int} (h:Jd w p v l) (f:Fr (λj=>j=p) w w'):Jd w' p v l:=by
 rcases h with h|⟨b,o,c,d,a,e,g⟩
 ·exact .inl h
 ·exact .inr ⟨b,o,c,d,a,za e f a,g⟩
theorem Jd.form {w:World} {p:Nat} {v:Value} {l:List Int} (h:Jd w p v l):∃a c,v=.slice a l.length c:=by
 rcases h with⟨rfl,a,c,h⟩|⟨b,o,c,d,-⟩
 ·exact⟨a,c,h⟩
 ·exact⟨_,c,d⟩
theorem zjy:(prog.info? 267).map (·.size)=some 8:=by kernel_rfl
theorem zjg:∃d,prog.underlying 267=some d∧d.isRow=true:=vK (by kernel_rfl)
def zmY:Value→Nat
 |.slice _ n _=>n
 |_=>0
theorem za0 {w:World} (hg:Zc w) (R:3<w.heap.size) {p:Nat} {h:jW} (ok:vR h) (N:w.heap[p]? =some (.cells (yS h).toArray 270 (0,0))) (hp:p≠0∧p≠3) {v:Value} {l:List Int} (hl:Jd w p v l) (hn:h.n+l.length≤4611686018427387904):
  Calls prog 156 #[.pointer (some ⟨p,0,none⟩),v] w λe w'=>e=.returned (.tuple #[])∧w'.heap[p]? =some (.cells (yS (l.foldl xY h)).toArray 270 (0,0))∧Fr (λj=>j=p) w w':=by
 have HG:=J hg
 have HW:=J R
 have V:=J hp
 have OK:=J ok
 have HB:=J N
 have HL:=J hl
 clear hg R hp ok N
 obtain⟨va,vc,rfl⟩:=hl.form
 clear hl
 go_enter Tryz.func156,Tryz.ntmps156
 refine wp_block ?_
 go_loopw [1] (λpv wr=>∃d r:List Int,l=d++r∧Jd wr p pv r∧wr.heap[p]? =some (.cells (yS (d.foldl xY h)).toArray 270 (0,0))∧Fr (λj=>j=p) w wr) (λpv _=>zmY pv)
 case atStart=>exact⟨[],l,rfl,HL.o,HB.o,Fr.refl _ _⟩
 case round=>
  obtain⟨d,r,rfl,E,N,fr⟩:=hrel
  have L:=J fr
  have s:=J N
  have g:=J (OK.o.adds (l:=d))
  have ND:=J (Xy d h)
  clear fr N
  generalize ae:d.foldl xY h=a at*
  by_cases hr:r=[]
  ·subst hr
   obtain⟨a0,c0,rfl⟩:=E.form
   clear E
   have j0:¬(0:Int)<0:=by omega
   go_wp2
   (try simp only[Exit.inBlock,Exit.then])
   refine bodyPost_end (results_none rfl _ _ _) rfl ?_
   exact⟨rfl,s.o,L.o⟩
  ·obtain⟨b,o,c,rfl,O,Q,ar⟩:=E.resolve_left (λe=>hr e.1)
   have r0:0<r.length:=by cases r with|nil=>exact absurd rfl hr|cons _ _=>simp
   have i1:(0:Int)<(r.length:Int):=by omega
   have aq:a.n+r.length≤4611686018427387904:=by rw[ND.o];simp only[length_append] at hn;omega
   obtain⟨t,ht⟩:∃t,t=a.n % 64:=⟨_,rfl⟩
   have av:t<64:=by omega
   have e1:bits .and .u64 (a.n:Int) 63=(t:Int):=by rw[zaA (by omega) (by omega),ht];omega
   have al:prog.arrayLen 268=64:=by kernel_rfl
   have t0:(0:Int)≤(t:Int):=by omega
   have t1:(t:Int)≤64:=by omega
   have tn:(t:Int).toNat=t:=by omega
   have tm:¬(64=t):=by omega
   have S1:=@J (∀w,(Instr.sliceAt 268 (.pointer (some ⟨p,8,none⟩)) (some (.int .i64 t)) none none).run prog w=.ok (.slice (some ⟨p,8+t,none⟩) (64-t) (64-t)) w) (λw=>by
    have i8:(sizeOf (prog.elem 268)).run prog w=.ok 1 w:=by kernel_rfl
    rw[run_sliceAt_array_l w _ _ (by kernel_rfl) .i64 t t0 (by rw[al];exact t1),i8]
    simp[slicedAt,al,tm,Zw])
   have s1:=S1.o
   obtain⟨h8,ad,ak⟩:=vF g.o s.o
   obtain⟨k,hk⟩:∃k,k=Nat.min r.length (64-t):=⟨_,rfl⟩
   have k1:0<k∧k≤r.length∧k≤64-t:=by rw[hk];refine⟨?_,Nat.min_le_left _ _,Nat.min_le_right _ _⟩;exact Nat.lt_min.2 ⟨r0,by omega⟩
   have T:=@J (((r.take k).map zM).length=k) (by rw[length_map,length_take];omega)
   have Z:=J (run_copy_cells (P:=prog) wr 106 106 3 5 p (8+t) (64-t) (64-t) ⟨b,o,none⟩ r.length c ((r.take k).map zM) Tryz.underlying106 (by kernel_rfl) (by rw[T.o,hk]) (λj v n=>by
     rw[Zw]
     refine Q j v ?_
     rw[getElem?_map] at n⊢
     rw[List.getElem?_take] at n
     split at n
     ·exact n
     ·simp at n) (λj n=>by
     have af:t+j<64:=by rw[T.o] at n;omega
     have:=ad (t+j) _ (getElem?_eq_getElem (by rw[length_map,g.o.op];exact af))
     rw[show 8+t+j=8+(t+j) by omega,this]
     rfl) (λj n=>yl s.o) (λv hv=>by obtain⟨x,-,rfl⟩:=mem_map.1 hv;rfl))
   rw[T.o] at Z
   obtain⟨H,D⟩:∃H:Option Addr,H=if c=k then some ⟨b,o,none⟩ else some ⟨b,o+k,none⟩:=⟨_,rfl⟩
   have S2:=@J (∀w,(Instr.slice 106 (.slice (some ⟨b,o,none⟩) r.length c) (some (.int .i64 k)) none none).run prog w=.ok (.slice H (r.length-k) (c-k)) w) (λw=>by
    have i8:(sizeOf (prog.elem 106)).run prog w=.ok 1 w:=by kernel_rfl
    rw[Go.run_slice_l (P:=prog) w 106 (some ⟨b,o,none⟩) r.length c (by kernel_rfl) IntKind.i64 (k:Int) (by omega) (by omega),i8,D]
    simp[sliced,Zw])
   have A2:=@J (c≠k→H=some ⟨b,o+k,none⟩) (λh=>by rw[D,if_neg h])
   clear D
   have s2:=S2.o
   have kk:(0:Int)≤(k:Int):=by omega
   have G:=@J ((wr.setCells p (8+t) ((r.take k).map zM)).heap[p]? =some (.cells (yS ⟨a.st,YR a.op t (r.take k),a.n⟩).toArray 270 (0,0))) (by
    have:=xz p 270 ((r.take k).map zM) (8+t) wr _ s.o
    rw[this]
    have e:=zfi (r.take k) a.op t (a.st.map YW) [.int .u64 a.n] (by rw[length_take,g.o.op];omega)
    rw[length_map,g.o.st] at e
    unfold yS
    rw[List.toList_toArray,e])
   have FC:=J (zu p ((r.take k).map zM) (8+t) wr)
   have y:=@J (vR ⟨a.st,YR a.op t (r.take k),a.n⟩) (⟨g.o.st,by rw[Yy];exact g.o.op⟩)
   obtain⟨z,X⟩:∃z,z=(a.n+k) % 64:=⟨_,rfl⟩
   have e3:((a.n:Int)+(k:Int)) % 18446744073709551616=(a.n:Int)+(k:Int):=by omega
   have e2:bits .and .u64 ((a.n:Int)+(k:Int)) 63=(z:Int):=by rw[zaA (by omega) (by omega),X];omega
   have NX:=@J ((d++r.take k).foldl xY h=zhl a (r.take k)) (by
    rw[List.foldl_append,ae]
    exact zbl _ _ (by intro e;have:=T.o;rw[e] at this;simp at this;omega) (by rw[length_take];omega))
   have AC:=@J (zhl a (r.take k)=⟨if z=0 then jj a.st (YR a.op t (r.take k)) else a.st,YR a.op t (r.take k),a.n+k⟩) (by
    have ag:(r.take k).length=k:=by rw[length_take];omega
    unfold zhl
    rw[ag,←X,←ht])
   have SP:=@J (d++r=(d++r.take k)++r.drop k) (by rw[append_assoc,List.take_append_drop])
   have BN:=@J (∀W,Fr (λj=>j=p) wr W→Jd W p (.slice H (r.length-k) (c-k)) (r.drop k)) (λW f=>by
    have ah:(r.drop k).length=r.length-k:=List.length_drop
    by_cases hck:c=k
    ·exact .inl ⟨List.eq_nil_of_length_eq_zero (by omega),H,c-k,by rw[show r.length-k=0 by omega]⟩
    ·refine .inr ⟨b,o+k,c-k,by rw[A2.o hck,ah],O,?_,by omega⟩
     refine za (λj v n=>?_) f O
     rw[getElem?_map,List.getElem?_drop] at n
     have:=Q (k+j) v (by rw[getElem?_map];exact n)
     rwa [show o+(k+j)=o+k+j by omega] at this)
   have ao:=k1.1
   clear ht hk
   by_cases hz0:z=0
   ·have j2:((z:Int)==0)=true:=by rw[hz0];rfl
    have au:a.st=a.st:=rfl
    clear X
    go_upto_region 6 with((with_reducible refine yt 21 ?_);refine Xx rfl rfl rfl rfl Z.o ?_;generalize wr.setCells p (8+t) ((r.take k).map zM)=wc at*;have M:=(vF y.o G.o).2.2;have ab:=yl (i:=72) G.o)
    have A:=@J ((d++r.take k).foldl xY h=⟨jj a.st (YR a.op t (r.take k)),YR a.op t (r.take k),a.n+k⟩) (by rw[NX.o,AC.o,if_pos hz0])
    have fs:Fr (λj=>j=p) wc (wc.setCell ⟨p,72,none⟩ (.int .u64 ((a.n:Int)+(k:Int)))):=(Fr.refl (λj=>j=p) wc).setCell ⟨p,72,none⟩ (.inr rfl) _
    have F:=@J (Fr (λj=>j=p) wr (wc.setCell ⟨p,72,none⟩ (.int .u64 ((a.n:Int)+(k:Int))))) (FC.o.trans fs (λ_ _ h=>h))
    have m:=@J (vR ⟨a.st,YR a.op t (r.take k),a.n+k⟩) (⟨y.o.st,y.o.op⟩)
    have H9:=@J ((wc.setCell ⟨p,72,none⟩ (.int .u64 ((a.n:Int)+(k:Int)))).heap[p]? =some (.cells (yS ⟨a.st,YR a.op t (r.take k),a.n+k⟩).toArray 270 (0,0))) (by
     have:=heap_setCell_same wc p 72 _ _ (.int .u64 ((a.n:Int)+(k:Int))) G.o
     rw[this]
     congr 2
     simp only[yS,setIfInBounds_toArray]
     rw[List.set_append_right _ _ (by simp[g.o.st,Yy,g.o.op])]
     simp[g.o.st,Yy,g.o.op])
    have u:=J g.o.st
    have B:=J m.o.op
    generalize YR a.op t (r.take k)=q at*
    generalize wc.setCell ⟨p,72,none⟩ (.int .u64 ((a.n:Int)+(k:Int)))=I at*
    have BK:=J (λ(w:World) (h1:Zc w) (h2:3<w.heap.size)=>zhr h1 h2 u.o B.o)
    have C:=J (VE a.st q)
    generalize jj a.st q=S at*
    have HD:=J ((frN I).drew.obj H9.o id)
    have GD:=@J (Zc I.drew) ((((HG.o.keep L.o (λe=>V.o.1 e.symm) (λe=>V.o.2 e.symm)).keep F.o (λe=>V.o.1 e.symm) (λe=>V.o.2 e.symm)).keep (frN I).drew id id))
    have SZ:=@J (3<I.drew.heap.size) (by have:=HW.o;have:=L.o.size;have:=F.o.size;have:=(frN I).drew.size;omega)
    obtain⟨d8,y8,r8⟩:=zjg
    obtain⟨an,aj,ai⟩:=zjf
    have L8:=@J ((a.st.map YW).length=8) (by rw[length_map];exact u.o)
    have aa:=@J ((q.map zM).length=64) (by rw[length_map];exact B.o)
    refine ym [ff,ff,ff,ff,ff,ff,ff,ff,ff,tt,ff,ff,tt] (λw'=>w'.rangeAt p 0 (a.st.map YW)∧w'.rangeAt p 8 (q.map zM)) (by kernel_rfl) (by kernel_rfl) 12 (by kernel_rfl) (by kernel_rfl) ?_ (λK hK=>?_)
    ·exact⟨(vF m.o HD.o).1,(vF m.o HD.o).2.1⟩
    repeat((first|(refine z7 rfl ?_;constructor;constructor;(focus(first|exact yK (ty:=267) rfl (λw h=>h.1) y8 r8 (by rw[L8.o];exact zjy)|exact yK (ty:=268) rfl (λw h=>h.2) aj ai (by rw[aa.o];exact zjx)|(rintro w' -;go_simp;(try with_reducible rfl);done))))|(refine ya rfl ?_));try simp only[Act.put,pA,pB,pC])
    (refine z6 rfl (λK' hK'=>?_))
    go_simp
    refine(BK.o _ GD.o SZ.o).mono ?_
    rintro e' Y ⟨rfl,f6⟩
    have F6:=J f6
    have U:=J (f6.obj HD.o id)
    clear f6
    refine hK'.out _ _ (λ_=>?_) (λhS=>?_)
    ·exact⟨(vF m.o U.o).1,(vF m.o U.o).2.1⟩
    try simp only[Act.put,pA,pB,pC]
    repeat((first|(refine z7 rfl ?_;constructor;constructor;(focus(first|(rintro w' -;go_simp;(try with_reducible rfl);done))))|(refine ya rfl ?_));try simp only[Act.put,pA,pB,pC])
    (refine z6 rfl (λK' hK'=>?_))
    refine yN (zK (ty:=267) (b:=p) (off:=0) (cs:=S.map YW) rfl rfl rfl (zV U.o (by simp[yS,u.o,B.o,C.o])) (by rw[length_map,C.o];exact zjy) (λv hv=>by obtain⟨x,-,rfl⟩:=mem_map.1 hv;rfl)) ?_
    refine hK'.out _ _ (λh=>absurd rfl h) (λhS=>?_)
    refine xD (hK.out _ _ ?_)
    have FE:=@J (Fr (λj=>j=p) wr (Y.setCells p 0 (S.map YW))) (((F.o.trans0 (frN I).drew).trans0 F6.o).trans (zu p _ 0 Y) (λ_ _ h=>h))
    have HE:=@J ((Y.setCells p 0 (S.map YW)).heap[p]? =some (.cells (yS ((d++r.take k).foldl xY h)).toArray 270 (0,0))) (by
     rw[A.o]
     have:=xz p 270 (S.map YW) 0 Y _ U.o
     refine this.trans ?_
     congr 2
     have e:=ji (S.map YW) [] (a.st.map YW) (q.map zM++[.int .u64 ((a.n+k:Nat):Int)]) (by rw[length_map,length_map,C.o,u.o])
     simp only[List.nil_append,List.length_nil] at e
     simp only[yS,append_assoc]
     rw[e])
    go_wp2
    go_roundw
    case rel=>exact⟨d++r.take k,r.drop k,SP.o,BN.o _ FE.o,HE.o,L.o.trans FE.o (λ_ _ h=>h)⟩
    case measure=>show r.length-k<r.length;omega
   ·have j2:((z:Int)==0)=false:=by rw[beq_eq_false_iff_ne];omega
    have A:=@J ((d++r.take k).foldl xY h=⟨a.st,YR a.op t (r.take k),a.n+k⟩) (by rw[NX.o,AC.o,if_neg hz0])
    clear X
    go_wp2_with ((with_reducible refine yt 21 ?_);refine Xx rfl rfl rfl rfl Z.o ?_;generalize wr.setCells p (8+t) ((r.take k).map zM)=wc at*;have M:=(vF y.o G.o).2.2;have ab:=yl (i:=72) G.o)
    have fs:Fr (λj=>j=p) wc (wc.setCell ⟨p,72,none⟩ (.int .u64 ((a.n:Int)+(k:Int)))):=(Fr.refl (λj=>j=p) wc).setCell ⟨p,72,none⟩ (.inr rfl) _
    have F:=@J (Fr (λj=>j=p) wr (wc.setCell ⟨p,72,none⟩ (.int .u64 ((a.n:Int)+(k:Int))))) (FC.o.trans fs (λ_ _ h=>h))
    have H9:=@J ((wc.setCell ⟨p,72,none⟩ (.int .u64 ((a.n:Int)+(k:Int)))).heap[p]? =some (.cells (yS ((d++r.take k).foldl xY h)).toArray 270 (0,0))) (by
     rw[A.o]
     have:=heap_setCell_same wc p 72 _ _ (.int .u64 ((a.n:Int)+(k:Int))) G.o
     rw[this]
     congr 2
     simp only[yS,setIfInBounds_toArray]
     rw[List.set_append_right _ _ (by simp[g.o.st,Yy,g.o.op])]
     simp[g.o.st,Yy,g.o.op])
    go_roundw
    case rel=>exact⟨d++r.take k,r.drop k,SP.o,BN.o _ F.o,H9.o,L.o.trans F.o (λ_ _ h=>h)⟩
    case measure=>show r.length-k<r.length;omega
def Yi:jW:=⟨zio,List.replicate 64 0,0⟩
theorem XJ:vR Yi:=⟨rfl,by simp[Yi]⟩
theorem zlt {w:World} (h:Zc w):w.rangeAt 0 0 (zio.map YW):=λj v a=>by
 rw[getElem?_map] at a
 cases hx:zio[j]? with
 |none=>rw[hx] at a;cases a
 |some x=>
  rw[hx] at a
  cases a
  have:=h.i j x hx
  rw[zero_add]
  exact this
theorem zdq:prog.built 270 [(0,.agg (zio.map YW).toArray)]=some (yS Yi).toArray:=by kernel_rfl
theorem zjK {w:World} (a:Zc w):Calls prog 122 #[] w λe w'=>e=.returned (.pointer (some ⟨w.heap.size,0,none⟩))∧w'=w.alloc (.cells (yS Yi).toArray 270):=by
 have R:=J (zlt a)
 clear a
 obtain⟨d,c,b⟩:=zjg
 go_enter Tryz.func122,Tryz.ntmps122
 go_wp2_with (first|((with_reducible refine yt 1 ?_);refine zg rfl (zZ (ty:=267) rfl rfl R.o c b (by kernel_rfl)) ?_)|((with_reducible refine yt 2 ?_);refine zg rfl (Xl (t:=270) rfl rfl zdq) ?_))
 go_ret
 exact⟨rfl,rfl⟩
def Zv (w:World) (p:Nat) (v:Value) (L:List (List Int)):Prop:=
 ∃va vc,v=.slice va L.length vc∧∀(i:Nat) (l:List Int),L[i]? =some l→∃b off pv,va=some ⟨b,off,none⟩∧b≠p∧w.cell? ⟨b,off+i,none⟩=some pv∧Jd w p pv l
theorem Zv.keep {w w':World} {p:Nat} {v:Value} {L:List (List Int)} (h:Zv w p v L) (f:Fr (λj=>j=p) w w'):Zv w' p v L:=by
 obtain⟨m,n,e,h⟩:=h
 refine⟨m,n,e,λi l hi=>?_⟩
 obtain⟨b,off,k,c,a,d,g⟩:=h i l hi
 exact⟨b,off,k,c,a,f.cell d a,g.keep f⟩
theorem ziH {w:World} (z:Zc w) (m:3<w.heap.size) {p:Nat} {h:jW} (ok:vR h) (g:w.heap[p]? =some (.cells (yS h).toArray 270 (0,0))) (B:p≠0∧p≠3) {v:Value} {L:List (List Int)} (A:Zv w p v L) (Y:L.length≤1000000) (hn:h.n+L.flatten.length≤4611686018427387904):
  Calls prog 123 #[.pointer (some ⟨p,0,none⟩),v] w λe w'=>e=.returned (.int .i64 0)∧w'.heap[p]? =some (.cells (yS (L.flatten.foldl xY h)).toArray 270 (0,0))∧Fr (λj=>j=p) w w':=by
 have I:=J z
 have M:=J m
 have r:=J B
 have O:=J ok
 have G:=J g
 have K:=J A
 obtain⟨va,vc,rfl,-⟩:=A
 clear z m B ok g
 go_enter Tryz.func123,Tryz.ntmps123
 go_wp2
 go_loopw [11] (λu wr=>∃n:Nat,u=.int .i64 n∧n≤L.length∧wr.heap[p]? =some (.cells (yS ((L.take n).flatten.foldl xY h)).toArray 270 (0,0))∧Fr (λj=>j=p) w wr) (λu _=>L.length-(intOf u).toNat)
 case atStart=>exact⟨0,rfl,zero_le _,G.o,Fr.refl _ _⟩
 case round=>
  obtain⟨n,rfl,S,g,fr⟩:=hrel
  have d:=J fr
  have f:=J g
  clear fr g
  by_cases k:n<L.length
  ·have U:(n:Int)<(L.length:Int):=by omega
   obtain⟨l,o⟩:∃l,L[n]? =some l:=⟨_,getElem?_eq_getElem k⟩
   obtain⟨V,W,T,i⟩:=K.o.keep d.o
   obtain⟨b,off,pv,t,R,c1,c⟩:=i n l o
   cases T
   subst t
   obtain⟨pa,pc,rfl⟩:=c.form
   have C:=J c
   have E:=@J ((L.take (n+1)).flatten.foldl xY h=l.foldl xY ((L.take n).flatten.foldl xY h)) (by rw[List.take_add_one,o];simp)
   have N:=@J (((L.take n).flatten.foldl xY h).n+l.length≤4611686018427387904) (by
    rw[Xy]
    have:L=L.take n++l::L.drop (n+1):=by
     have y:=(List.take_append_drop n L).symm
     rw[List.drop_eq_getElem_cons k,(List.getElem?_eq_some_iff.1 o).2] at y
     exact y
    have Q:=congrArg (λX=>X.flatten.length) this
    simp only[List.flatten_append,List.flatten_cons,length_append] at Q
    omega)
   have s:=J (O.o.adds (l:=(L.take n).flatten))
   have F:=J (I.o.keep d.o (λe=>r.o.1 e.symm) (λe=>r.o.2 e.symm))
   have P:=@J (3<wr.heap.size) (by have:=M.o;have:=d.o.size;omega)
   generalize (L.take n).flatten.foldl xY h=Z at*
   clear c i o
   go_wp2_with (go_at_call 156;refine(za0 F.o P.o s.o f.o r.o C.o N.o).mono ?_;rintro e w2 ⟨rfl,a,x⟩;rw[←E.o] at a;have q:=J a;have D:=J (d.o.trans x (λ_ _ h=>h));clear a x)
   go_roundw
   case rel=>exact⟨n+1,by simp,by omega,q.o,D.o⟩
   case measure=>show L.length-(n+1)<L.length-n;omega
  ·have U:¬(n:Int)<(L.length:Int):=by omega
   have H:=@J (wr.heap[p]? =some (.cells (yS (L.flatten.foldl xY h)).toArray 270 (0,0))) (by
    have:=f.o
    rwa [show L.take n=L by rw[show n=L.length by omega,List.take_length]] at this)
   go_wp2
   go_ret
   exact⟨rfl,H.o,d.o⟩
def Vr (n:Nat):Nat:=(120-n % 64) % 64
theorem zjV (n:Nat):(n+Vr n) % 64=56:=by unfold Vr;omega
theorem zld {n z:Nat} (h:z<Vr n):(n+z) % 64≠56:=by unfold Vr at h;omega
def zb8 (n:Nat):List Int:=[((n:Int)*8 % 18446744073709551616) / 72057594037927936 % 256,((n:Int)*8 % 18446744073709551616) / 281474976710656 % 256,((n:Int)*8 % 18446744073709551616) / 1099511627776 % 256,((n:Int)*8 % 18446744073709551616) / 4294967296 % 256,((n:Int)*8 % 18446744073709551616) / 16777216 % 256,((n:Int)*8 % 18446744073709551616) / 65536 % 256,((n:Int)*8 % 18446744073709551616) / 256 % 256,((n:Int)*8 % 18446744073709551616) % 256]
def Qq (x:Int):List Int:=[x / 16777216 % 256,x / 65536 % 256,x / 256 % 256,x % 256]
def Yj (h:jW):jW:=(zb8 h.n).foldl xY ((List.replicate (Vr (h.n+1)) 0).foldl xY (xY h 128))
def zdZ (h:jW):List Int:=(Yj h).st.flatMap Qq
def x9 (l:List Int):List Int:=zdZ (l.foldl xY Yi)
def vL (l:List Int):List Int:=x9 (x9 l)
def Yv (B:List Int) (m:Nat):List Int:=B.take m++List.replicate (32-m) 0
theorem ze2 {B:List Int} (a:B.length=32) {m:Nat} (b:m≤32):(Yv B m).length=32:=by simp[Yv];omega
theorem Vq {B:List Int} (c:B.length=32) {m:Nat} (d:m<32):(Yv B m).set m (B.getD m 0)=Yv B (m+1):=by
 unfold Yv
 have a:32-m=(32-(m+1))+1:=by omega
 have b:(B.take m).length=m:=by simp;omega
 rw[a,List.replicate_succ,List.set_append_right _ _ (by omega),b,Nat.sub_self,List.set_cons_zero,List.take_add_one,append_assoc]
 simp[List.getD_eq_getElem?_getD,getElem?_eq_getElem (show m<B.length by omega)]
theorem zbx:∀(S:List Int),(S.flatMap Qq).length=4*S.length
 |[]=>rfl
 |x::S=>by
  rw[List.flatMap_cons,length_append,zbx S,length_cons]
  have:(Qq x).length=4:=rfl
  omega
theorem flat_get:∀(S:List Int) (i k:Nat),k<4→i<S.length→(S.flatMap Qq).getD (4*i+k) 0=(Qq (S.getD i 0)).getD k 0
 |[],_,_,_,h=>absurd h (by simp)
 |x::S,0,k,hk,_=>by
  rcases(show k=0∨k=1∨k=2∨k=3 by omega) with rfl|rfl|rfl|rfl<;>rfl
 |x::S,i+1,k,hk,h=>by
  have ih:=flat_get S i k hk (by simpa using h)
  have e:4*(i+1)+k=(4*i+k)+4:=by omega
  rw[List.flatMap_cons,e]
  exact ih
theorem zjR {B:List Int} (a:B.length=32):Yv B 32=B:=by
 unfold Yv
 rw[List.take_of_length_le (by omega)]
 simp
theorem zbb {B:List Int} (a:B.length=32) {m:Nat} (b:m<32):∃x,((Yv B m).map zM)[m]? =some (.int .u8 x):=
 ⟨(Yv B m)[m]'(by rw[ze2 a (by omega)];exact b),by rw[getElem?_map,getElem?_eq_getElem (by rw[ze2 a (by omega)];exact b)];rfl⟩
theorem zk2 {S:List Int} (hS:S.length=8) {i:Nat} (hi:i<8) (w:World):(Instr.index 267 (.agg (S.map YW).toArray) (.int .i64 i)).run prog w=.ok (.int .u32 (S.getD i 0)) w:=by
 have b:(0≤(i:Int)∧(i:Int)<((8:Nat):Int)):=by omega
 have c:(sizeOf 31).run prog w=.ok 1 w:=by kernel_rfl
 simp[Instr.index,run_underlying Tryz.underlying267,asIntOf,b,c,part,go_sem]
 have a:i<S.length:=by omega
 rw[getElem?_eq_getElem a]
 simp[hi,YW]
theorem zbF:(prog.info? 270).map (·.size)=some 73:=by kernel_rfl
theorem zfR:∃d,prog.underlying 270=some d∧d.isRow=true:=vK (by kernel_rfl)
theorem zeF {h:jW}:∀u∈yS h,u.oneCell'=true:=λu a=>by
 simp only[yS,mem_append,mem_map,List.mem_singleton] at a
 rcases a with(⟨x,-,rfl⟩|⟨x,-,rfl⟩)|rfl<;>rfl
theorem zbp (w:World) {p:Nat} (x:Int) (a:p≠w.heap.size):Jd (w.alloc (.cells #[.int .u8 x] 5)) p (.slice (some ⟨w.heap.size,0,none⟩) 1 1) [x]:=
 .inr ⟨w.heap.size,0,1,rfl,λe=>a e.symm,zy w [Value.int .u8 x] 5,le_refl _⟩
def xC:Array Value:=((List.replicate 32 (0:Int)).map zM).toArray
def zkx:Array Value:=(yS ⟨List.replicate 8 0,List.replicate 64 0,0⟩).toArray
theorem zfz:zkx.size=73:=by kernel_rfl
def zfA:Array Value:=((List.replicate 8 (0:Int)).map zM).toArray
def szL (n i:Nat):List Int:=(zb8 n).take i++List.replicate (8-i) 0
def zeR (w:World) (p N:Nat):Nat:=match w.cell? ⟨p,72,none⟩ with
 |some (.int _ n)=>N-n.toNat
 |_=>0
theorem qC:(prog.info? 41).map (·.size)=some 32:=by kernel_rfl
theorem zbt:∃d,prog.underlying 41=some d∧d.isRow=true:=vK (by kernel_rfl)
theorem zkh {w:World} (hg:Zc w) (aj:3<w.heap.size) {p:Nat} {h:jW} (ok:vR h) (hb:w.heap[p]? =some (.cells (yS h).toArray 270 (0,0))) (hp:p≠0∧p≠3) (hn:h.n≤1000000000000):
  Calls prog 124 #[.pointer (some ⟨p,0,none⟩)] w λe w'=>e=.returned (.tuple #[.agg ((zdZ h).map zM).toArray,.int .i64 0])∧Fr No w w':=by
 have HG:=J hg
 have I:=J aj
 have OK:=J ok
 have HB:=J hb
 obtain⟨dH,yH,rH⟩:=zfR
 have zH:∀w,(zeroValue 270).run prog w=.ok (.agg zkx) w:=λw=>by kernel_rfl
 have aB:∀w,(zeroValue 41).run prog w=.ok (.agg xC) w:=λw=>by kernel_rfl
 have RH:=@J (∀W,Fr No w W→W.rangeAt p 0 (yS h)) (λW f=>vt (f.obj hb id))
 have HL:=J (zeE ok)
 clear hg aj hp ok hb
 go_enter Tryz.func124,Tryz.ntmps124
 have F1:=@J (Fr No w (w.alloc (.cells xC 41))) ((frN w).alloc _)
 have B1:=J (ye w (.cells xC 41))
 have o:=@J (w.heap.size<(w.alloc (.cells xC 41)).heap.size) (by simp)
 go_wp2_with (first|((with_reducible refine yt 16 ?_);refine zg rfl (zZ (ty:=270) rfl rfl (RH.o _ F1.o) yH rH (by rw[HL.o];exact zbF)) ?_;generalize w.alloc (.cells xC 41)=Q at*;generalize ay:w.heap.size=q2 at*)|((with_reducible refine zv ?_);refine zi rfl (zm (w:=Q) (ty:=270) (cs:=yS h) rfl rfl rfl (by rw[HL.o];exact zfz) (by rw[HL.o];exact zbF) zeF) ?_;have B2:=J (ye Q (.cells (yS h).toArray 270));have F2:=@J (Fr No Q (Q.alloc (.cells (yS h).toArray 270))) ((frN Q).alloc _);have Q2:=@J (Q.heap.size<(Q.alloc (.cells (yS h).toArray 270)).heap.size) (by simp);generalize Q.alloc (.cells (yS h).toArray 270)=w2 at*;generalize ax:Q.heap.size=g at*)|(go_at_call 156;refine(za0 (p:=g) (((HG.o.keep F1.o id id).keep F2.o id id).keep ((frN w2).alloc (.cells #[.int .u8 128] 5)) id id) (by have:=o.o;have:=Q2.o;have:=I.o;simp;omega) OK.o (((frN w2).alloc (.cells #[.int .u8 128] 5)).obj B2.o id) ⟨by have:=o.o;have:=I.o;omega,by have:=o.o;have:=I.o;omega⟩ (zbp w2 128 (by have:=Q2.o;omega)) (by simp;omega)).mono ?_;rintro e R ⟨rfl,af,f3⟩;have B3:=J af;have Z:=@J (Fr (λj=>j=g) w2 R) ((((frN w2).alloc (.cells #[.int .u8 128] 5)).of0 (W:=λj=>j=g)).trans f3 (λ_ _ h=>h));clear af f3))
 have aa:=@J (Zc R) (((HG.o.keep F1.o id id).keep F2.o id id).keep Z.o (by have:=o.o;have:=I.o;omega) (by have:=o.o;have:=I.o;omega))
 have C:=@J (g≠0∧g≠3∧3<R.heap.size∧g<R.heap.size) (⟨by have:=o.o;have:=I.o;omega,by have:=o.o;have:=I.o;omega,by have:=o.o;have:=I.o;have:=Q2.o;have:=Z.o.size;omega,by have:=Q2.o;have:=Z.o.size;omega⟩)
 have ad:=J (OK.o.adds (l:=[128]))
 have N1:=@J ((([128]:List Int).foldl xY h).n=h.n+1) (rfl)
 have H1:=@J (([128]:List Int).foldl xY h=xY h 128) (rfl)
 generalize ([128]:List Int).foldl xY h=a at*
 have pl:Vr a.n<64:=by unfold Vr;omega
 have n1:a.n≤1000000000001:=by rw[N1.o];omega
 go_loopw [19] (λ_ wr=>∃z:Nat,z≤Vr a.n∧wr.heap[g]? =some (.cells (yS ((List.replicate z 0).foldl xY a)).toArray 270 (0,0))∧Fr (λj=>j=g) R wr) (λ_ wr=>zeR wr g (a.n+Vr a.n))
 case atStart=>exact⟨0,zero_le _,B3.o,Fr.refl _ _⟩
 case round=>
  obtain⟨z,hz,X,fz⟩:=hrel
  have T:=J fz
  have BZ:=J X
  have L:=J (ad.o.adds (l:=List.replicate z 0))
  have NZ:=@J (((List.replicate z 0).foldl xY a).n=a.n+z) (by rw[Xy,List.length_replicate])
  have SZ:=@J ((List.replicate (z+1) 0).foldl xY a=([0]:List Int).foldl xY ((List.replicate z 0).foldl xY a)) (by rw[List.replicate_succ',List.foldl_append])
  have HX:=@J ((List.replicate z 0).foldl xY a=(List.replicate z 0).foldl xY a) (rfl)
  generalize ai:(List.replicate z 0).foldl xY a=hh at*
  clear HX
  have HX:=J ai
  clear ai
  obtain⟨-,-,aq⟩:=vF L.o X
  have LM:=@J (zeR wr g (a.n+Vr a.n)=a.n+Vr a.n-(a.n+z)) (by unfold zeR;rw[aq,NZ.o];simp only[];omega)
  clear fz X
  obtain⟨m,hm⟩:∃m,m=hh.n % 64:=⟨_,rfl⟩
  have e1:bits .and .u64 (hh.n:Int) 63=(m:Int):=by have:=NZ.o;rw[zaA (by omega) (by omega),hm];omega
  by_cases hzp:z=Vr a.n
  ·have au:m=56:=by rw[hm,NZ.o,hzp];exact zjV _
   subst au
   have j1:(((56:Nat):Int)==56)=true:=rfl
   have z8:∀w,(zeroValue 272).run prog w=.ok (.agg zfA) w:=λw=>by kernel_rfl
   have F4:=@J (Fr No wr (wr.alloc (.cells zfA 272))) ((frN wr).alloc _)
   have B4:=J (ye wr (.cells zfA 272))
   have M:=@J (g<wr.heap.size) (by have:=C.o.2.2.2;have:=T.o.size;omega)
   have PP:=@J (p<w.heap.size∧p≠g) (⟨yG HB.o,by have:=yG HB.o;have:=o.o;omega⟩)
   have ak:=@J ((wr.alloc (.cells zfA 272)).cell? ⟨p,72,none⟩=some (.int .u64 h.n)) (F4.o.cell (T.o.cell (Z.o.cell (F2.o.cell (F1.o.cell (vF OK.o HB.o).2.2 id) id) PP.o.2) PP.o.2) id)
   clear hm
   go_wp2
   generalize wr.alloc (.cells zfA 272)=w4 at*
   generalize az:wr.heap.size=r at*
   go_loopw [25] (λE wi=>∃i:Nat,E=.int .i64 i∧i≤8∧wi.heap[r]? =some (.cells ((szL h.n i).map zM).toArray 272 (0,0))∧Fr (λj=>j=r) w4 wi) (λE _=>8-(intOf E).toNat)
   case atStart=>exact⟨0,rfl,by omega,B4.o,Fr.refl _ _⟩
   case round=>
    obtain⟨i,rfl,hi,N,fi⟩:=hrel
    have H:=J fi
    have K:=J N
    have PQ:=@J (p≠r) (by have:=PP.o.1;have:=o.o;have:=M.o;have:=Q2.o;omega)
    have c7:=fi.cell ak.o PQ.o
    have ar:=λi=>yl (i:=i) N
    have q:=vt N
    clear fi N
    by_cases h8:i<8
    ·rcases(show i=0∨i=1∨i=2∨i=3∨i=4∨i=5∨i=6∨i=7 by omega) with rfl|rfl|rfl|rfl|rfl|rfl|rfl|rfl
     ·have d:=q 0 (.int .u8 0) rfl
      simp only[zero_add] at d
      clear q
      have c:=@J (∀v:Int,v=((h.n:Int)*8 % 18446744073709551616) / 72057594037927936 % 256→some (Obj.cells (((szL h.n 0).map zM).toArray.setIfInBounds 0 (.int .u8 v)) 272 (0,0))=some (Obj.cells ((szL h.n 1).map zM).toArray 272 (0,0))) (λv e=>by subst e;rfl)
      go_wp2
      go_roundw
      case rel=>exact⟨1,rfl,by omega,(heap_setCell_same wr r 0 _ _ _ K.o).trans (c.o _ (by omega)),H.o.setCell _ (.inr rfl) _⟩
      case measure=>simp[intOf]
     ·have d:=q 1 (.int .u8 0) rfl
      simp only[zero_add] at d
      clear q
      have c:=@J (∀v:Int,v=((h.n:Int)*8 % 18446744073709551616) / 281474976710656 % 256→some (Obj.cells (((szL h.n 1).map zM).toArray.setIfInBounds 1 (.int .u8 v)) 272 (0,0))=some (Obj.cells ((szL h.n 2).map zM).toArray 272 (0,0))) (λv e=>by subst e;rfl)
      go_wp2
      go_roundw
      case rel=>exact⟨2,rfl,by omega,(heap_setCell_same wr r 1 _ _ _ K.o).trans (c.o _ (by omega)),H.o.setCell _ (.inr rfl) _⟩
      case measure=>simp[intOf]
     ·have d:=q 2 (.int .u8 0) rfl
      simp only[zero_add] at d
      clear q
      have c:=@J (∀v:Int,v=((h.n:Int)*8 % 18446744073709551616) / 1099511627776 % 256→some (Obj.cells (((szL h.n 2).map zM).toArray.setIfInBounds 2 (.int .u8 v)) 272 (0,0))=some (Obj.cells ((szL h.n 3).map zM).toArray 272 (0,0))) (λv e=>by subst e;rfl)
      go_wp2
      go_roundw
      case rel=>exact⟨3,rfl,by omega,(heap_setCell_same wr r 2 _ _ _ K.o).trans (c.o _ (by omega)),H.o.setCell _ (.inr rfl) _⟩
      case measure=>simp[intOf]
     ·have d:=q 3 (.int .u8 0) rfl
      simp only[zero_add] at d
      clear q
      have c:=@J (∀v:Int,v=((h.n:Int)*8 % 18446744073709551616) / 4294967296 % 256→some (Obj.cells (((szL h.n 3).map zM).toArray.setIfInBounds 3 (.int .u8 v)) 272 (0,0))=some (Obj.cells ((szL h.n 4).map zM).toArray 272 (0,0))) (λv e=>by subst e;rfl)
      go_wp2
      go_roundw
      case rel=>exact⟨4,rfl,by omega,(heap_setCell_same wr r 3 _ _ _ K.o).trans (c.o _ (by omega)),H.o.setCell _ (.inr rfl) _⟩
      case measure=>simp[intOf]
     ·have d:=q 4 (.int .u8 0) rfl
      simp only[zero_add] at d
      clear q
      have c:=@J (∀v:Int,v=((h.n:Int)*8 % 18446744073709551616) / 16777216 % 256→some (Obj.cells (((szL h.n 4).map zM).toArray.setIfInBounds 4 (.int .u8 v)) 272 (0,0))=some (Obj.cells ((szL h.n 5).map zM).toArray 272 (0,0))) (λv e=>by subst e;rfl)
      go_wp2
      go_roundw
      case rel=>exact⟨5,rfl,by omega,(heap_setCell_same wr r 4 _ _ _ K.o).trans (c.o _ (by omega)),H.o.setCell _ (.inr rfl) _⟩
      case measure=>simp[intOf]
     ·have d:=q 5 (.int .u8 0) rfl
      simp only[zero_add] at d
      clear q
      have c:=@J (∀v:Int,v=((h.n:Int)*8 % 18446744073709551616) / 65536 % 256→some (Obj.cells (((szL h.n 5).map zM).toArray.setIfInBounds 5 (.int .u8 v)) 272 (0,0))=some (Obj.cells ((szL h.n 6).map zM).toArray 272 (0,0))) (λv e=>by subst e;rfl)
      go_wp2
      go_roundw
      case rel=>exact⟨6,rfl,by omega,(heap_setCell_same wr r 5 _ _ _ K.o).trans (c.o _ (by omega)),H.o.setCell _ (.inr rfl) _⟩
      case measure=>simp[intOf]
     ·have d:=q 6 (.int .u8 0) rfl
      simp only[zero_add] at d
      clear q
      have c:=@J (∀v:Int,v=((h.n:Int)*8 % 18446744073709551616) / 256 % 256→some (Obj.cells (((szL h.n 6).map zM).toArray.setIfInBounds 6 (.int .u8 v)) 272 (0,0))=some (Obj.cells ((szL h.n 7).map zM).toArray 272 (0,0))) (λv e=>by subst e;rfl)
      go_wp2
      go_roundw
      case rel=>exact⟨7,rfl,by omega,(heap_setCell_same wr r 6 _ _ _ K.o).trans (c.o _ (by omega)),H.o.setCell _ (.inr rfl) _⟩
      case measure=>simp[intOf]
     ·have d:=q 7 (.int .u8 0) rfl
      simp only[zero_add] at d
      clear q
      have c:=@J (∀v:Int,v=(h.n:Int)*8 % 18446744073709551616 % 256→some (Obj.cells (((szL h.n 7).map zM).toArray.setIfInBounds 7 (.int .u8 v)) 272 (0,0))=some (Obj.cells ((szL h.n 8).map zM).toArray 272 (0,0))) (λv e=>by subst e;rfl)
      go_wp2
      go_roundw
      case rel=>exact⟨8,rfl,by omega,(heap_setCell_same wr r 7 _ _ _ K.o).trans (c.o _ (by omega)),H.o.setCell _ (.inr rfl) _⟩
      case measure=>simp[intOf]
    ·obtain rfl:i=8:=by omega
     have i1:¬((8:Nat):Int)<8:=by omega
     have sl:∀w,(Instr.sliceAt 272 (.pointer (some ⟨r,0,none⟩)) none none none).run prog w=.ok (.slice (some ⟨r,0,none⟩) 8 8) w:=λw=>by kernel_rfl
     have BY:=@J (Jd wr g (.slice (some ⟨r,0,none⟩) 8 8) (zb8 h.n)) (.inr ⟨r,0,8,rfl,by have:=M.o;omega,q,le_refl _⟩)
     have ae:=@J ((zb8 h.n).foldl xY hh=Yj h) (by rw[←HX.o,hzp,N1.o,H1.o];rfl)
     have ao:=J (L.o.adds (l:=zb8 h.n))
     have NP:=@J (hh.n+(zb8 h.n).length≤4611686018427387904) (by have:=NZ.o;have:(zb8 h.n).length=8:=rfl;omega)
     have FA:=@J (Fr (λj=>j=g∨j=r) R wr) (((T.o.mono (λ_ h=>.inl h)).trans (F4.o.of0 (W:=λj=>j=g∨j=r)) (λ_ _ h=>h)).trans H.o (λ_ _ h=>.inr h))
     have al:=@J (Zc wr) (aa.o.keep FA.o (by have:=o.o;have:=I.o;have:=M.o;have:=C.o;omega) (by have:=o.o;have:=I.o;have:=M.o;have:=C.o;omega))
     have S4:=@J (3<wr.heap.size) (by have:=C.o.2.2.1;have:=FA.o.size;omega)
     have BP:=@J (wr.heap[g]? =some (.cells (yS hh).toArray 270 (0,0))) (H.o.obj (F4.o.obj BZ.o id) (by have:=M.o;omega))
     clear c7 ar q K
     have U:=@J (vR (Yj h)) (by rw[←ae.o];exact ao.o)
     have L8:=@J (((Yj h).st.map YW).length=8) (by rw[length_map];exact U.o.1)
     obtain⟨d8,y8,r8⟩:=zjg
     go_wp2_with (first|((with_reducible refine yt 45 ?_);refine zg rfl (zZ (ty:=267) rfl rfl (vF U.o (F6.o.obj B5.o id)).1 y8 r8 (by rw[L8.o];exact zjy)) ?_;generalize F.alloc (.cells xC 41)=w6 at*;generalize aA:F.heap.size=O at*)|(go_at_call 156;refine(za0 (p:=g) al.o S4.o L.o BP.o ⟨C.o.1,C.o.2.1⟩ BY.o NP.o).mono ?_;rintro e F ⟨rfl,u,f5⟩;rw[ae.o] at u;have B5:=J u;have F5:=@J (Fr (λj=>j=g∨j=r) R F) (FA.o.trans (f5.mono (λ_ h=>.inl h)) (λ_ _ h=>h));have F6:=@J (Fr No F (F.alloc (.cells xC 41))) ((frN F).alloc _);have B6:=J (ye F (.cells xC 41));clear u f5))
     have V:=J U.o.1
     have G:=@J (((Yj h).st.flatMap Qq).length=32) (by rw[zbx,V.o])
     have FG:=J (flat_get (Yj h).st)
     have O6:=@J (w6.heap[O]? =some (.cells ((Yv ((Yj h).st.flatMap Qq) (4*0)).map zM).toArray 41 (0,0))) (B6.o)
     have SD:=@J (zdZ h=(Yj h).st.flatMap Qq) (rfl)
     clear sl BY
     generalize aw:(Yj h).st=S at*
     generalize av:S.flatMap Qq=s at*
     go_loopw [46] (λE wi=>∃i:Nat,E=.int .i64 i∧i≤8∧wi.heap[O]? =some (.cells ((Yv s (4*i)).map zM).toArray 41 (0,0))∧Fr (λj=>j=O) w6 wi) (λE _=>8-(intOf E).toNat)
     case atStart=>exact⟨0,rfl,by omega,O6.o,Fr.refl _ _⟩
     case round=>
      obtain⟨i,rfl,hi,ah,fo⟩:=hrel
      have FO:=J fo
      have BO:=J ah
      clear fo ah
      by_cases h8:i<8
      ·have hx:=zk2 V.o h8
       have i1:((i:Nat):Int)<8:=by omega
       have WG:=J (λk hk=>FG.o i k hk (by rw[V.o];exact h8))
       generalize S.getD i 0=x at*
       go_wp2
       go_loopw [50] (λE wk=>∃k:Nat,E=.int .i64 k∧k≤4∧wk.heap[O]? =some (.cells ((Yv s (4*i+k)).map zM).toArray 41 (0,0))∧Fr (λj=>j=O) w6 wk) (λE _=>4-(intOf E).toNat)
       case atStart=>exact⟨0,rfl,by omega,BO.o,FO.o⟩
       case round=>
        obtain⟨k,rfl,hk,ag,fk⟩:=hrel
        have FK:=J fk
        have B:=J ag
        clear fk ag
        by_cases k4:k<4
        ·rcases(show k=0∨k=1∨k=2∨k=3 by omega) with rfl|rfl|rfl|rfl
         ·obtain⟨j,A⟩:∃j,j=4*i+0:=⟨_,rfl⟩
          have Y:((j:Nat):Int)<32:=by omega
          have j0:(0:Int)≤(j:Int):=by omega
          have jn:(j:Int).toNat=j:=by omega
          have je:4*(i:Int)+0=(j:Int):=by omega
          obtain⟨y,D⟩:=zbb G.o (m:=4*i+0) (by omega)
          have d:=vt B.o _ _ D
          simp only[zero_add,←A] at d
          clear D
          have fz:=yl (i:=j) B.o
          have c:=@J (∀v:Int,v=x / 16777216 % 256→some (Obj.cells (((Yv s (4*i+0)).map zM).toArray.setIfInBounds j (.int .u8 v)) 41 (0,0))=some (Obj.cells ((Yv s (4*i+1)).map zM).toArray 41 (0,0))) (λv e=>by
           rw[A,setIfInBounds_toArray,←show zM v=.int .u8 v from rfl,←List.map_set,show v=s.getD (4*i+0) 0 from(e.trans (WG.o 0 (by omega)).symm),Vq G.o (by omega)])
          have t:=J (λv=>heap_setCell_same wr O j _ _ (.int .u8 v) B.o)
          clear A
          go_wp2
          go_roundw
          case rel=>exact⟨1,rfl,by omega,(t.o _).trans (c.o _ (by omega)),FK.o.setCell _ (.inr rfl) _⟩
          case measure=>simp[intOf]
         ·obtain⟨j,A⟩:∃j,j=4*i+1:=⟨_,rfl⟩
          have Y:((j:Nat):Int)<32:=by omega
          have j0:(0:Int)≤(j:Int):=by omega
          have jn:(j:Int).toNat=j:=by omega
          have je:4*(i:Int)+1=(j:Int):=by omega
          obtain⟨y,D⟩:=zbb G.o (m:=4*i+1) (by omega)
          have d:=vt B.o _ _ D
          simp only[zero_add,←A] at d
          clear D
          have fz:=yl (i:=j) B.o
          have c:=@J (∀v:Int,v=x / 65536 % 256→some (Obj.cells (((Yv s (4*i+1)).map zM).toArray.setIfInBounds j (.int .u8 v)) 41 (0,0))=some (Obj.cells ((Yv s (4*i+2)).map zM).toArray 41 (0,0))) (λv e=>by
           rw[A,setIfInBounds_toArray,←show zM v=.int .u8 v from rfl,←List.map_set,show v=s.getD (4*i+1) 0 from(e.trans (WG.o 1 (by omega)).symm),Vq G.o (by omega)])
          have t:=J (λv=>heap_setCell_same wr O j _ _ (.int .u8 v) B.o)
          clear A
          go_wp2
          go_roundw
          case rel=>exact⟨2,rfl,by omega,(t.o _).trans (c.o _ (by omega)),FK.o.setCell _ (.inr rfl) _⟩
          case measure=>simp[intOf]
         ·obtain⟨j,A⟩:∃j,j=4*i+2:=⟨_,rfl⟩
          have Y:((j:Nat):Int)<32:=by omega
          have j0:(0:Int)≤(j:Int):=by omega
          have jn:(j:Int).toNat=j:=by omega
          have je:4*(i:Int)+2=(j:Int):=by omega
          obtain⟨y,D⟩:=zbb G.o (m:=4*i+2) (by omega)
          have d:=vt B.o _ _ D
          simp only[zero_add,←A] at d
          clear D
          have fz:=yl (i:=j) B.o
          have c:=@J (∀v:Int,v=x / 256 % 256→some (Obj.cells (((Yv s (4*i+2)).map zM).toArray.setIfInBounds j (.int .u8 v)) 41 (0,0))=some (Obj.cells ((Yv s (4*i+3)).map zM).toArray 41 (0,0))) (λv e=>by
           rw[A,setIfInBounds_toArray,←show zM v=.int .u8 v from rfl,←List.map_set,show v=s.getD (4*i+2) 0 from(e.trans (WG.o 2 (by omega)).symm),Vq G.o (by omega)])
          have t:=J (λv=>heap_setCell_same wr O j _ _ (.int .u8 v) B.o)
          clear A
          go_wp2
          go_roundw
          case rel=>exact⟨3,rfl,by omega,(t.o _).trans (c.o _ (by omega)),FK.o.setCell _ (.inr rfl) _⟩
          case measure=>simp[intOf]
         ·obtain⟨j,A⟩:∃j,j=4*i+3:=⟨_,rfl⟩
          have Y:((j:Nat):Int)<32:=by omega
          have j0:(0:Int)≤(j:Int):=by omega
          have jn:(j:Int).toNat=j:=by omega
          have je:4*(i:Int)+3=(j:Int):=by omega
          obtain⟨y,D⟩:=zbb G.o (m:=4*i+3) (by omega)
          have d:=vt B.o _ _ D
          simp only[zero_add,←A] at d
          clear D
          have fz:=yl (i:=j) B.o
          have c:=@J (∀v:Int,v=x % 256→some (Obj.cells (((Yv s (4*i+3)).map zM).toArray.setIfInBounds j (.int .u8 v)) 41 (0,0))=some (Obj.cells ((Yv s (4*i+4)).map zM).toArray 41 (0,0))) (λv e=>by
           rw[A,setIfInBounds_toArray,←show zM v=.int .u8 v from rfl,←List.map_set,show v=s.getD (4*i+3) 0 from(e.trans (WG.o 3 (by omega)).symm),Vq G.o (by omega)])
          have t:=J (λv=>heap_setCell_same wr O j _ _ (.int .u8 v) B.o)
          clear A
          go_wp2
          go_roundw
          case rel=>exact⟨4,rfl,by omega,(t.o _).trans (c.o _ (by omega)),FK.o.setCell _ (.inr rfl) _⟩
          case measure=>simp[intOf]
        ·obtain rfl:k=4:=by omega
         have k1:¬((4:Nat):Int)<4:=by omega
         have ee:4*i+4=4*(i+1):=by omega
         rw[ee] at B
         go_wp2
         go_roundw
         case rel=>exact⟨i+1,by simp,by omega,B.o,FK.o⟩
         case measure=>show 8-(i+1)<8-i;omega
      ·obtain rfl:i=8:=by omega
       have i1:¬((8:Nat):Int)<8:=by omega
       have an:=@J (F.heap[q2]? =some (.cells xC 41 (0,0))) (F5.o.obj (Z.o.obj (F2.o.obj B1.o id) (by have:=o.o;omega)) (by have:=o.o;have:=M.o;omega))
       have ab:=@J (wr.heap[q2]? =some (.cells xC 41 (0,0))) (FO.o.obj (F6.o.obj an.o id) (by have:=o.o;have:=M.o;have:=F5.o.size;have:=C.o.2.2.2;omega))
       rw[show 4*8=32 from rfl,zjR G.o] at BO
       have FL:=@J ((s.map zM).length=32) (by rw[length_map];exact G.o)
       obtain⟨dh,yh,rh⟩:=zbt
       go_wp2_with (first|((with_reducible refine yt 67 ?_);refine zg rfl (zZ (ty:=41) rfl rfl (vt BO.o) yh rh (by rw[FL.o];exact qC)) ?_)|(refine zi rfl (zK (ty:=41) (b:=q2) (off:=0) (cs:=s.map zM) rfl rfl rfl (by rw[FL.o];exact zV ab.o (le_refl 32)) (by rw[FL.o];exact qC) (λv hv=>by obtain⟨x,-,rfl⟩:=mem_map.1 hv;rfl)) ?_))
       have FN:=@J (Fr No w wr) ((((((F1.o.trans0 F2.o).trans Z.o (λi h e=>(show False by have:=o.o;omega))).trans F5.o (λi h e=>(show False by have:=o.o;have:=M.o;omega))).trans0 F6.o).trans FO.o (λi h e=>(show False by have:=o.o;have:=M.o;have:=F5.o.size;have:=C.o.2.2.2;omega))))
       refine bodyPost_ret (yk (P:=prog) (fn:=Tryz.f124) rfl _ rfl (yv ab.o (by rw[FL.o];rfl)) yh rh (by rw[FL.o];exact qC) rfl) rfl ⟨by rw[SD.o];rfl,FN.o.trans (zu q2 _ 0 wr) (λi h e=>(show False by omega))⟩
  ·have j1:((m:Int)==56)=false:=by
    rw[beq_eq_false_iff_ne]
    have:=zld (n:=a.n) (z:=z) (by omega)
    rw[←NZ.o,←hm] at this
    omega
   clear hm
   have G0:=J (aa.o.keep T.o (λe=>C.o.1 e.symm) (λe=>C.o.2.1 e.symm))
   go_wp2_with (go_at_call 156;refine(za0 (p:=g) (G0.o.keep ((frN wr).alloc (.cells #[.int .u8 0] 5)) id id) (by have:=C.o.2.2.1;have:=T.o.size;simp;omega) L.o (((frN wr).alloc (.cells #[.int .u8 0] 5)).obj BZ.o id) ⟨C.o.1,C.o.2.1⟩ (zbp wr 0 (by have:=C.o.2.2.2;have:=T.o.size;omega)) (by have:=NZ.o;simp;omega)).mono ?_;rintro e F ⟨rfl,u,f5⟩;rw[←SZ.o] at u;have B5:=J u;have F5:=@J (Fr (λj=>j=g) R F) (T.o.trans ((((frN wr).alloc (.cells #[.int .u8 0] 5)).of0 (W:=λj=>j=g)).trans f5 (λ_ _ h=>h)) (λ_ _ h=>h));clear u f5)
   go_roundw
   case rel=>exact⟨z+1,by omega,B5.o,F5.o⟩
   case measure=>
    rw[LM.o]
    have c5:=(vF (ad.o.adds (l:=List.replicate (z+1) 0)) B5.o).2.2
    have:zeR F g (a.n+Vr a.n)=a.n+Vr a.n-(a.n+(z+1)):=by
     unfold zeR
     rw[c5,Xy,List.length_replicate]
     simp only[]
     omega
    rw[this]
    omega
end Go.Proofs.YtdkkjchclkjleaaGreatDoor
namespace Go
structure zF where
 tx:List Int
 n:Int
structure yE where
 value:Int
 lock:List Int
structure zr where
 at_:zF
 out:yE
instance:DecidableEq zF:=λa b=>if h:a.tx=b.tx∧a.n=b.n then isTrue (by cases a;cases b;simp_all) else isFalse (λe=>h (by rw[e];exact⟨rfl,rfl⟩))
def zX (l:List Int):Prop:=l.length=32∧∀x∈l,0≤x∧x≤255
def zF.ok (p:zF):Prop:=zX p.tx∧0≤p.n∧p.n≤4294967295
def yE.ok (x:yE):Prop:=(0≤x.value∧x.value≤18446744073709551615)∧zX x.lock
def zr.ok (c:zr):Prop:=c.at_.ok∧c.out.ok
def J8:List Int→List Int→Int
 |[],[]=>0
 |[],_::_=> -1
 |_::_,[]=>1
 |a::as0,b::bs=>if a<b then -1 else if b<a then 1 else J8 as0 bs
theorem zcw:∀a,J8 a a=0
 |[]=>rfl
 |x::a=>by simp[J8,zcw a]
theorem XF:∀ {a b},J8 a b=0→a=b
 |[],[],_=>rfl
 |[],_::_,h=>by simp[J8] at h
 |_::_,[],h=>by simp[J8] at h
 |x::a,y::b,h=>by
  unfold J8 at h
  split at h
  ·omega
  ·split at h
   ·omega
   ·have:x=y:=by omega
    rw[this,XF h]
theorem zel:∀a b,J8 b a= - J8 a b
 |[],[]=>rfl
 |[],_::_=>rfl
 |_::_,[]=>rfl
 |x::a,y::b=>by
  unfold J8
  by_cases h1:x<y
  ·have:¬y<x:=by omega
   simp[h1,this]
  ·by_cases h2:y<x
   ·simp[h1,h2]
   ·simp only[h1,h2,if_false]
    exact zel a b
theorem zbq:∀ {a b c},J8 a b= -1→J8 b c= -1→J8 a c= -1
 |[],[],_,h,_=>by simp[J8] at h
 |[],_::_,[],_,h=>by simp[J8] at h
 |[],_::_,_::_,_,_=>rfl
 |_::_,[],_,h,_=>by simp[J8] at h
 |_::_,_::_,[],_,h=>by simp[J8] at h
 |x::a,y::b,z::c,h1,h2=>by
  unfold J8 at*
  split at h1
  ·split at h2
   ·rw[if_pos (by omega)]
   ·split at h2
    ·omega
    ·rw[if_pos (by omega)]
  ·split at h1
   ·omega
   ·split at h2
    ·rw[if_pos (by omega)]
    ·split at h2
     ·omega
     ·rw[if_neg (by omega),if_neg (by omega)]
      exact zbq h1 h2
theorem zcx:∀a b,J8 a b= -1∨J8 a b=0∨J8 a b=1
 |[],[]=>.inr (.inl rfl)
 |[],_::_=>.inl rfl
 |_::_,[]=>.inr (.inr rfl)
 |x::a,y::b=>by
  unfold J8
  split
  ·exact .inl rfl
  ·split
   ·exact .inr (.inr rfl)
   ·exact zcx a b
def zhv (a b:Int):Int:=if a<b then -1 else if b<a then 1 else 0
def Ze (p q:zF):Int:=if J8 p.tx q.tx=0 then zhv p.n q.n else J8 p.tx q.tx
def JH (p q:zF):Bool:=decide (Ze p q= -1)
theorem zcy (p q:zF):Ze q p= - Ze p q:=by
 unfold Ze
 rw[zel p.tx q.tx]
 by_cases h:J8 p.tx q.tx=0
 ·rw[h];simp[zhv];split<;>split<;>omega
 ·rw[if_neg (by omega),if_neg h]
theorem zfN (p:zF):Ze p p=0:=by simp[Ze,zcw,zhv]
theorem zfP {p q:zF} (h:Ze p q=0):p=q:=by
 unfold Ze at h
 split at h
 ·rename_i h1
  have a:=XF h1
  unfold zhv at h
  split at h
  ·omega
  ·split at h
   ·omega
   ·cases p;cases q;simp only[zF.mk.injEq] at*;exact⟨a,by omega⟩
 ·contradiction
theorem zfO (p q:zF):Ze p q= -1∨Ze p q=0∨Ze p q=1:=by
 unfold Ze
 split
 ·unfold zhv;split
  ·exact .inl rfl
  ·split
   ·exact .inr (.inr rfl)
   ·exact .inr (.inl rfl)
 ·exact zcx _ _
theorem zem {p q r:zF} (b:Ze p q= -1) (a:Ze q r= -1):Ze p r= -1:=by
 unfold Ze at*
 split at b
 ·rename_i e1
  have:=XF e1
  rw[this]
  split at a
  ·rename_i e2
   rw[if_pos e2]
   unfold zhv at*
   split at b
   ·split at a
    ·rw[if_pos (by omega)]
    ·split at a<;>omega
   ·split at b<;>omega
  ·rename_i e2
   rw[if_neg e2]
   exact a
 ·split at a
  ·rename_i e1 e2
   have:=XF e2
   rw[←this,if_neg (by omega)]
   exact b
  ·have:=zbq b a
   rw[if_neg (by omega)]
   exact this
theorem zaP (p:zF):JH p p=false:=by simp[JH,zfN]
theorem zb2 {p q r:zF} (a:JH p q=true) (b:JH q r=true):JH p r=true:=by
 unfold JH at*
 simp only[decide_eq_true_eq] at*
 exact zem a b
theorem zgf {p q:zF} (h:JH p q=true):JH q p=false:=by
 unfold JH at*
 simp only[decide_eq_true_eq,decide_eq_false_iff_not] at*
 rw[zcy p q];omega
theorem zgg {p q:zF} (b:JH p q=false) (a:JH q p=false):p=q:=by
 unfold JH at*
 simp only[decide_eq_false_iff_not] at*
 rw[zcy p q] at a
 exact zfP (by rcases zfO p q with h|h|h<;>omega)
theorem zdO {p q:zF} (h:JH p q=true):p≠q:=λe=>by subst e;rw[zaP] at h;cases h
def xK (S:List zr) (p:zF):Bool:=S.any λc=>decide (c.at_=p)
def Y2 (S:List zr) (p:zF):Option yE:=(S.find? λc=>decide (c.at_=p)).map (·.out)
def zcn (S:List zr) (c:zr):List zr:=S.takeWhile (λx=> !JH c.at_ x.at_)++c::S.dropWhile (λx=> !JH c.at_ x.at_)
def jR (S l:List zr):List zr:=l.foldl zcn S
def qg (S:List zr) (ps:List zF):List zr:=S.filter λc=> !decide (c.at_∈ps)
def qV (S:List zr):Prop:=S.Pairwise λa b=>JH a.at_ b.at_=true
theorem JW {S:List zr} {p:zF}:xK S p=true↔∃c∈S,c.at_=p:=by simp[xK]
theorem ZB {S:List zr} {p:zF}:xK S p=false↔∀c∈S,c.at_≠p:=by simp[xK]
theorem qV.nodup {S:List zr} (h:qV S):(S.map (·.at_)).Nodup:=by
 rw[List.Nodup,List.pairwise_map]
 exact h.imp λh=>zdO h
theorem qV.uniq {S:List zr} (h:qV S) {a b:zr} (c:a∈S) (d:b∈S) (e:a.at_=b.at_):a=b:=by
 induction h with
 |nil=>cases c
 |cons hx _ ih=>
  rcases List.mem_cons.1 c with rfl|ha'<;>rcases List.mem_cons.1 d with rfl|hb'
  ·rfl
  ·exact absurd e (zdO (hx _ hb'))
  ·exact absurd e.symm (zdO (hx _ ha'))
  ·exact ih ha' hb'
theorem YM {S:List zr} (h:qV S) {c:zr} (b:c∈S):Y2 S c.at_=some c.out:=by
 unfold Y2
 cases e:S.find? λx=>decide (x.at_=c.at_) with
 |none=>
  have:=List.find?_eq_none.1 e c b
  simp at this
 |some x=>
  have d:=List.mem_of_find?_eq_some e
  have a:=List.find?_some e
  simp only[decide_eq_true_eq] at a
  rw[h.uniq d b a];rfl
theorem zfY {S:List zr} {p:zF} (h:xK S p=false):Y2 S p=none:=by
 unfold Y2
 rw[List.find?_eq_none.2 (λx a=>by have:=ZB.1 h x a;simpa using this)]
 rfl
theorem zdB {S:List zr} {p:zF}:(Y2 S p).isSome=xK S p:=by
 rw[Bool.eq_iff_iff,JW]
 unfold Y2
 simp
theorem zcX {α:Type} {f:α→Bool} {x:α}:∀ {L:List α},x∈L.takeWhile f→f x=true
 |[],h=>by cases h
 |y::L,h=>by
  rw[List.takeWhile_cons] at h
  split at h
  ·rename_i hy
   rcases List.mem_cons.1 h with rfl|h
   ·exact hy
   ·exact zcX h
  ·cases h
theorem zeW {S:List zr} {c x:zr}:x∈zcn S c↔x=c∨x∈S:=by
 have e:=List.takeWhile_append_dropWhile (p:=λx:zr=> !JH c.at_ x.at_) (l:=S)
 unfold zcn
 constructor
 ·intro h
  rcases List.mem_append.1 h with h|h
  ·right;rw[←e];exact List.mem_append.2 (.inl h)
  ·rcases List.mem_cons.1 h with h|h
   ·exact .inl h
   ·right;rw[←e];exact List.mem_append.2 (.inr h)
 ·rintro(rfl|h)
  ·simp
  ·rw[←e] at h
   rcases List.mem_append.1 h with h|h
   ·exact List.mem_append.2 (.inl h)
   ·exact List.mem_append.2 (.inr (List.mem_cons_of_mem _ h))
theorem zhP (S:List zr) (c:zr):(zcn S c).Perm (c::S):=by
 unfold zcn
 refine List.perm_middle.trans ?_
 rw[List.takeWhile_append_dropWhile]
theorem zjB {S:List zr} (h:qV S) {c:zr} (o:xK S c.at_=false):qV (zcn S c):=by
 have g:=ZB.1 o
 have e:=List.takeWhile_append_dropWhile (p:=λx:zr=> !JH c.at_ x.at_) (l:=S)
 have k:∀x∈S.takeWhile (λx=> !JH c.at_ x.at_),JH x.at_ c.at_=true:=by
  intro x d
  have n:JH c.at_ x.at_=false:=by have:=zcX d;simpa using this
  cases h2:JH x.at_ c.at_ with
  |true=>rfl
  |false=>exact absurd (zgg h2 n) (g x ((List.takeWhile_prefix _).subset d))
 have j:∀x∈S.dropWhile (λx=> !JH c.at_ x.at_),JH c.at_ x.at_=true:=by
  cases hD:S.dropWhile (λx=> !JH c.at_ x.at_) with
  |nil=>intro x d;cases d
  |cons y D=>
   have m:JH c.at_ y.at_=true:=by
    have:=List.head?_dropWhile_not (λx:zr=> !JH c.at_ x.at_) S
    rw[hD] at this
    simpa using this
   have q:qV (y::D):=by rw[←hD];exact List.Pairwise.sublist (List.dropWhile_suffix _).sublist h
   intro x d
   rcases List.mem_cons.1 d with rfl|d
   ·exact m
   ·exact zb2 m ((List.pairwise_cons.1 q).1 x d)
 unfold zcn qV
 rw[List.pairwise_append]
 refine⟨List.Pairwise.sublist (List.takeWhile_prefix _).sublist h,List.pairwise_cons.2 ⟨j,List.Pairwise.sublist (List.dropWhile_suffix _).sublist h⟩,?_⟩
 intro a i b f
 rcases List.mem_cons.1 f with rfl|f
 ·exact k a i
 ·exact zb2 (k a i) (j b f)
theorem qL:∀ {l S:List zr} {x:zr},x∈jR S l↔x∈S∨x∈l
 |[],S,x=>by simp[jR]
 |c::l,S,x=>by
  show x∈jR (zcn S c) l↔_
  rw[qL,zeW]
  simp only[List.mem_cons]
  constructor
  ·rintro((h|h)|h)
   ·exact .inr (.inl h)
   ·exact .inl h
   ·exact .inr (.inr h)
  ·rintro(h|h|h)
   ·exact .inl (.inr h)
   ·exact .inl (.inl h)
   ·exact .inr h
theorem Zt:∀(l S:List zr),(jR S l).Perm (S++l)
 |[],S=>by simp[jR]
 |c::l,S=>by
  show(jR (zcn S c) l).Perm _
  refine(Zt l _).trans ?_
  refine((zhP S c).append_right l).trans ?_
  exact List.perm_middle.symm
theorem J0:∀ {l S:List zr},qV S→(l.map (·.at_)).Nodup→(∀c∈l,xK S c.at_=false)→qV (jR S l)
 |[],S,h,_,_=>h
 |c::l,S,h,hn,hd=>by
  show qV (jR (zcn S c) l)
  rw[List.map_cons,List.nodup_cons] at hn
  refine J0 (zjB h (hd c (by simp))) hn.2 ?_
  intro x b
  rw[ZB]
  intro y a
  rcases zeW.1 a with rfl|a
  ·exact λe=>hn.1 (by rw[e];exact List.mem_map.2 ⟨x,b,rfl⟩)
  ·exact ZB.1 (hd x (by simp[b])) y a
theorem YA {S:List zr} {ps:List zF} (h:qV S):qV (qg S ps):=List.Pairwise.filter _ h
theorem Jr {S:List zr} {ps:List zF} {x:zr}:x∈qg S ps↔x∈S∧x.at_∉ps:=by simp[qg]
theorem qV.same {S R:List zr} (h:qV S) (c:qV R) (g:∀x,x∈S↔x∈R):S=R:=by
 have nd:∀ {T:List zr},qV T→T.Nodup:=fun {T} h=>by unfold List.Nodup;exact List.Pairwise.imp (fun {a b} h e=>by subst e;rw[zaP] at h;cases h) h
 refine List.Perm.eq_of_pairwise (le:=λa b:zr=>JH a.at_ b.at_=true) ?_ h c ((List.perm_ext_iff_of_nodup (nd h) (nd c)).2 g)
 intro a b _ _ f d
 rw[zgf f] at d;cases d
end Go
namespace Go
open Go.RowKit Go.Maps Go.MapKept
section
variable {P:Program} {S:World→Prop} {a:Act} {dst:Option Tmp} {ty ty2:TypeId} {pos:String} {after:Array Edge} {gd:Option (Nat×Bool)} {x y:Operand}
structure EqN (P:Program) (k:TypeId):Prop where
 keyed:Keyed P k
 deep:∃m,m≤10000∧P.keyTypeAt m k=true
 wide:(match P.underlying k with|some (.array _ _)|some (.struct _)=>true|_=>false)=true
 guard:P.eqGuardType P.depth k=false
theorem EqN.run {k:TypeId} (h:EqN P k) (w:World) {u v:Array Value} (j:∃l,keyOf P k (.agg u)=some l) (m:∃l,keyOf P k (.agg v)=some l) (b:Bool) (g:b=true↔u=v):
  (Op.equal k (.agg u) (.agg v)).run P w=.ok b w:=by
 obtain⟨n,f⟩:=j
 obtain⟨o,d⟩:=m
 obtain⟨r,i,c⟩:=run_equal_deep w h.deep.choose_spec.1 h.deep.choose_spec.2 h.wide f d
 have:r=b:=by
  rw[Bool.eq_iff_iff,c,g]
  constructor
  ·intro e
   subst e
   have:=h.keyed.inj f d
   injection this
  ·intro e
   subst e
   rw[f] at d
   exact Option.some.inj d
 rw[i,this]
theorem EqN.eql {k:TypeId} (h:EqN P k) (w:World) {u v:Array Value} (e:∃l,keyOf P k (.agg u)=some l) (f:∃l,keyOf P k (.agg v)=some l) (b:Bool) (d:b=true↔u=v):
  (binOp .eql k (.agg u) (.agg v)).run P w=.ok (.bool b) w:=by
 have c:=h.run w e f b d
 rw[run_eql_struct]
 unfold Op.equal at c
 rw[show Op.maxDepth=10000 from rfl] at c
 rw[c]
 rfl
theorem EqN.neq {k:TypeId} (h:EqN P k) (w:World) {u v:Array Value} (e:∃l,keyOf P k (.agg u)=some l) (f:∃l,keyOf P k (.agg v)=some l) (b:Bool) (d:b=true↔u=v):
  (binOp .neq k (.agg u) (.agg v)).run P w=.ok (.bool (!b)) w:=by
 have c:=h.run w e f b d
 rw[run_neq_struct]
 unfold Op.equal at c
 rw[show Op.maxDepth=10000 from rfl] at c
 rw[c]
 rfl
theorem EqN.exec_eql {k:TypeId} (h:EqN P k) {c:Operand→Value} {o:Oper} (e:o.op=.binOp .eql k x y ty2) {u v:Array Value} (i:c x=.agg u) (j:c y=.agg v) (f:∃l,keyOf P k (.agg u)=some l) (g:∃l,keyOf P k (.agg v)=some l) (b:Bool) (d:b=true↔u=v) (w:World):
  (execOp c o).run P w=.ok (.value (.bool b)) w:=by
 simp only[execOp,e,i,j,Sem.run_bind,run_eqGuard_agg w .eql k x y u v h.guard,Result.andThen_ok,h.eql w f g b d,Sem.run_pure]
theorem EqN.exec_neq {k:TypeId} (h:EqN P k) {c:Operand→Value} {o:Oper} (e:o.op=.binOp .neq k x y ty2) {u v:Array Value} (i:c x=.agg u) (j:c y=.agg v) (f:∃l,keyOf P k (.agg u)=some l) (g:∃l,keyOf P k (.agg v)=some l) (b:Bool) (d:b=true↔u=v) (w:World):
  (execOp c o).run P w=.ok (.value (.bool (!b))) w:=by
 simp only[execOp,e,i,j,Sem.run_bind,run_eqGuard_agg w .neq k x y u v h.guard,Result.andThen_ok,h.neq w f g b d,Sem.run_pure]
theorem zco {k:TypeId} {c:List (TypeId×Nat×Bool)} (hsh:xS P k=c) (e:c≠[]) (h:c.all (·.2.2)=true) {cs:List Value} (i:P.cellsOf k=cs.length) (d:Nat)
  (j:∀x∈c,∃l,P.keyLits d x.1 ((cs.drop x.2.1).take (P.cellsOf x.1))=some l):∃l,P.keyLits (d+1) k cs=some l:=by
 unfold xS at hsh
 split at hsh
 ·rename_i fs hu
  subst hsh
  obtain⟨g,hys⟩:∃g,fs.toList.mapM (λf=>P.keyLits d f.type ((cs.drop f.offset).take (P.cellsOf f.type)))=some g:=
   mapM_some λf m=>j (f.type,f.offset,f.name != "_") (List.mem_map.2 ⟨f,m,rfl⟩)
  have b:fs.all (·.name != "_")=true:=by
   rw[←Array.all_toList]
   rw[List.all_map] at h
   exact h
  refine⟨g.flatten,?_⟩
  unfold Program.keyLits
  simp only[hu,i,b,and_self,if_true,hys]
  rfl
 ·exact absurd hsh.symm e
end
end Go
namespace Go.Proofs.YtdkkjchclkjleaaGreatDoor
open Go Go.RowKit Go.Maps Go.MapKept
open Go.Proofs.Tryz(prog)
open List(mem_map getElem?_eq_getElem mem_append mem_cons length_append length_map map_append length_take getElem?_map nodup_cons map_cons length_cons append_assoc not_mem_nil setIfInBounds_toArray)
open Nat(le_refl zero_le zero_add)
theorem zh7 {h:jW} (ok:vR h):vR (Yj h):=(((ok.add 128).adds).adds)
theorem zfn {h:jW} (ok:vR h):(zdZ h).length=32:=by unfold zdZ;rw[zbx,(zh7 ok).st]
theorem zha {w:World} (H:Zc w) (q:3<w.heap.size) {v:Value} {L:List (List Int)} (I:∀p,w.heap.size≤p→Zv w p v L) (G:L.length≤1000000) (V:L.flatten.length≤1000000000000):
  Calls prog 71 #[v] w λe w'=>e=.returned (.agg ((x9 L.flatten).map zM).toArray)∧Fr No w w':=by
 have u:=J H
 have d:=J q
 have R:=J I
 have T:=J G
 have S:=@J ((L.flatten.foldl xY Yi).n=L.flatten.length) (by rw[Xy];exact zero_add _)
 have aa:∀w,(zeroValue 41).run prog w=.ok (.agg xC) w:=λw=>by kernel_rfl
 clear H q I G
 obtain⟨dh,Z,Y⟩:=zbt
 go_enter Tryz.func71,Tryz.ntmps71
 have m:=@J (Fr No w (w.alloc (.cells xC 41))) ((frN w).alloc _)
 have B:=J (ye w (.cells xC 41))
 have a:=@J ((w.alloc (.cells xC 41)).heap.size=w.heap.size+1) (by simp)
 go_wp2_with (first|(go_at_call 122;refine(zjK (u.o.keep m.o id id)).mono ?_;rintro e z ⟨rfl,r⟩;generalize w.alloc (.cells xC 41)=l at*;have k:=@J (Fr No l z) (r▸(frN l).alloc _);have K:=@J (z.heap[l.heap.size]? =some (.cells (yS Yi).toArray 270 (0,0))) (r▸ye l _);have D:=@J (l.heap.size<z.heap.size) (by subst r;simp);clear r;generalize hp:l.heap.size=p at*)|(go_at_call 123;refine(ziH ((u.o.keep m.o id id).keep k.o id id) (by have:=a.o;have:=D.o;have:=d.o;omega) XJ K.o ⟨by have:=a.o;have:=d.o;omega,by have:=a.o;have:=d.o;omega⟩ ((R.o p (by have:=a.o;omega)).keep (((m.o.trans0 k.o).of0 (W:=λj=>j=p)))) T.o (by show 0+_≤_;omega)).mono ?_;rintro e w3 ⟨rfl,o,E⟩;have M:=J o;have n:=J E;clear o E)|(go_at_call 124;refine(zkh (p:=p) (((u.o.keep m.o id id).keep k.o id id).keep n.o (by have:=a.o;have:=d.o;omega) (by have:=a.o;have:=d.o;omega)) (by have:=a.o;have:=D.o;have:=d.o;have:=n.o.size;omega) (XJ.adds) M.o ⟨by have:=a.o;have:=d.o;omega,by have:=a.o;have:=d.o;omega⟩ (by rw[S.o];exact V)).mono ?_;rintro e g ⟨rfl,F⟩;have s:=J F;clear F;have f:=@J (((zdZ (L.flatten.foldl xY Yi)).map zM).length=32) (by rw[length_map];exact zfn XJ.adds);have U:=@J (x9 L.flatten=zdZ (L.flatten.foldl xY Yi)) (rfl);generalize zdZ (L.flatten.foldl xY Yi)=c at*)|((with_reducible refine zv ?_);refine zi rfl (zm (w:=g) (ty:=41) (cs:=c.map zM) rfl rfl rfl (by rw[f.o];rfl) (by rw[f.o];exact qC) (λv y=>by obtain⟨x,-,rfl⟩:=mem_map.1 y;rfl)) ?_;have N:=J (ye g (.cells (c.map zM).toArray 41));have t:=@J (Fr No g (g.alloc (.cells (c.map zM).toArray 41))) ((frN g).alloc _);generalize g.alloc (.cells (c.map zM).toArray 41)=A at*;generalize X:g.heap.size=q5 at*)|((with_reducible refine yt 15 ?_);refine zg rfl (zZ (ty:=41) rfl rfl (vt N.o) Z Y (by rw[f.o];exact qC)) ?_)|(refine zi rfl (zK (ty:=41) (b:=w.heap.size) (off:=0) (cs:=c.map zM) rfl rfl rfl (by rw[f.o];exact zV (t.o.obj (s.o.obj (n.o.obj (k.o.obj B.o id) (by have:=a.o;omega)) id) id) (le_refl 32)) (by rw[f.o];exact qC) (λv y=>by obtain⟨x,-,rfl⟩:=mem_map.1 y;rfl)) ?_))
 have O:=@J (Fr No w A) ((((((m.o.trans0 k.o).trans n.o (λi h e=>(show False by have:=a.o;omega))).trans0 s.o).trans0 t.o)))
 have Q:=@J (A.heap[w.heap.size]? =some (.cells xC 41 (0,0))) (t.o.obj (s.o.obj (n.o.obj (k.o.obj B.o id) (by have:=a.o;omega)) id) id)
 have C:=xz w.heap.size 41 (c.map zM) 0 A xC Q.o
 have e:=ji (c.map zM) [] xC.toList [] (by rw[f.o];rfl)
 simp only[List.nil_append,List.append_nil,List.length_nil] at e
 rw[e] at C
 exact bodyPost_ret (v:=.agg (c.map zM).toArray) (results_cell_row (P:=prog) (fn:=Tryz.f71) rfl _ _ w.heap.size 41 (c.map zM).toArray (0,0) _ rfl C Tryz.underlying41 rfl (by rw[List.size_toArray,f.o];exact qC)) rfl ⟨by rw[U.o],O.o.trans (zu _ _ _ _) (λi hi e=>(show False by omega))⟩
end Go.Proofs.YtdkkjchclkjleaaGreatDoor
namespace Go
open Go.RowKit
theorem zn0 {ops:Array Oper} {Q:Exit→Act→World→Prop} {a:Act} {w:World} {rest:List Oper} {o:Oper} {cs:List Value} {m:Operand} {b i:Nat} (hg:o.guard=none) (ho:o.op=.load 108 m) (hm:a.eval m=.pointer (some ⟨b,i,none⟩)) (hc:w.rangeAt b i cs) (hl:cs.length=34) (h:wpList Go.Proofs.Tryz.prog ops Q rest (a.put o.dst (.agg cs.toArray)) w):wpList Go.Proofs.Tryz.prog ops Q (o::rest) a w:=
  have⟨_,u,r⟩:=vK (P:=Go.Proofs.Tryz.prog) (t:=108) (by kernel_rfl)
  zg hg (zZ ho hm hc u r (by rw[hl];kernel_rfl)) h
theorem zn1 {ops:Array Oper} {Q:Exit→Act→World→Prop} {a:Act} {w:World} {rest:List Oper} {o:Oper} {cs:List Value} {m:Operand} {b i:Nat} (hg:o.guard=none) (ho:o.op=.load 34 m) (hm:a.eval m=.pointer (some ⟨b,i,none⟩)) (hc:w.rangeAt b i cs) (hl:cs.length=3) (h:wpList Go.Proofs.Tryz.prog ops Q rest (a.put o.dst (.agg cs.toArray)) w):wpList Go.Proofs.Tryz.prog ops Q (o::rest) a w:=
  have⟨_,u,r⟩:=vK (P:=Go.Proofs.Tryz.prog) (t:=34) (by kernel_rfl)
  zg hg (zZ ho hm hc u r (by rw[hl];kernel_rfl)) h
theorem zn2 {ops:Array Oper} {Q:Exit→Act→World→Prop} {a:Act} {w:World} {rest:List Oper} {o:Oper} {cs:List Value} {m:Operand} {b i:Nat} (hg:o.guard=none) (ho:o.op=.load 103 m) (hm:a.eval m=.pointer (some ⟨b,i,none⟩)) (hc:w.rangeAt b i cs) (hl:cs.length=33) (h:wpList Go.Proofs.Tryz.prog ops Q rest (a.put o.dst (.agg cs.toArray)) w):wpList Go.Proofs.Tryz.prog ops Q (o::rest) a w:=
  have⟨_,u,r⟩:=vK (P:=Go.Proofs.Tryz.prog) (t:=103) (by kernel_rfl)
  zg hg (zZ ho hm hc u r (by rw[hl];kernel_rfl)) h
theorem zn3 {ops:Array Oper} {Q:Exit→Act→World→Prop} {a:Act} {w:World} {rest:List Oper} {o:Oper} {cs:List Value} {m:Operand} {b i:Nat} (hg:o.guard=none) (ho:o.op=.load 41 m) (hm:a.eval m=.pointer (some ⟨b,i,none⟩)) (hc:w.rangeAt b i cs) (hl:cs.length=32) (h:wpList Go.Proofs.Tryz.prog ops Q rest (a.put o.dst (.agg cs.toArray)) w):wpList Go.Proofs.Tryz.prog ops Q (o::rest) a w:=
  have⟨_,u,r⟩:=vK (P:=Go.Proofs.Tryz.prog) (t:=41) (by kernel_rfl)
  zg hg (zZ ho hm hc u r (by rw[hl];kernel_rfl)) h
theorem zn4 {ops:Array Oper} {Q:Exit→Act→World→Prop} {a:Act} {w:World} {rest:List Oper} {o:Oper} {cs:List Value} {m:Operand} {b i:Nat} (hg:o.guard=none) (ho:o.op=.load 95 m) (hm:a.eval m=.pointer (some ⟨b,i,none⟩)) (hc:w.rangeAt b i cs) (hl:cs.length=33) (h:wpList Go.Proofs.Tryz.prog ops Q rest (a.put o.dst (.agg cs.toArray)) w):wpList Go.Proofs.Tryz.prog ops Q (o::rest) a w:=
  have⟨_,u,r⟩:=vK (P:=Go.Proofs.Tryz.prog) (t:=95) (by kernel_rfl)
  zg hg (zZ ho hm hc u r (by rw[hl];kernel_rfl)) h
theorem zn5 {ops:Array Oper} {Q:Exit→Act→World→Prop} {a:Act} {w:World} {rest:List Oper} {o:Oper} {cs:List Value} {m:Operand} {b i:Nat} (hg:o.guard=none) (ho:o.op=.load 55 m) (hm:a.eval m=.pointer (some ⟨b,i,none⟩)) (hc:w.rangeAt b i cs) (hl:cs.length=3) (h:wpList Go.Proofs.Tryz.prog ops Q rest (a.put o.dst (.agg cs.toArray)) w):wpList Go.Proofs.Tryz.prog ops Q (o::rest) a w:=
  have⟨_,u,r⟩:=vK (P:=Go.Proofs.Tryz.prog) (t:=55) (by kernel_rfl)
  zg hg (zZ ho hm hc u r (by rw[hl];kernel_rfl)) h
theorem zn6 {S:World→Prop} {a:Act} {dst:Option Tmp} {t0:TypeId} {pos:String} {after:Array Edge} {gd:Option (Nat×Bool)} {x:Operand} {cs:List Value} {b i:Nat} (hx:a.eval x=.pointer (some ⟨b,i,none⟩)) (hS:∀w,S w→w.rangeAt b i cs) (hl:cs.length=33):∀w,S w→(execOp a.eval {dst:=dst,op:=.load 95 x,type:=t0,pos:=pos,after:=after,guard:=gd}).run Go.Proofs.Tryz.prog w=.ok (.value (.agg cs.toArray)) w:=
  have⟨_,u,r⟩:=vK (P:=Go.Proofs.Tryz.prog) (t:=95) (by kernel_rfl)
  yK hx hS u r (by rw[hl];kernel_rfl)
theorem zn7 {S:World→Prop} {a:Act} {dst:Option Tmp} {t0:TypeId} {pos:String} {after:Array Edge} {gd:Option (Nat×Bool)} {x:Operand} {cs:List Value} {b i:Nat} (hx:a.eval x=.pointer (some ⟨b,i,none⟩)) (hS:∀w,S w→w.rangeAt b i cs) (hl:cs.length=32):∀w,S w→(execOp a.eval {dst:=dst,op:=.load 41 x,type:=t0,pos:=pos,after:=after,guard:=gd}).run Go.Proofs.Tryz.prog w=.ok (.value (.agg cs.toArray)) w:=
  have⟨_,u,r⟩:=vK (P:=Go.Proofs.Tryz.prog) (t:=41) (by kernel_rfl)
  yK hx hS u r (by rw[hl];kernel_rfl)
theorem zn8 {S:World→Prop} {a:Act} {dst:Option Tmp} {t0:TypeId} {pos:String} {after:Array Edge} {gd:Option (Nat×Bool)} {x:Operand} {cs:List Value} {b i:Nat} (hx:a.eval x=.pointer (some ⟨b,i,none⟩)) (hS:∀w,S w→w.rangeAt b i cs) (hl:cs.length=33):∀w,S w→(execOp a.eval {dst:=dst,op:=.load 110 x,type:=t0,pos:=pos,after:=after,guard:=gd}).run Go.Proofs.Tryz.prog w=.ok (.value (.agg cs.toArray)) w:=
  have⟨_,u,r⟩:=vK (P:=Go.Proofs.Tryz.prog) (t:=110) (by kernel_rfl)
  yK hx hS u r (by rw[hl];kernel_rfl)
theorem zn9 {ops:Array Oper} {Q:Exit→Act→World→Prop} {a:Act} {w:World} {rest:List Oper} {o:Oper} {cs:List Value} {m:Operand} {k:Operand} {Z:Array Value} {U:TypeId} (hg:o.guard=none) (ho:o.op=.store 108 m k) (hm:a.eval m=.pointer (some ⟨w.heap.size,0,none⟩)) (hk:a.eval k=.agg cs.toArray) (hz:cs.length=34) (h1:∀v∈cs,v.oneCell'=true) (h:wpList Go.Proofs.Tryz.prog ops Q rest (a.put o.dst undef) (w.alloc (.cells cs.toArray U))) (hZ:Z.size=34:=by rfl):wpList Go.Proofs.Tryz.prog ops Q (o::rest) a (w.alloc (.cells Z U)):=
  zi hg (zm ho hm hk (hZ.trans hz.symm) (by rw[hz];kernel_rfl) h1) h
theorem zoa {ops:Array Oper} {Q:Exit→Act→World→Prop} {a:Act} {w:World} {rest:List Oper} {o:Oper} {cs:List Value} {m:Operand} {k:Operand} {Z:Array Value} {U:TypeId} (hg:o.guard=none) (ho:o.op=.store 103 m k) (hm:a.eval m=.pointer (some ⟨w.heap.size,0,none⟩)) (hk:a.eval k=.agg cs.toArray) (hz:cs.length=33) (h1:∀v∈cs,v.oneCell'=true) (h:wpList Go.Proofs.Tryz.prog ops Q rest (a.put o.dst undef) (w.alloc (.cells cs.toArray U))) (hZ:Z.size=33:=by rfl):wpList Go.Proofs.Tryz.prog ops Q (o::rest) a (w.alloc (.cells Z U)):=
  zi hg (zm ho hm hk (hZ.trans hz.symm) (by rw[hz];kernel_rfl) h1) h
theorem zob {ops:Array Oper} {Q:Exit→Act→World→Prop} {a:Act} {w:World} {rest:List Oper} {o:Oper} {cs:List Value} {m:Operand} {k:Operand} {Z:Array Value} {U:TypeId} (hg:o.guard=none) (ho:o.op=.store 41 m k) (hm:a.eval m=.pointer (some ⟨w.heap.size,0,none⟩)) (hk:a.eval k=.agg cs.toArray) (hz:cs.length=32) (h1:∀v∈cs,v.oneCell'=true) (h:wpList Go.Proofs.Tryz.prog ops Q rest (a.put o.dst undef) (w.alloc (.cells cs.toArray U))) (hZ:Z.size=32:=by rfl):wpList Go.Proofs.Tryz.prog ops Q (o::rest) a (w.alloc (.cells Z U)):=
  zi hg (zm ho hm hk (hZ.trans hz.symm) (by rw[hz];kernel_rfl) h1) h
theorem zoc {ops:Array Oper} {Q:Exit→Act→World→Prop} {a:Act} {w:World} {rest:List Oper} {o:Oper} {cs:List Value} {m:Operand} {k:Operand} {Z:Array Value} {U:TypeId} (hg:o.guard=none) (ho:o.op=.store 95 m k) (hm:a.eval m=.pointer (some ⟨w.heap.size,0,none⟩)) (hk:a.eval k=.agg cs.toArray) (hz:cs.length=33) (h1:∀v∈cs,v.oneCell'=true) (h:wpList Go.Proofs.Tryz.prog ops Q rest (a.put o.dst undef) (w.alloc (.cells cs.toArray U))) (hZ:Z.size=33:=by rfl):wpList Go.Proofs.Tryz.prog ops Q (o::rest) a (w.alloc (.cells Z U)):=
  zi hg (zm ho hm hk (hZ.trans hz.symm) (by rw[hz];kernel_rfl) h1) h
end Go
namespace Go.Proofs.YtdkkjchclkjleaaGreatDoor
open Go Go.RowKit Go.Maps Go.MapKept
open Go.Proofs.Tryz(prog)
open List(mem_map getElem?_eq_getElem mem_append mem_cons length_append length_map map_append length_take getElem?_map nodup_cons map_cons length_cons append_assoc not_mem_nil setIfInBounds_toArray)
open Nat(le_refl zero_le zero_add)
theorem Yq:laidOutB prog=true:=by kernel_rfl
theorem zl9 {x:Int} (h:0≤x∧x≤255):(Lit.int .u8 x).wf=true:=by
 simp[Lit.wf,IntKind.min,IntKind.max,IntKind.signed,IntKind.bits]
 omega
theorem zm4 {x:Int} (h:0≤x∧x≤4294967295):(Lit.int .u32 x).wf=true:=by
 simp[Lit.wf,IntKind.min,IntKind.max,IntKind.signed,IntKind.bits]
 omega
theorem zm5 {x:Int} (h:0≤x∧x≤18446744073709551615):(Lit.int .u64 x).wf=true:=by
 simp[Lit.wf,IntKind.min,IntKind.max,IntKind.signed,IntKind.bits]
 omega
theorem zab:∀ {a b:List Int},a.map zM=b.map zM→a=b
 |[],[],_=>rfl
 |[],_::_,h=>by simp at h
 |_::_,[],h=>by simp at h
 |x::a,y::b,h=>by
  simp only[map_cons,List.cons.injEq,zM,Value.int.injEq,true_and] at h
  rw[h.1,zab h.2]
theorem Vo {l:List Int} (h:zX l) (d:Nat):∃b,prog.keyLits (d+2) 41 (l.map zM)=some b:=
 Vm (show prog.underlying 41=some (.array 32 5) by kernel_rfl) (by kernel_rfl) (by kernel_rfl) (by kernel_rfl) d l h.1 (λx a=>zl9 (h.2 x a))
def zn (p:zF):List Value:=p.tx.map zM++[.int .u32 p.n]
def j8 (p:zF):Value:=.agg (zn p).toArray
theorem zY {p:zF} (h:p.ok):(zn p).length=33:=by simp[zn,h.1.1]
theorem zc4 {p:zF} (h:p.ok):(zn p)[32]? =some (.int .u32 p.n):=by
 unfold zn
 rw[List.getElem?_append_right (by simp[h.1.1]),length_map,h.1.1];rfl
theorem yI {p:zF}:∀v∈zn p,v.oneCell'=true:=by
 intro v a
 unfold zn at a
 simp only[mem_append,mem_map,List.mem_singleton] at a
 rcases a with⟨y,_,rfl⟩|rfl<;>rfl
theorem zbZ {a b:zF} (h:zn a=zn b):a=b:=by
 obtain⟨x,l⟩:=a
 obtain⟨y,m⟩:=b
 simp only[zn] at h
 obtain⟨d,c⟩:=List.append_inj' h rfl
 simp only[List.cons.injEq,Value.int.injEq,true_and,and_true] at c
 rw[zab d,c]
theorem vr {a b:zF} (h:j8 a=j8 b):a=b:=by
 unfold j8 at h
 injection h with h
 exact zbZ (by simpa using congrArg Array.toList h)
theorem ZM:xS prog 95=[(41,0,true),(31,32,true)]:=by kernel_rfl
theorem zb0 {p:zF} (h:p.ok) (d:Nat):∀x∈xS prog 95,∃l,prog.keyLits (d+2) x.1 (((zn p).drop x.2.1).take (prog.cellsOf x.1))=some l:=by
 rw[ZM]
 intro x a
 simp only[mem_cons,not_mem_nil,or_false] at a
 rcases a with rfl|rfl
 ·have e:((zn p).drop 0).take (prog.cellsOf 41)=p.tx.map zM:=by
   rw[show prog.cellsOf 41=32 by kernel_rfl]
   unfold zn
   rw[List.drop_zero,List.take_append_of_le_length (by simp[h.1.1]),List.take_of_length_le (by simp[h.1.1])]
  simp only[e]
  exact Vo h.1 d
 ·have e:((zn p).drop 32).take (prog.cellsOf 31)=[.int .u32 p.n]:=by
   rw[show prog.cellsOf 31=1 by kernel_rfl]
   unfold zn
   rw[List.drop_append_of_le_length (by simp[h.1.1]),List.drop_of_length_le (by simp[h.1.1])];rfl
  simp only[e]
  exact⟨_,JO (by kernel_rfl) _ (zm4 h.2)⟩
theorem xP {p:zF} (h:p.ok):∃l,keyOf prog 95 (j8 p)=some l:=by
 have a:prog.types.size=prog.types.size-2+2:=by kernel_rfl
 refine JA ZM (by simp) (by decide) (by kernel_rfl) (cs:=zn p) (by rw[zY h];kernel_rfl) ?_
 rw[a,←ZM]
 exact zb0 h _
theorem Jf:EqN prog 95:=⟨Keyed.of_law (deep_law_laid Yq (m:=3) (by decide) (of_decide_eq_true (by kernel_rfl)) (by kernel_rfl) (by kernel_rfl)),⟨3,by decide,by kernel_rfl⟩,by kernel_rfl,by kernel_rfl⟩
theorem zhz:∃d,prog.underlying 95=some d∧d.isRow=true:=vK (by kernel_rfl)
theorem xL:(prog.info? 95).map (·.size)=some 33:=by kernel_rfl
def xQ:zF:=⟨List.replicate 32 0,0⟩
theorem YC:prog.underlying 91=some (.slice 95):=by kernel_rfl
theorem QC:(prog.info? 95).map (λi=>(i.zero,i.size,i.bytes))=some (some (.agg (zn xQ).toArray),33,36):=by kernel_rfl
theorem zaL:(prog.info? 95).map (λi=>(i.zero,i.size))=some (some (.agg (zn xQ).toArray),33):=by kernel_rfl
def zJ (x:yE):List Value:=.int .u64 x.value::x.lock.map zM
def zcp (x:yE):Value:=.agg (zJ x).toArray
theorem yr {x:yE} (h:x.ok):(zJ x).length=33:=by simp[zJ,h.2.1]
theorem yc {x:yE}:∀v∈zJ x,v.oneCell'=true:=by
 intro v a
 unfold zJ at a
 simp only[mem_cons,mem_map] at a
 rcases a with rfl|⟨y,_,rfl⟩<;>rfl
theorem zb6:xS prog 103=[(48,0,true),(41,1,true)]:=by kernel_rfl
theorem zjS {o:yE} (h:o.ok) (d:Nat):∀x∈xS prog 103,∃l,prog.keyLits (d+2) x.1 (((zJ o).drop x.2.1).take (prog.cellsOf x.1))=some l:=by
 rw[zb6]
 intro x a
 simp only[mem_cons,not_mem_nil,or_false] at a
 rcases a with rfl|rfl
 ·have e:((zJ o).drop 0).take (prog.cellsOf 48)=[.int .u64 o.value]:=by
   rw[show prog.cellsOf 48=1 by kernel_rfl];rfl
  simp only[e]
  exact⟨_,JO (by kernel_rfl) _ (zm5 h.1)⟩
 ·have e:((zJ o).drop 1).take (prog.cellsOf 41)=o.lock.map zM:=by
   rw[show prog.cellsOf 41=32 by kernel_rfl]
   show(o.lock.map zM).take 32=o.lock.map zM
   rw[List.take_of_length_le (by simp[h.2.1])]
  simp only[e]
  exact Vo h.2 d
theorem zeL {o:yE} (h:o.ok):∃l,keyOf prog 103 (zcp o)=some l:=by
 have a:prog.types.size=prog.types.size-2+2:=by kernel_rfl
 refine JA zb6 (by simp) (by decide) (by kernel_rfl) (cs:=zJ o) (by rw[yr h];kernel_rfl) ?_
 rw[a,←zb6]
 exact zjS h _
theorem znz:EqN prog 103:=⟨Keyed.of_law (deep_law_laid Yq (m:=3) (by decide) (of_decide_eq_true (by kernel_rfl)) (by kernel_rfl) (by kernel_rfl)),⟨3,by decide,by kernel_rfl⟩,by kernel_rfl,by kernel_rfl⟩
theorem Z0:∃d,prog.underlying 103=some d∧d.isRow=true:=vK (by kernel_rfl)
theorem yz:(prog.info? 103).map (·.size)=some 33:=by kernel_rfl
def y6:yE:=⟨0,List.replicate 32 0⟩
theorem Zm:y6.ok:=⟨by decide,rfl,λx a=>by have:x=0:=List.eq_of_mem_replicate a;omega⟩
theorem zlP (w:World):(zeroValue 103).run prog w=.ok (zcp y6) w:=by kernel_rfl
theorem qO:prog.underlying 22=some (.slice 103):=by kernel_rfl
theorem Jz:(prog.info? 103).map (λi=>(i.zero,i.size,i.bytes))=some (some (.agg (zJ y6).toArray),33,40):=by kernel_rfl
theorem Jo:(prog.info? 103).map (λi=>(i.zero,i.size))=some (some (.agg (zJ y6).toArray),33):=by kernel_rfl
def yT (c:zr):List Value:=zn c.at_++zJ c.out
theorem jP {c:zr} (h:c.ok):(yT c).length=66:=by simp[yT,zY h.1,yr h.2]
theorem Zo {c:zr}:∀v∈yT c,v.oneCell'=true:=by
 intro v a
 rcases mem_append.1 a with h|h
 ·exact yI v h
 ·exact yc v h
theorem zds {w:World} {b o:Nat} {c:zr} (h:w.rangeAt b o (yT c)):w.rangeAt b o (zn c.at_):=λj v a=>h j v (by
 unfold yT
 rw[List.getElem?_append_left (List.getElem?_eq_some_iff.1 a).1]
 exact a)
theorem zi9 {w:World} {b o:Nat} {c:zr} (a:c.ok) (h:w.rangeAt b o (yT c)):w.rangeAt b (o+33) (zJ c.out):=λj v d=>by
 have:=h (33+j) v (by
  unfold yT
  rw[List.getElem?_append_right (by rw[zY a.1];omega),zY a.1]
  rw[show 33+j-33=j by omega]
  exact d)
 rw[Nat.add_assoc]
 exact this
theorem zbs:∃d,prog.underlying 214=some d∧d.isRow=true:=vK (by kernel_rfl)
theorem JX:(prog.info? 214).map (·.size)=some 66:=by kernel_rfl
def zcz:zr:=⟨xQ,y6⟩
theorem zcj (w:World):(zeroValue 214).run prog w=.ok (.agg (yT zcz).toArray) w:=by kernel_rfl
theorem vO (w:World):(zeroValue 95).run prog w=.ok (.agg (zn xQ).toArray) w:=by kernel_rfl
theorem xm (w:World):(zeroValue 103).run prog w=.ok (.agg (zJ y6).toArray) w:=by kernel_rfl
theorem VP:prog.underlying 145=some (.slice 214):=by kernel_rfl
theorem zam:(prog.info? 214).map (λi=>(i.zero,i.size,i.bytes))=some (some (.agg (yT zcz).toArray),66,80):=by kernel_rfl
theorem zf4:(prog.info? 214).map (λi=>(i.zero,i.size))=some (some (.agg (yT zcz).toArray),66):=by kernel_rfl
def q9 (w:World) (v:Value) (l:List zr):Prop:=(∀c∈l,c.ok)∧y7 w v l.length (l.flatMap yT)
theorem q9.keep {w w':World} {v:Value} {l:List zr} (h:q9 w v l) (f:Fr No w w'):q9 w' v l:=⟨h.1,h.2.keep f⟩
theorem q9.at_ {w:World} {v:Value} {l:List zr} (h:q9 w v l) {i:Nat} {c:zr} (d:l[i]? =some c):∃b off a,v=.slice (some ⟨b,off,none⟩) l.length a∧w.rangeAt b (off+i*66) (yT c)∧b<w.heap.size:=
 h.2.elem (by decide) (λx d=>jP (h.1 x d)) d
def xN (w:World) (v:Value) (l:List zF):Prop:=(∀p∈l,p.ok)∧y7 w v l.length (l.flatMap zn)
theorem xN.keep {w w':World} {v:Value} {l:List zF} (h:xN w v l) (f:Fr No w w'):xN w' v l:=⟨h.1,h.2.keep f⟩
theorem xN.at_ {w:World} {v:Value} {l:List zF} (h:xN w v l) {i:Nat} {p:zF} (c:l[i]? =some p):∃b off a,v=.slice (some ⟨b,off,none⟩) l.length a∧w.rangeAt b (off+i*33) (zn p)∧b<w.heap.size:=
 h.2.elem (by decide) (λx c=>zY (h.1 x c)) c
theorem ZS:prog.underlying 233=some (.map 95 103):=by kernel_rfl
theorem YX:prog.underlying 159=some (.map 95 3):=by kernel_rfl
theorem YD (w:World):(zeroValue 3).run prog w=.ok (.int .i64 0) w:=by kernel_rfl
end Go.Proofs.YtdkkjchclkjleaaGreatDoor
namespace Go
open Go.MapKept Go.RowKit Go.Maps
def j4 (P:Program) (kt:TypeId) (w:World) (r b:Nat) (L R:List (Value×Value)):Prop:=
 ∃es clk seen,w.heap[b]? =some (.map es clk)∧Stamped es clk∧es.size≤maxLen∧kv es=L∧(∀e∈es.toList,∃l,keyOf P kt e.key=some l)∧r≠b∧
  w.heap[r]? =some (.mapIter (some b) clk seen clk)∧(es.toList.filter λe=> !seen.contains e.born).map (λe=>(e.key,e.val))=R
section
variable {P:Program} {kt et t:TypeId} {w:World} {r b:Nat} {L R:List (Value×Value)}
theorem j4.map (h:j4 P kt w r b L R):xt P kt w b L:=by
 obtain⟨es,c,seen,d,e,f,g,i,_⟩:=h
 exact⟨es,c,d,e,f,g,i⟩
theorem j4.keep {w':World} {W:Nat→Prop} (h:j4 P kt w r b L R) (f:Fr W w w') (n:¬W b) (p:¬W r):j4 P kt w' r b L R:=by
 obtain⟨es,c,seen,d,e,g,i,j,k,l,m⟩:=h
 exact⟨es,c,seen,f.obj d n,e,g,i,j,k,f.obj l p,m⟩
theorem xt.range (j:P.underlying t=some (.map kt et)) (h:xt P kt w b L):
  ∃c,(Instr.range t (.map (some b))).run P w=.ok (.pointer (some ⟨w.heap.size,0,none⟩)) (w.alloc (.mapIter (some b) c #[] c))∧j4 P kt (w.alloc (.mapIter (some b) c #[] c)) w.heap.size b L L:=by
 have f:=h.lt
 obtain⟨es,c,d,i,g,rfl,e⟩:=h
 refine⟨c,?_,es,c,#[],Jj d _,i,g,rfl,e,by omega,ye w _,?_⟩
 ·simp[Instr.range,run_underlying j,MapKept.run_getObj_map d,Result.andThen,newObj,Sem.run]
 ·rw[List.filter_eq_self.2 (by simp)];rfl
theorem j4.nextNone (h:j4 P kt w r b L []) (ty:TypeId):(Instr.next (.pointer (some ⟨r,0,none⟩)) false ty).run P w=.ok (.tuple #[.bool false]) w:=by
 obtain⟨es,c,seen,g,l,p,m,n,j,k,f⟩:=h
 rcases run_next_at (P:=P) w ty r b c c seen es c k g l.1 (Nat.le_refl _) with⟨_,h⟩|⟨e,i,_⟩
 ·exact h
 ·have d:e∈es.toList.filter λe=> !seen.contains e.born:=by simpa[leftOf] using i
  have:(e.key,e.val)∈(es.toList.filter λe=> !seen.contains e.born).map (λe=>(e.key,e.val)):=List.mem_map.2 ⟨e,d,rfl⟩
  rw[f] at this
  cases this
theorem j4.nextSome (h:j4 P kt w r b L R) (F:R≠[]) (ty:TypeId):
  ∃G p H w',R=G++p::H∧(Instr.next (.pointer (some ⟨r,0,none⟩)) false ty).run P w=.ok (.tuple #[.bool true,p.1,p.2]) w'∧j4 P kt w' r b L (G++H)∧Fr (· =r) w w'∧
   ∀d,d.heap[r]? =w'.heap[r]? →d.heap[b]? =w'.heap[b]? →(Instr.entry (.pointer (some ⟨r,0,none⟩))).run P d=.ok (.tuple #[p.1,p.2]) d:=by
 obtain⟨es,c,seen,M,v,V,T,E,m,N,D⟩:=h
 rcases run_next_at (P:=P) w ty r b c c seen es c N M v.1 (Nat.le_refl _) with⟨S,_⟩|⟨e,U,y,s,q⟩
 ·have z:(leftOf es seen).toList=[]:=by simpa using S
  have C:es.toList.filter (λe=> !seen.contains e.born)=[]:=by simpa[leftOf] using z
  rw[C] at D
  exact absurd D.symm F
 ·have i:e∈es.toList.filter λe=> !seen.contains e.born:=by simpa[leftOf] using U
  have j:e∈es.toList:=(List.mem_filter.1 i).1
  obtain⟨A,B,f⟩:=List.append_of_mem i
  have l:((A++e::B).map (·.born)).Nodup:=by rw[←f];exact v.2.1.sublist (List.filter_sublist.map _)
  simp only[List.map_append,List.map_cons] at l
  obtain⟨Z,W,X⟩:=List.nodup_append.1 l
  obtain⟨Y,n5⟩:=List.nodup_cons.1 W
  have g:y.heap=w.heap:=by rcases s with rfl|rfl<;>rfl
  have Q:Fr (· =r) w y:=by
   rcases s with rfl|rfl
   ·exact Fr.refl _ _
   ·exact(Fr.refl _ _).drew
  have n:=yG N
  have I:(ChangeMaps.setBlock y r (.mapIter (some b) c (seen.push e.born) c)).heap[r]? =some (.mapIter (some b) c (seen.push e.born) c):=by
   simp[ChangeMaps.setBlock,g,n]
  have K:(ChangeMaps.setBlock y r (.mapIter (some b) c (seen.push e.born) c)).heap[b]? =some (.map es c):=by
   simp only[ChangeMaps.setBlock,g]
   rw[Array.getElem?_setIfInBounds_ne m]
   exact M
  refine⟨A.map (λe=>(e.key,e.val)),(e.key,e.val),B.map (λe=>(e.key,e.val)),_,by rw[←D,f];simp,q,⟨es,c,seen.push e.born,K,v,V,T,E,m,I,?_⟩,?_,?_⟩
  ·have O:(es.toList.filter λx=> !(seen.push e.born).contains x.born)=(es.toList.filter λx=> !seen.contains x.born).filter λx=>decide (x.born≠e.born):=by
    rw[List.filter_filter]
    apply List.filter_congr
    intro x _
    by_cases u:x.born=e.born<;>simp[u]
   rw[O,f,List.filter_append,List.filter_cons,if_neg (by simp),List.filter_eq_self.2,List.filter_eq_self.2,List.map_append]
   ·intro x u;simp only[decide_eq_true_eq];exact λh=>Y (h▸List.mem_map.2 ⟨x,u,rfl⟩)
   ·intro x u;simp only[decide_eq_true_eq];exact λh=>X x.born (List.mem_map.2 ⟨x,u,rfl⟩) e.born (by simp) h
  ·refine Q.trans ⟨rfl,rfl,rfl,by simp[ChangeMaps.setBlock],λk _ E=>?_⟩ (λ_ _ h=>h)
   simp only[ChangeMaps.setBlock]
   rw[Array.getElem?_setIfInBounds_ne (Ne.symm E)]
  ·intro d z C
   exact run_entry_at d r b c seen es c e (z.trans I) (C.trans K) j v.2.1
end
section
variable {P:Program} {o:Oper} {a:Act} {w w':World} {ops:Array Oper} {rest:List Oper}
theorem jU {Q:Exit→Act→World→Prop} {x:Operand} {t:TypeId} {e v:Value} (g:o.guard=none) (d:o.op=.range t x) (i:a.eval x=e)
  (c:(Instr.range t e).run P w=.ok v w') (h:wpList P ops Q rest (a.put o.dst v) w'):wpList P ops Q (o::rest) a w:=by
 refine wpList_plain g λK' hK'=>?_
 unfold Oper.wp
 have f:(execOp a.eval o).run P w=.ok (.value v) w':=by simp[execOp,d,i,c,Result.andThen]
 rw[f]
 exact hK' _ _ h
theorem xH {Q:Exit→Act→World→Prop} {x:Operand} {s:Bool} {e v:Value} (g:o.guard=none) (d:o.op=.next x s) (i:a.eval x=e)
  (c:(Instr.next e s o.type).run P w=.ok v w') (h:wpList P ops Q rest (a.put o.dst v) w'):wpList P ops Q (o::rest) a w:=by
 refine wpList_plain g λK' hK'=>?_
 unfold Oper.wp
 have f:(execOp a.eval o).run P w=.ok (.value v) w':=by simp[execOp,d,i,c,Result.andThen]
 rw[f]
 exact hK' _ _ h
theorem vN {Q:Exit→Act→World→Prop} {x:Operand} {e v:Value} (g:o.guard=none) (d:o.op=.entry x) (i:a.eval x=e)
  (c:(Instr.entry e).run P w=.ok v w') (h:wpList P ops Q rest (a.put o.dst v) w'):wpList P ops Q (o::rest) a w:=by
 refine wpList_plain g λK' hK'=>?_
 unfold Oper.wp
 have f:(execOp a.eval o).run P w=.ok (.value v) w':=by simp[execOp,d,i,c,Result.andThen]
 rw[f]
 exact hK' _ _ h
end
end Go
namespace Go.Proofs.YtdkkjchclkjleaaGreatDoor
open Go Go.RowKit Go.Maps Go.MapKept
open Go.Proofs.Tryz(prog)
open List(mem_map getElem?_eq_getElem mem_append mem_cons length_append length_map map_append length_take getElem?_map nodup_cons map_cons length_cons append_assoc not_mem_nil setIfInBounds_toArray)
open Nat(le_refl zero_le zero_add)
theorem VI {α:Type}:∀ {A B:List α},A.Nodup→(∀x∈A,x∈B)→A.length≤B.length∧(A.length=B.length→A.Perm B)
 |[],B,_,_=>⟨zero_le _,λh=>by rw[List.eq_nil_of_length_eq_zero h.symm]⟩
 |a::A,B,hn,hs=>by
  obtain⟨c,d,rfl⟩:=List.append_of_mem (hs a (by simp))
  obtain⟨e,f⟩:=nodup_cons.1 hn
  obtain⟨i,g⟩:=VI (A:=A) (B:=c++d) f (λx b=>by
   have:=hs x (by simp[b])
   simp only[mem_append,mem_cons] at this⊢
   rcases this with h|rfl|h
   ·exact .inl h
   ·exact absurd b e
   ·exact .inr h)
  simp only[length_append,length_cons] at*
  refine⟨by omega,λh=>?_⟩
  exact(List.Perm.cons a (g (by omega))).trans List.perm_middle.symm
theorem zap {α:Type} {A B:List α} (b:A.Nodup) (h:∀x,x∈A↔x∈B):A.length=B.length↔B.Nodup:=by
 constructor
 ·intro e
  exact((VI b (λx a=>(h x).1 a)).2 e).nodup_iff.1 b
 ·intro c
  exact Nat.le_antisymm (VI b (λx a=>(h x).1 a)).1 (VI c (λx a=>(h x).2 a)).1
abbrev j9 (w:World) (m:Nat) (M:List (zF×yE)):Prop:=yD prog 95 j8 zcp w m M
structure CS (w0 w:World) (p:Nat) (V:Nat→Prop) (S:List zr):Prop where
 ex:∃m M,w.heap[p]? =some (.cells #[.map (some m)] 235 (0,0))∧j9 w m M∧(∀k v,(k,v)∈M↔(⟨k,v⟩:zr)∈S)∧p≠m∧V=λj=>j=p∨j=m
 srt:qV S
 ok:∀c∈S,c.ok
 lo:∀j,V j→w0.heap.size≤j
 fr:Fr No w0 w
section
variable {w0 w:World} {p:Nat} {V:Nat→Prop} {S:List zr}
theorem CS.hi (h:CS w0 w p V S):∀j,V j→j<w.heap.size:=by
 obtain⟨m,M,a,b,-,-,rfl⟩:=h.ex
 rintro j (rfl|rfl)
 ·exact yG a
 ·exact b.lt
theorem CS.frV {w':World} (h:CS w0 w p V S) {U:Nat→Prop} (f:Fr U w w') (b:∀j,V j→¬U j) (c:∀j,U j→w0.heap.size≤j):CS w0 w' p V S:=by
 obtain⟨m,M,d,g,k,a,rfl⟩:=h.ex
 exact {h with
  ex:=⟨m,M,f.obj d (b p (.inl rfl)),g.keep f (b m (.inr rfl)),k,a,rfl⟩
  fr:=h.fr.trans f (λi hi e=>by have:=c i e;omega)}
theorem CS.fr0 {w':World} (h:CS w0 w p V S) (f:Fr No w w'):CS w0 w' p V S:=h.frV f (λ_ _=>id) (λ_ h=>h.elim)
omit w0 w p V S in
theorem zc0 {w:World} {m:Nat} {M:List (zF×yE)} {S:List zr} (f:j9 w m M) (g:∀k v,(k,v)∈M↔(⟨k,v⟩:zr)∈S) (a:qV S):M.length=S.length:=by
 have b:(M.map λx=>(⟨x.1,x.2⟩:zr)).Nodup:=by
  have:=f.nodup
  unfold List.Nodup at*
  rw[List.pairwise_map] at*
  exact this.imp (λh e=>h (by injection e))
 have c:S.Nodup:=by
  have:=a.nodup
  unfold List.Nodup at*
  rw[List.pairwise_map] at this
  exact this.imp (λh e=>h (by rw[e]))
 have d:=(List.perm_ext_iff_of_nodup b c).2 (λx=>by
  rw[←show(⟨x.at_,x.out⟩:zr)=x from rfl,←g]
  constructor
  ·intro h
   obtain⟨y,i,e⟩:=mem_map.1 h
   injection e with e1 e2
   rw[←e1,←e2]
   exact i
  ·intro h
   exact mem_map.2 ⟨_,h,rfl⟩)
 rw[←d.length_eq,length_map]
omit w0 w p V S in
theorem zgi (w:World):(Instr.makeMap 233 none).run prog w=.ok (.map (some w.heap.size)) (w.alloc (.map #[] 0)):=by kernel_rfl
omit w0 w p V S in
theorem zk7 (w:World):∃a,a=(w.alloc (.map #[] 0)).alloc (.cells #[.map (some w.heap.size)] 235)∧Fr No w a∧j9 a w.heap.size []∧a.heap[w.heap.size+1]? =some (.cells #[.map (some w.heap.size)] 235 (0,0)):=by
 refine⟨_,rfl,((frN w).alloc _).alloc _,(yD.made w).keep (W:=No) ((Fr.refl _ _).alloc _) id,?_⟩
 exact yL (w.alloc (.map #[] 0)) (.cells #[.map (some w.heap.size)] 235) (n:=w.heap.size+1) (by simp)
omit w0 w p V S in
def zmg (w:World) (l:List zr) (e:Ending) (w':World):Prop:=∃M,e=.returned (if(l.map (·.at_)).Nodup then .tuple #[.pointer (some ⟨w.heap.size+1,0,none⟩),.int .i64 0] else .tuple #[.pointer none,.int .i64 12])∧j9 w' w.heap.size M∧w'.heap[w.heap.size+1]? =some (.cells #[.map (some w.heap.size)] 235 (0,0))∧Fr No w w'∧((l.map (·.at_)).Nodup→∀k v,(k,v)∈M↔(⟨k,v⟩:zr)∈l)
omit w0 w p V S in
theorem zg0 (w:World) {v:Value} {l:List zr} (hl:q9 w v l) (hN:l.length≤100000):
  Calls prog 69 #[v] w (zmg w l):=by
 obtain⟨dC,uC,rC⟩:=zbs
 obtain⟨dO,uO,rO⟩:=Z0
 obtain⟨va,vc,rfl⟩:=hl.2.form
 have HL:=J hl
 obtain⟨w1,R,f1,I,F⟩:=zk7 w
 have F1:=J f1
 have A:=J I
 have u:=J F
 have m1:=zgi
 clear hl f1 I F
 go_enter Tryz.func69,Tryz.ntmps69
 go_wp2_with fail
 rw[←R]
 clear R m1
 generalize N:w.heap.size=q at*
 go_loopw [12] (λiv wr=>∃(n:Nat) (M:List (zF×yE)),iv=.int .i64 n∧n≤l.length∧j9 wr q M∧wr.heap[q+1]? =some (.cells #[.map (some q)] 235 (0,0))∧(∀k v,(k,v)∈M→(⟨k,v⟩:zr)∈l.take n)∧(∀c∈l.take n,∃v,(c.at_,v)∈M)∧M.length≤n∧Fr No w wr) (λiv _=>l.length-(intOf iv).toNat)
 case atStart=>exact⟨0,[],rfl,zero_le _,A.o,u.o,by simp,by simp,le_refl _,F1.o⟩
 case round=>
  obtain⟨n,M,rfl,hn,hm,m,h1,h2,ad,fr⟩:=hrel
  have r:=J hm
  have HB:=J m
  have T:=J fr
  have H1:=J h1
  have H2:=J h2
  clear h1 h2 fr hm
  by_cases h:n<l.length
  ·have i1:(n:Int)<(l.length:Int):=by omega
   obtain⟨c,hx⟩:∃c,l[n]? =some c:=⟨_,getElem?_eq_getElem h⟩
   obtain⟨b,off,ab,P,hr,-⟩:=(HL.o.keep T.o).at_ hx
   cases P
   have f:=J (HL.o.1 c (List.mem_of_getElem? hx))
   have W:=J (jP f.o)
   have PL:=J (zY f.o.1)
   have OL:=J (yr f.o.2)
   have R1:=J hr
   have nb:=zy wr (yT c) 214
   have RP:=J (zds nb)
   have RO:=@J ((wr.alloc (.cells (yT c).toArray 214)).rangeAt wr.heap.size 33 (zJ c.out)) (by have:=zi9 f.o nb;rwa [zero_add] at this)
   have zc:=zcj
   have E:l.take (n+1)=l.take n++[c]:=by rw[List.take_add_one,hx];rfl
   have U:=(frN wr).alloc (.cells (yT c).toArray 214)
   have FA:=J (T.o.trans0 U)
   have o:=U.obj m id
   have cA:(wr.alloc (.cells (yT c).toArray 214)).cell? ⟨q+1,0,none⟩=some (.map (some q)):=(zaR o).1
   have CA:=J cA
   have ae:q<wr.heap.size:=r.o.lt
   obtain⟨w3,M',O,D,hU,s,H⟩:=((r.o.keep U id).keep (frN _).drew id).upd Jf.keyed ZS (λ_ _=>vr) (xP f.o.1) (by unfold maxLen;omega) c.out
   have C:=s.fr
   have HR:=J O
   have Y:=J D
   have z:=J (C.obj (show(wr.alloc (.cells (yT c).toArray 214)).drew.heap[q+1]? =_ from o) (λe=>by omega))
   have S3:=@J (w3.cell? ⟨q+1,0,none⟩=some (.map (some q))∧w3.rangeAt wr.heap.size 0 (zn c.at_)∧w3.rangeAt wr.heap.size 33 (zJ c.out)) (⟨(zaR z.o).1,za (za RP.o (frN _).drew id) C (λe=>by omega),za (za RO.o (frN _).drew id) C (λe=>by omega)⟩)
   have F3:=J (FA.o.drew.trans C (λi hi e=>by omega))
   have Z:=J hU
   have X:=J H
   clear hr nb cA O D hU s H C U m o
   go_wp2_with (first|(refine zg rfl (zZ (ty:=214) rfl rfl R1.o uC rC (by rw[W.o];exact JX)) ?_)|(refine zi rfl (zm (w:=wr) (ty:=214) rfl rfl rfl (by rw[W.o];rfl) (by rw[W.o];exact JX) Zo) ?_))
   refine wrLx [ff,ff,ff,ff,ff,ff,ff,ff,tt] (λw'=>w'.cell? ⟨q+1,0,none⟩=some (.map (some q))∧w'.rangeAt wr.heap.size 0 (zn c.at_)∧w'.rangeAt wr.heap.size 33 (zJ c.out)) ?_ (λK hK=>?_)
   ·exact⟨CA.o,za RP.o (frN _).drew id,za RO.o (frN _).drew id⟩
   repeat((first|(refine zj rfl ?_;constructor;constructor;(focus(first|exact zn6 rfl (λw h=>h.2.1) PL.o|exact yK (ty:=103) rfl (λw h=>h.2.2) uO rO (by rw[OL.o];exact yz)|(rintro w' ⟨s1,s2,s3⟩;go_simp;(try with_reducible rfl);done))))|(refine zl rfl ?_));try simp only[Act.put,pA,pB,pC])
   (refine zE rfl (λK' hK'=>?_))
   refine yN (y4 rfl rfl rfl rfl HR.o) ?_
   refine nXt hK' ?_ λhS=>?_
   ·exact S3.o
   refine zL (hK.out _ _ ?_)
   go_wp2
   go_roundw
   case rel=>
    refine⟨n+1,M',by simp,by omega,Y.o,z.o,?_,?_,by have:=X.o;omega,F3.o⟩
    ·intro k v aa
     rw[E]
     rcases(Z.o k v).1 aa with⟨rfl,rfl⟩|⟨_,h⟩
     ·simp
     ·exact mem_append.2 (.inl (H1.o k v h))
    ·intro c' G
     rw[E] at G
     by_cases e:c'.at_=c.at_
     ·exact⟨c.out,by rw[e];exact(Z.o _ _).2 (.inl ⟨rfl,rfl⟩)⟩
     ·rcases mem_append.1 G with h|h
      ·obtain⟨v,P⟩:=H2.o c' h
       exact⟨v,(Z.o _ _).2 (.inr ⟨e,P⟩)⟩
      ·rw[List.mem_singleton.1 h] at e;exact absurd rfl e
   case measure=>show l.length-(n+1)<l.length-n;omega
  ·have i1:¬(n:Int)<(l.length:Int):=by omega
   have s:l.take n=l:=by rw[show n=l.length by omega,List.take_length]
   have j:=@J (∀k v,(k,v)∈M→(⟨k,v⟩:zr)∈l) (by have:=H1.o;rwa [s] at this)
   have t:=@J (∀c∈l,∃v,(c.at_,v)∈M) (by have:=H2.o;rwa [s] at this)
   have g:∀x,x∈M.map (·.1)↔x∈l.map (·.at_):=by
    intro x
    constructor
    ·intro h
     obtain⟨y,hy,rfl⟩:=mem_map.1 h
     exact mem_map.2 ⟨_,j.o y.1 y.2 hy,rfl⟩
    ·intro h
     obtain⟨c,hc,rfl⟩:=mem_map.1 h
     obtain⟨v,P⟩:=t.o c hc
     exact mem_map.2 ⟨_,P,rfl⟩
   have d:=zap r.o.nodup g
   rw[length_map,length_map] at d
   have c0:wr.cell? ⟨q+1,0,none⟩=some (.map (some q)):=(zaR m).1
   have LR:=J (λty=>r.o.lenRun ZS ty)
   clear s g A u F1 m
   by_cases hnd:(l.map (·.at_)).Nodup
   ·have j1:(M.length:Int)=(l.length:Int):=by have:=d.2 hnd;omega
    have B:=J hnd
    clear d hnd
    go_wp2_with (refine zg rfl (jb rfl rfl (LR.o _)) ?_)
    go_ret2
    refine⟨M,by rw[if_pos B.o,N];rfl,by rw[N];exact r.o,by rw[N];exact HB.o,T.o,λ_ k v=>⟨j.o k v,λh=>?_⟩⟩
    obtain⟨v',Q⟩:=t.o _ h
    have h':=j.o _ _ Q
    have:∀ {L:List zr},(L.map (·.at_)).Nodup→∀a∈L,∀b∈L,a.at_=b.at_→a=b:=by
     intro L
     induction L with
     |nil=>intro _ a ha;cases ha
     |cons x L ih=>
      intro hn a ha b m e
      obtain⟨n1,n2⟩:=nodup_cons.1 hn
      rcases mem_cons.1 ha with rfl|ha'<;>rcases mem_cons.1 m with rfl|hb'
      ·rfl
      ·exact absurd (mem_map.2 ⟨b,hb',e.symm⟩) n1
      ·exact absurd (mem_map.2 ⟨a,ha',e⟩) n1
      ·exact ih n2 a ha' b hb' e
    have:=this B.o _ h' _ h rfl
    injection this with _ e
    rw[←e]
    exact Q
   ·have j1:¬(M.length:Int)=(l.length:Int):=λe=>hnd (d.1 (by omega))
    have B:=J hnd
    clear d hnd
    go_wp2_with (refine zg rfl (jb rfl rfl (LR.o _)) ?_)
    go_ret2
    exact⟨M,by rw[if_neg B.o];rfl,by rw[N];exact r.o,by rw[N];exact HB.o,T.o,λh=>absurd h B.o⟩
end
theorem yu:(zJ y6).toArray.size=33:=by rw[List.size_toArray,yr Zm]
theorem zl0 (w0 w:World) (f:Fr No w0 w) {v:Value} {l:List zr} (b:q9 w v l) (d:l.length≤100000) (a:(l.map (·.at_)).Nodup):
  Calls prog 69 #[v] w λe w'=>∃p,e=.returned (.tuple #[.pointer (some ⟨p,0,none⟩),.int .i64 0])∧∃V,CS w0 w' p V (jR [] l)∧Fr No w w'∧(∀k,V k→w.heap.size≤k):=by
 refine(zg0 w b d).mono ?_
 rintro e w' ⟨M,rfl,m,g,fr,n⟩
 refine⟨w.heap.size+1,by rw[if_pos a],λj=>j=w.heap.size+1∨j=w.heap.size,⟨⟨_,M,g,m,λk v=>?_,by omega,rfl⟩,J0 List.Pairwise.nil a (λ_ _=>rfl),λc i=>?_,?_,f.trans0 fr⟩,fr,?_⟩
 ·rw[n a,qL];simp
 ·rcases qL.1 i with h|h
  ·cases h
  ·exact b.1 c h
 ·have:=f.size;rintro j (rfl|rfl)<;>omega
 ·rintro j (rfl|rfl)<;>omega
theorem zh2 (w:World) {v:Value} {l:List zr} (c:q9 w v l) (b:l.length≤100000) (a:¬(l.map (·.at_)).Nodup):
  Calls prog 69 #[v] w λe w'=>e=.returned (.tuple #[.pointer none,.int .i64 12])∧Fr No w w':=by
 refine(zg0 w c b).mono ?_
 rintro e w' ⟨M,rfl,-,-,fr,-⟩
 exact⟨by rw[if_neg a],fr⟩
theorem zjs {S:List zr} (h:qV S) {q:zF} {v:yE}:Y2 S q=some v↔(⟨q,v⟩:zr)∈S:=by
 constructor
 ·intro e
  cases hh:xK S q with
  |false=>rw[zfY hh] at e;cases e
  |true=>
   obtain⟨c,a,rfl⟩:=JW.1 hh
   rw[YM h a] at e
   injection e with e
   rw[←e]
   exact a
 ·intro b
  exact YM (c:=⟨q,v⟩) h b
def yg (S:List zr) (q:zF):yE:=(Y2 S q).getD y6
theorem vH {S:List zr} (ok:∀c∈S,c.ok) (q:zF):(yg S q).ok:=by
 unfold yg Y2
 cases e:S.find? λc=>decide (c.at_=q) with
 |none=>exact Zm
 |some c=>exact(ok c (List.mem_of_find?_eq_some e)).2
section
variable {w0 w:World} {p:Nat} {V:Nat→Prop} {S:List zr}
theorem zdG {m:Nat} {M:List (zF×yE)} (d:∀k v,(k,v)∈M↔(⟨k,v⟩:zr)∈S) (a:qV S) {q:zF} (c:q.ok) (b:j9 w m M):
  (Instr.lookup 233 (.map (some m)) (j8 q) true).run prog w=.ok (.tuple #[.agg (zJ (yg S q)).toArray,.bool (xK S q)]) w:=by
 have h:=b.look Jf.keyed ZS (λ_ _=>vr) zlP (xP c) true (r:=Y2 S q) (λv=>by rw[d,zjs a])
 rw[h,zdB]
 have:((Y2 S q).map zcp).getD (zcp y6)=zcp (yg S q):=by
  unfold yg
  cases Y2 S q<;>rfl
 simp only[if_true,this]
 rfl
theorem zf0 (h:CS w0 w p V S) {q:zF} (v:q.ok):Calls prog 157 #[.pointer (some ⟨p,0,none⟩),.agg (zn q).toArray] w λe w'=>e=.returned (.tuple #[.agg (zJ (yg S q)).toArray,.bool (xK S q)])∧Fr No w w':=by
 obtain⟨G,F,E⟩:=Z0
 obtain⟨m,M,s,u,x,r,rfl⟩:=h.ex
 have c:=J (λw' (h':j9 w' m M)=>zdG (w:=w') x h.srt v h')
 have o:=J (vH h.ok q)
 have d:=J (yr o.o)
 have A:=J (zY v)
 have N:=xm
 have l:Fr No w ((w.alloc (.cells (zn q).toArray 95)).alloc (.cells (zJ y6).toArray 103)):=((frN w).alloc _).alloc _
 have k:=(zaR (l.obj s id)).1
 have j:=J (za (zy w (zn q) 95) ((frN _).alloc (.cells (zJ y6).toArray 103)) id)
 have g:=J (u.keep l id)
 have f:=J (yL (w.alloc (.cells (zn q).toArray 95)) (.cells (zJ y6).toArray 103) (n:=w.heap.size+1) (by simp))
 have y:=J l
 generalize xK S q=C at*
 generalize yg S q=X at*
 clear h s u x r l
 go_enter Tryz.func157,Tryz.ntmps157
 go_wp2_with fail
 generalize D:w.heap.size=n at*
 generalize (w.alloc (.cells (zn q).toArray 95)).alloc (.cells (zJ y6).toArray 103)=a at*
 refine wrLx [ff,ff,ff,ff,ff,ff,ff,ff,ff,tt,tt,ff] (λw'=>w'.cell? ⟨p,0,none⟩=some (.map (some m))∧w'.rangeAt n 0 (zn q)∧j9 w' m M) ?_ (λK hK=>?_)
 ·exact⟨k,za j.o (frN _).drew id,g.o.keep (frN _).drew id⟩
 repeat((first|(refine zj rfl ?_;constructor;constructor;(focus(first|exact zn6 rfl (λw h=>h.2.1) A.o|exact λw' h=>zQ (t:=233) rfl rfl rfl (c.o w' h.2.2)|(rintro w' ⟨H,I,L⟩;go_simp;(try with_reducible rfl);done))))|(refine zl rfl ?_));try simp only[Act.put,pA,pB,pC])
 (refine zE rfl (λK' hK'=>?_))
 refine yj (yA rfl (xm _)) ?_
 refine nXt hK' ?_ λhS=>?_
 ·exact⟨(((frN a).drew).alloc _).cell k id,za j.o (((frN a).drew).alloc _) id,g.o.keep (((frN a).drew).alloc _) id⟩
 try simp only[Act.put,pA,pB,pC]
 (refine zE rfl (λK' hK'=>?_))
 refine yN (zm (w:=a.drew) (ty:=103) (cs:=zJ X) rfl rfl rfl (by rw[d.o];rfl) (by rw[d.o];exact yz) yc) ?_
 refine nXt hK' ?_ λhS=>?_
 ·exact⟨(((frN a).drew).alloc _).cell k id,za j.o (((frN a).drew).alloc _) id,g.o.keep (((frN a).drew).alloc _) id⟩
 try simp only[Act.put]
 repeat((first|(refine zj rfl ?_;constructor;constructor;(focus(first|(rintro w' -;go_simp;(try with_reducible rfl);done))))|(refine zl rfl ?_));try simp only[Act.put,pA,pB,pC])
 refine zL (hK.out _ _ ?_)
 have B:=@J ((a.alloc (.cells (zJ X).toArray 103)).drew.rangeAt a.heap.size 0 (zJ X)) (zy a (zJ X) 103)
 have b:=J (((frN a).alloc (.cells (zJ X).toArray 103)).drew.obj f.o id)
 have z:=J ((y.o.alloc (.cells (zJ X).toArray 103)).drew)
 clear k j g c f
 go_wp2_with (first|(refine zn2 rfl rfl rfl B.o d.o ?_)|(refine zi rfl (zK (ty:=103) rfl rfl rfl (by rw[d.o];exact zV b.o (Nat.le_of_eq yu.symm)) (by rw[d.o];exact yz) yc) ?_))
 refine bodyPost_ret (yk (P:=prog) (fn:=Tryz.f157) rfl _ rfl (yv b.o (by rw[d.o];exact yu)) F E (by rw[d.o];exact yz) rfl) rfl ⟨rfl,?_⟩
 exact z.o.trans (zu _ _ _ _) (λi hi e=>by omega)
end
end Go.Proofs.YtdkkjchclkjleaaGreatDoor
namespace Go
open Go.MapKept Go.RowKit Go.Maps
section
variable {P:Program} {kt et t:TypeId} {w:World} {r b:Nat} {κ ι:Type} {kV:κ→Value} {vV:ι→Value} {M R:List (κ×ι)}
def j5 (P:Program) (kt:TypeId) (kV:κ→Value) (vV:ι→Value) (w:World) (r b:Nat) (M R:List (κ×ι)):Prop:=
 j4 P kt w r b (M.map λx=>(kV x.1,vV x.2)) (R.map λx=>(kV x.1,vV x.2))
theorem j5.map (h:j5 P kt kV vV w r b M R):yD P kt kV vV w b M:=j4.map h
theorem j5.keep {w':World} {W:Nat→Prop} (h:j5 P kt kV vV w r b M R) (f:Fr W w w') (a:¬W b) (c:¬W r):j5 P kt kV vV w' r b M R:=j4.keep h f a c
theorem yD.rangeI (c:P.underlying t=some (.map kt et)) (h:yD P kt kV vV w b M):
  ∃a,(Instr.range t (.map (some b))).run P w=.ok (.pointer (some ⟨w.heap.size,0,none⟩)) (w.alloc (.mapIter (some b) a #[] a))∧j5 P kt kV vV (w.alloc (.mapIter (some b) a #[] a)) w.heap.size b M M:=xt.range c h
theorem j5.stop (h:j5 P kt kV vV w r b M []) (ty:TypeId):(Instr.next (.pointer (some ⟨r,0,none⟩)) false ty).run P w=.ok (.tuple #[.bool false]) w:=j4.nextNone h ty
theorem j5.step (h:j5 P kt kV vV w r b M R) (f:R≠[]) (ty:TypeId):
  ∃A x B w',R=A++x::B∧(Instr.next (.pointer (some ⟨r,0,none⟩)) false ty).run P w=.ok (.tuple #[.bool true,kV x.1,vV x.2]) w'∧j5 P kt kV vV w' r b M (A++B)∧Fr (· =r) w w'∧
   (Instr.entry (.pointer (some ⟨r,0,none⟩))).run P w'=.ok (.tuple #[kV x.1,vV x.2]) w':=by
 obtain⟨m,p,n,i,l,g,e,j,c⟩:=j4.nextSome h (by simpa using f) ty
 obtain⟨A,B,d,k,a⟩:=List.map_eq_append_iff.1 l
 cases B with
 |nil=>simp at a
 |cons x B=>
  simp only[List.map_cons,List.cons.injEq] at a
  obtain⟨rfl,a⟩:=a
  subst k
  subst a
  exact⟨A,x,B,i,d,g,by unfold j5;rw[List.map_append];exact e,j,c i rfl rfl⟩
end
end Go
