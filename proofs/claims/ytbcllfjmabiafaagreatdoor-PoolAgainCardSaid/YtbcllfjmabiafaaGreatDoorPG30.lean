/- PoolAgain: the walk. -/
import Derived.Test.YtbcllfjmabiafaaGreatDoorPG26
set_option linter.unusedVariables false
set_option linter.unusedSimpArgs false
set_option linter.unnecessarySimpa false
set_option linter.all false
set_option maxRecDepth 20000
set_option maxHeartbeats 16000000
namespace Go.Proofs.YtbcllfjmabiafaaGreatDoor
open Go Go.RowKit Go.Maps Go.MapKept
open Go.Proofs.Tryz(prog)
theorem zhJ {w:World} (hg:vp w) {fv lv:Value} {first:List yC} {l:List vm} (hl:xg w fv first) (D:vK w lv l) {now:Nat} (hn:now<18446744073709551616):
  Calls prog 5 #[fv,lv,.int .u64 now] w λe w'=>e=.returned (.bool true)∧Fr No w w':=by
 have zw:=jZ
 have zT:=show ∀w,(zeroValue 27).run prog w=.ok (.agg zcG.toArray) w from Zp
 have zh:=yJ
 obtain⟨fa,fc,rfl⟩:=hl.2.form
 obtain⟨la,lc,rfl⟩:=D.form
 have HG:=Hd hg
 have HL:=Hd hl
 have HX:=Hd D
 have I:=Hd (vT hg)
 clear hg hl D
 have HN:=Hd hn
 clear hn
 by_cases hF:first.length≤256
 ·have j1:decide ((256:Int)<(first.length:Int))=false:=by simp;omega
  go_enter Tryz.func5,Tryz.ntmps5
  have⟨K,L⟩:=tZ2
  go_wp2_with ((first|(clear K;go_at_call 11;refine I.o.mono ?_;rintro e w1 ⟨rfl,S⟩;have s:=Hd S;clear S)|(clear L;go_at_call 12;refine(xC w1 (HL.o.keep s.o) (HX.o.keep0 s.o)).mono ?_;rintro e w2 ⟨⟨g,rfl,z,hz⟩,V⟩;have GZ:=Hd hz;have B:=Hd (s.o.trans0 V);clear hz V;rcases z with rfl|rfl));go_frame)
  ·have H:=Hd (GZ.o (by first|trivial|rfl))
   clear GZ
   have⟨K,L,K2,K3,K4,K5,K6,K7,K8,K9⟩:=tZ10
   go_wp2_with ((first|(clear K;go_at_call 14;refine(JS B.o (HL.o.keep B.o) hF).mono ?_;rintro e w3 ⟨pc,pp,T,rfl,Y,ah,f3⟩;have W3:=Hd (Y T (λ_ h=>h) (λ_ h=>.inl h));have N:=@Hd (∀j,T j→w.heap.size≤j) (λj q=>(W3.o.facts.1 j q).1);clear Y ah f3)|(clear L;go_at_call 15;refine(YU HG.o (W3.o.more (by decide)) N.o rfl HX.o H.o.2.1 H.o.2.2).mono ?_;rintro e w4 ⟨rfl,T4,X4,A,n4,ag,ai⟩;have k:=Hd (FlB.begun n4 N.o W3.o.facts.2.2.1.size);have NW:=n4.ws;obtain⟨C,p⟩:∃C,yz A.L 40=C:=⟨_,rfl⟩;have r:=@Hd ((C.map (·.tx)).length≤1000) (by rw[List.length_map,←p];exact Nat.le_trans (ZF _ _) (by decide));have ad:=@Hd (∀t∈C.map (·.tx),t.ins.length≤1000∧t.outs.length≤1000) (λt ht=>by obtain⟨x,D,rfl⟩:=List.mem_map.1 ht;rw[←p] at D;have:=NW.small x (Ju NW.facts.2.2.2.1.gok _ x D);exact⟨this.1,this.2.1⟩);have u:=Hd p;clear n4 ag ai NW p)|(clear K3;go_at_call 16;refine(vJ k.o.1 (by decide)).mono ?_;rintro e w6 ⟨v6,rfl,f⟩;have o:=Hd (k.o.fr0 f.2);have O:=Hd (qg.new k.o.1 f);obtain⟨ra,rc,aj⟩:=f.1.slice.arg.form;subst aj;have p6:=o.o.cells.2;clear f p5)|(clear K4;go_at_call 21;refine(zaD (n:=40) o.o.1 (by decide) (by decide)).mono ?_;rintro e w7 ⟨v7,css,rfl,E,f7⟩;have a:=Hd (o.o.fr0 f7);have P:=Hd (O.o.fr0 f7);have B7:=@Hd (TxR T4 w7 v7 (C.map (·.tx))) (by have:=TxR.new o.o.1 E;rw[u.o] at this;exact this);obtain⟨ba,bc,X⟩:=E.form;rw[u.o,List.length_map] at X;subst X;have p7:=a.o.cells.2;have af:=a.o.cells.1;clear E f7 p6 css)|(clear K5;go_at_call 25;refine(Qx HG.o a.o.1.pm (by decide) (fv:=.slice none 0 0) (first:=[]) (λw' _=>qG.nil) (by decide) HN.o).mono ?_;rintro e w8 ⟨v8,rfl,f,N',T8,X8,W,n8⟩;rw[ziF a.o.1.facts.2.2.2.1 a.o.1.facts.2.2.2.2.1] at f;have N8:=@Hd (xO w w7 w8 pc pp T4 X4 N' A T8 X8) (by have:=n8;rw[zfw a.o.1.facts.2.2.2.1 a.o.1.facts.2.2.2.2.1] at this;exact this);obtain⟨ga,gc,rfl⟩:=jX (m:=0) f rfl;have i:=Hd (a.o.next N8.o);have Q:=Hd (P.o.next N8.o);have B8:=Hd (B7.o.next (λj q=>(a.o.1.facts.1 j q).2.1) N8.o);have NL:=@Hd (N'≤32) (by have:=a.o.1.facts.2.2.2.2.1;simp only[List.length_nil] at W;omega);have p8:=i.o.cells.2;clear n8 f W p7 af N8)|(clear K6;go_at_call 16;refine(vJ i.o.1 (by have:=NL.o;omega)).mono ?_;rintro e w9 ⟨v9,rfl,f⟩;have d:=Hd (i.o.fr0 f.2);have M:=Hd (qg.new i.o.1 f);have R:=Hd (Q.o.fr0 f.2);have B9:=Hd (B8.o.fr0 (λj q=>(i.o.1.facts.1 j q).2.1) f.2);have p9:=d.o.cells.2;clear f p8)|(clear K7;go_at_call 18;refine(jS w9 (qg.ids M.o d.o.1.pids) (qg.ids R.o d.o.1.pids) (by rw[xd];have:=d.o.1.facts.2.2.2.2.1;omega) (by rw[xd];have:=d.o.1.facts.2.2.2.2.1;omega)).mono ?_;rintro e an ⟨b,rfl,hb,v⟩;obtain rfl:b=true:=hb.2 rfl;have c:=Hd (d.o.fr0 v);have aa:=Hd (B9.o.fr0 (λj q=>(d.o.1.facts.1 j q).2.1) v);have ak:=c.o.cells.2;clear hb v p9)|(clear K8;go_at_call 21;refine(zaD (n:=40) c.o.1 (by have:=NL.o;omega) (by decide)).mono ?_;rintro e Z ⟨al,css,rfl,E,y⟩;have F:=Hd (c.o.fr0 y);have ab:=Hd (aa.o.fr0 (λj q=>(c.o.1.facts.1 j q).2.1) y);have ae:=@Hd (TxR T8 Z al (C.map (·.tx))) (by have:=TxR.new c.o.1 E;rw[u.o] at this;exact this);clear E y ak css)|(clear K9;go_at_call 27;refine(ziM Z (ae.o.txs r.o) (ab.o.txs r.o) r.o ad.o).mono ?_;rintro e ao ⟨rfl,U⟩;have G:=Hd (F.o.fr0 U);clear U)|((with_reducible refine zr ?_);clear K2;refine zi rfl (zj (w:=w4) (ty:=34) (cs:=xM pc pp) rfl rfl rfl rfl qR (XV rfl rfl)) ?_;generalize w4.heap.size=c7 at*;generalize w4.alloc (.cells (xM pc pp).toArray 34)=w5 at*;have p5:=k.o.cells.2));go_frame)
   go_ret
   exact⟨rfl,G.o.fr⟩
  ·go_ret
   exact⟨rfl,B.o⟩
 ·have j1:decide ((256:Int)<(first.length:Int))=true:=by simp;omega
  go_enter Tryz.func5,Tryz.ntmps5
  have⟨K,L⟩:=tZ2
  go_wp2_with ((first|(clear K;go_at_call 11;refine I.o.mono ?_;rintro e w1 ⟨rfl,S⟩;have s:=Hd S;clear S)|(clear L;go_at_call 12;refine(xC w1 (HL.o.keep s.o) (HX.o.keep0 s.o)).mono ?_;rintro e w2 ⟨⟨g,rfl,z,hz⟩,V⟩;have B:=Hd (s.o.trans0 V);clear hz V;rcases z with rfl|rfl));go_frame)
  ·go_ret
   exact⟨rfl,B.o⟩
  ·go_ret
   exact⟨rfl,B.o⟩
end Go.Proofs.YtbcllfjmabiafaaGreatDoor
