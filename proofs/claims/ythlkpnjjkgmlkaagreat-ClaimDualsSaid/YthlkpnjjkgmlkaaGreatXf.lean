/- Contracts: quiet, light. No condition. -/
import Derived.Test.YthlkpnjjkgmlkaaGreatXe
namespace Go.Proofs.YthlkpnjjkgmlkaaGreat
set_option maxHeartbeats 16000000
set_option linter.unusedSimpArgs false
set_option linter.unusedVariables false
set_option maxRecDepth 20000
open Go Go.Proofs Go.Vc
attribute [local irreducible] x'v VCg VCw VCx
theorem ZaR {α:Type} {l:List α} {p:α→Bool} (h: ∀(i:Nat) (x:α),i<l.length→l[i]?=some x→p x=true):l.all p=true:=by
 rw[z'q]
 intro x hx
 obtain⟨i,hi⟩:=y'k hx
 exact h i x (z'b.1 hi).1 hi
theorem v'k {α:Type} {l:List α} {p:α→Bool} {i:Nat} {x:α} (h:l[i]?=some x) (hp:p x=false):l.all p=false:=by
 rw[v'i]
 exact⟨x,z'l h,by simp[hp]⟩
theorem Zah {α:Type} {l:List α} {p:α→Bool} {k:Nat} {x:α} (hs: ∀(i:Nat) (y:α),i<k→l[i]?=some y→p y=true) (hx:l[k]?=some x) (hp:p x=true): ∀(i:Nat) (y:α),i<k+1→l[i]?=some y→p y=true:=fun i y hi hy=>by
 rcases z'i i k with h|h
 ·exact hs i y h hy
 ·obtain rfl:i=k:=by omega
  rw[hx]at hy;cases hy;exact hp
def Zb8 (c:Cf):Bool:=c.bufs.all fun b=>decide (b.length=0)
theorem ZpW (c:Cf) (hn:c.bufs.length≤1000000):Pure Tryz.prog 86 [.agg (cfC c)] (bD (Zb8 c)):=by
 refine Fun.of T [.tmp 2] Tryz.func86 rfl Tryz.ntmps86 Tryz.results86 rfl (by kernel_rfl) ?_
 repeat' first|refine vb rfl rfl rfl rfl ?_|refine mq0 ?_|fail
 refine VC.loop {k:Nat//k≤c.bufs.length∧ ∀(i:Nat) (y:List En),i<k→c.bufs[i]?=some y→decide (y.length=0)=true} (fun p=>⟨z'T [(1,.pt (cfC c)),(3,iD (p.1:Nat))],[]⟩) (fun p=>c.bufs.length-p.1) ⟨0,by omega,fun i y hi=>by omega⟩ ?_ ?_
 ·refine Weak.sub ?_
  simp[sub,upd]
 ·rintro⟨k,hk,hs⟩
  dsimp only
  rcases z'i k c.bufs.length with hlt|hge
  ·have hd:decide ((k:Int)<(c.bufs.length:Int))=true:=by simp;omega
   have hw:IntKind.i64.wrap ((k:Int)+1)=((k+1:Nat):Int):=by rw[w64 (by omega)];omega
   obtain⟨b,hb⟩: ∃b,c.bufs[k]?=some b:=⟨_,z'c hlt⟩
   have rb:(w'o c.bufs)[k]?=some [buf b]:=by rw[x'P,hb];rfl
   by_cases h0:b.length=0
   ·have e0:decide ((b.length:Int)>0)=false:=by rw[h0];rfl
    repeat' first|refine mq1 (x'V @hd @hw @rb @e0 @y'm @z'R) ?_|refine .wk ?_ ?_;focus(try omega)|fail
    refine⟨⟨k+1,by omega,Zah hs hb (by simpa using h0)⟩,Weak.sub ?_,by simp only[];omega⟩
    simp[sub,upd]
   ·have e0:decide ((b.length:Int)>0)=true:=by simp;omega
    have hr:Zb8 c=false:=v'k hb (by simpa using h0)
    rw[hr]
    repeat' first|refine mq1 (y'Z @hd @rb @e0 @y'm @z'R) ?_|refine .wk ?_ ?_;focus(try omega)|exact z'p T (z'a _) ⟨rfl,rfl⟩|fail
  ·have hd:decide ((k:Int)<(c.bufs.length:Int))=false:=by simp;omega
   have hr:Zb8 c=true:=ZaR fun i x hi hx=>hs i x (by omega) hx
   rw[hr]
   repeat' first|refine mq1 (z'X @hd @y'm) ?_|exact z'p T (z'a _) ⟨rfl,rfl⟩|fail
def ZeN (x:Ins):Bool:=decide (x.e.length≤300)&&decide (x.f.length≤300)
def Za0 (r:List Ins):Bool:=decide (r.length≤200)&&r.all ZeN
def v'G (u:Un):Bool:=(decide (u.init.length≤20)&&decide (u.regs.length≤20)&&decide (u.code.length≤8))&&u.code.all Za0
theorem Zp8 (u:Un):Pure Tryz.prog 47 [.agg (unC u)] (bD (v'G u)):=by
 refine Fun.of T [.tmp 2] Tryz.func47 rfl Tryz.ntmps47 Tryz.results47 rfl (by kernel_rfl) ?_
 by_cases g1:u.init.length≤20
 case neg=>
  have e1:decide ((u.init.length:Int)>20)=true:=by simp;omega
  have hL:v'G u=false:=by simp[v'G,g1]
  rw[hL]
  repeat' first|refine vb rfl rfl rfl rfl ?_|refine mq1 (z'X @e1 @z'o) ?_|exact z'p T (z'a _) ⟨rfl,rfl⟩|fail
 have e1:decide ((u.init.length:Int)>20)=false:=by simp;omega
 by_cases g2:u.regs.length≤20
 case neg=>
  have e2:decide ((u.regs.length:Int)>20)=true:=by simp;omega
  have hL:v'G u=false:=by simp[v'G,g2]
  rw[hL]
  repeat' first|refine vb rfl rfl rfl rfl ?_|refine mq1 (x'i @e1 @e2 @z'o) ?_|exact z'p T (z'a _) ⟨rfl,rfl⟩|fail
 have e2:decide ((u.regs.length:Int)>20)=false:=by simp;omega
 by_cases g3:u.code.length≤8
 case neg=>
  have e3:decide ((u.code.length:Int)>8)=true:=by simp;omega
  have hL:v'G u=false:=by simp[v'G,g3]
  rw[hL]
  repeat' first|refine vb rfl rfl rfl rfl ?_|refine mq1 (y'Z @e1 @e2 @e3 @z'o @z'V) ?_|exact z'p T (z'a _) ⟨rfl,rfl⟩|fail
 have e3:decide ((u.code.length:Int)>8)=false:=by simp;omega
 have hU:v'G u=u.code.all Za0:=by simp[v'G,g1,g2,g3]
 rw[hU]
 repeat' first|refine vb rfl rfl rfl rfl ?_|refine mq1 (y'Z @e1 @e2 @e3 @z'o @z'V) ?_|fail
 refine VC.loop {k:Nat//k≤u.code.length∧ ∀(i:Nat) (y:List Ins),i<k→u.code[i]?=some y→Za0 y=true} (fun p=>⟨z'T [(1,.pt (unC u)),(3,iD (p.1:Nat))],[]⟩) (fun p=>u.code.length-p.1) ⟨0,by omega,fun i y hi=>by omega⟩ ?_ ?_
 ·refine Weak.sub ?_
  simp[sub,upd]
 ·rintro⟨k,hk,hs⟩
  dsimp only
  rcases z'i k u.code.length with hlt|hge
  ·have hd:decide ((k:Int)<(u.code.length:Int))=true:=by simp;omega
   have hw:IntKind.i64.wrap ((k:Int)+1)=((k+1:Nat):Int):=by rw[w64 (by omega)];omega
   obtain⟨r,hr⟩: ∃r,u.code[k]?=some r:=⟨_,z'c hlt⟩
   have rr:(w'A u.code)[k]?=some [.sl false 7 (y'I r)]:=by rw[x'6,hr];rfl
   by_cases h0:r.length≤200
   case neg=>
    have e0:decide ((r.length:Int)>200)=true:=by simp;omega
    rw[v'k hr (by simp[Za0,h0])]
    repeat' first|refine mq1 (y'Z @hd @rr @e0 @z'V @z'4) ?_|refine .wk ?_ ?_;focus(try omega)|exact z'p T (z'a _) ⟨rfl,rfl⟩|fail
   have e0:decide ((r.length:Int)>200)=false:=by simp;omega
   repeat' first|refine mq1 (y'Z @hd @rr @e0 @z'V @z'4) ?_|refine .wk ?_ ?_;focus(try omega)|fail
   refine VC.loop {j:Nat//j≤r.length∧ ∀(i:Nat) (y:Ins),i<j→r[i]?=some y→ZeN y=true} (fun p=>⟨z'T [(1,.pt (unC u)),(3,iD (k:Nat)),(4,iD (p.1:Nat))],[]⟩) (fun p=>r.length-p.1) ⟨0,by omega,fun i y hi=>by omega⟩ ?_ ?_
   ·refine Weak.sub ?_
    simp[sub,upd]
   ·rintro⟨j,hj,hsj⟩
    dsimp only
    rcases z'i j r.length with hjl|hjg
    ·have hdj:decide ((j:Int)<(r.length:Int))=true:=by simp;omega
     have hwj:IntKind.i64.wrap ((j:Int)+1)=((j+1:Nat):Int):=by rw[w64 (by omega)];omega
     obtain⟨x,hx⟩: ∃x,r[j]?=some x:=⟨_,z'c hjl⟩
     have rx:(y'I r)[j]?=some [iD x.op,iD x.reg,iD x.loc,z'S x.e,z'S x.f,bD x.ne,iD x.to]:=by rw[w'e,hx];rfl
     by_cases p1:x.e.length≤300
     ·have q1:decide ((x.e.length:Int)>300)=false:=by simp;omega
      by_cases p2:x.f.length≤300
      ·have q2:decide ((x.f.length:Int)>300)=false:=by simp;omega
       repeat' first|refine mq1 (v'1 @hdj @hwj @rr @rx @q1 @q2 @z'V @z'4 @z'C) ?_|refine .wk ?_ ?_;focus(try omega)|fail
       refine⟨⟨j+1,by omega,Zah hsj hx (by simp[ZeN,p1,p2])⟩,Weak.sub ?_,by simp only[];omega⟩
       simp[sub,upd]
      ·have q2:decide ((x.f.length:Int)>300)=true:=by simp;omega
       have hb:Za0 r=false:=by
        unfold Za0
        rw[v'k hx (by simp[ZeN,p2]),w'G]
       rw[v'k hr hb]
       repeat' first|refine mq1 (Za1 @hdj @rr @rx @q1 @q2 @z'V @z'4 @z'C) ?_|refine .wk ?_ ?_;focus(try omega)|exact z'p T (z'a _) ⟨rfl,rfl⟩|fail
     ·have q1:decide ((x.e.length:Int)>300)=true:=by simp;omega
      have hb:Za0 r=false:=by
       unfold Za0
       rw[v'k hx (by simp[ZeN,p1]),w'G]
      rw[v'k hr hb]
      repeat' first|refine mq1 (v'p @hdj @rr @rx @q1 @z'V @z'4 @z'C) ?_|refine .wk ?_ ?_;focus(try omega)|exact z'p T (z'a _) ⟨rfl,rfl⟩|fail
    ·have hdj:decide ((j:Int)<(r.length:Int))=false:=by simp;omega
     have hb:Za0 r=true:=by
      unfold Za0
      rw[ZaR fun i y hi hy=>hsj i y (by omega) hy]
      simpa using h0
     repeat' first|refine mq1 (y'Z @hdj @hw @rr @z'V @z'4) ?_|refine .wk ?_ ?_;focus(try omega)|fail
     refine⟨⟨k+1,by omega,Zah hs hr hb⟩,Weak.sub ?_,by simp only[];omega⟩
     simp[sub,upd]
  ·have hd:decide ((k:Int)<(u.code.length:Int))=false:=by simp;omega
   rw[ZaR fun i y hi hy=>hs i y (by omega) hy]
   repeat' first|refine mq1 (z'X @hd @z'V) ?_|exact z'p T (z'a _) ⟨rfl,rfl⟩|fail
theorem Zqv (u:Un) (c:Cf) (t:Int):Pure Tryz.prog 132 [.agg (unC u),.agg (cfC c),iD t] (bD (x'I u c t)):=by
 refine Fun.of T [.tmp 6] Tryz.func132 rfl Tryz.ntmps132 Tryz.results132 rfl (by kernel_rfl) ?_
 by_cases h1:t<0
 ·have e1:decide (t<0)=true:=by simpa using h1
  rw[show x'I u c t=false by simp[x'I,y'b.2 h1]]
  repeat' first|refine vb rfl rfl rfl rfl ?_|refine mq1 @e1 ?_|exact z'p T (z'a _) ⟨rfl,rfl⟩|fail
 have e1:decide (t<0)=false:=by simpa using h1
 obtain⟨i,rfl⟩: ∃i:Nat,t=(i:Int):=⟨t.toNat,by omega⟩
 by_cases h2:(i:Int)≥(u.code.length:Int)
 ·have e2:decide ((i:Int)≥(u.code.length:Int))=true:=by simpa using h2
  have hn:u.code[i]?=none:=z'M (by omega)
  rw[show x'I u c i=false by simp[x'I,hn]]
  repeat' first|refine vb rfl rfl rfl rfl ?_|refine mq1 (x'i @e1 @e2 @z'V) ?_|exact z'p T (z'a _) ⟨rfl,rfl⟩|fail
 have e2:decide ((i:Int)≥(u.code.length:Int))=false:=by simpa using h2
 by_cases h3:(i:Int)≥(c.pc.length:Int)
 ·have e3:decide ((i:Int)≥(c.pc.length:Int))=true:=by simpa using h3
  have hn:c.pc[i]?=none:=z'M (by omega)
  rw[show x'I u c i=false by simp[x'I,hn]]
  repeat' first|refine vb rfl rfl rfl rfl ?_|refine mq1 (y'Z @e1 @e2 @e3 @z'V @z'o) ?_|exact z'p T (z'a _) ⟨rfl,rfl⟩|fail
 have e3:decide ((i:Int)≥(c.pc.length:Int))=false:=by simpa using h3
 obtain⟨r,hr⟩: ∃r,u.code[i]?=some r:=⟨_,z'c (by omega)⟩
 obtain⟨p,hp⟩: ∃p,c.pc[i]?=some p:=⟨_,z'c (by omega)⟩
 have rr:(w'A u.code)[i]?=some [.sl false 7 (y'I r)]:=by rw[x'6,hr];rfl
 have rp:(iRs c.pc)[i]?=some [iD p]:=by rw[x'q,hp];rfl
 have l1:i<u.code.length:=by omega
 have l2:i<c.pc.length:=by omega
 by_cases h4:p<0
 ·have e4:decide (p≥0)=false:=by simp;omega
  rw[show x'I u c i=false by simp[x'I,hr,hp,y'b.2 h4]]
  repeat' first|refine vb rfl rfl rfl rfl ?_|refine mq1 (v'p @e1 @e2 @e3 @e4 @rp @z'V @z'o) ?_|refine .wk ?_ ?_;focus(try omega)|exact z'p T (z'a _) ⟨rfl,rfl⟩|fail
 have e4:decide (p≥0)=true:=by simp;omega
 obtain⟨q,rfl⟩: ∃q:Nat,p=(q:Int):=⟨p.toNat,by omega⟩
 by_cases h5:(q:Int)<(r.length:Int)
 case neg=>
  have e5:decide ((q:Int)<(r.length:Int))=false:=by simpa using h5
  have hn:r[q]?=none:=z'M (by omega)
  rw[show x'I u c i=false by simp[x'I,hr,hp,hn]]
  repeat' first|refine vb rfl rfl rfl rfl ?_|refine mq1 (Zaa @e1 @e2 @e3 @e4 @e5 @rr @rp @z'V @z'o @z'4) ?_|refine .wk ?_ ?_;focus(try omega)|exact z'p T (z'a _) ⟨rfl,rfl⟩|fail
 have e5:decide ((q:Int)<(r.length:Int))=true:=by simpa using h5
 obtain⟨x,hx⟩: ∃x,r[q]?=some x:=⟨_,z'c (by omega)⟩
 have rx:(y'I r)[q]?=some [iD x.op,iD x.reg,iD x.loc,z'S x.e,z'S x.f,bD x.ne,iD x.to]:=by rw[w'e,hx];rfl
 have l3:q<r.length:=by omega
 rw[show x'I u c i=(x.op == 22) by simp[x'I,hr,hp,hx]]
 repeat' first|refine vb rfl rfl rfl rfl ?_|refine mq1 (Zdc @e1 @e2 @e3 @e4 @e5 @rr @rp @rx @z'V @z'o @z'4) ?_|refine .wk ?_ ?_;focus(try omega)|exact z'p T (z'a _) ⟨rfl,rfl⟩|fail
theorem Zro (c:Cf) (hn:c.bufs.length≤1000000):Pure Tryz.prog 133 [.agg (cfC c)] (bD (Zb8 c)):=by
 refine Fun.of T [.tmp 2] Tryz.func133 rfl Tryz.ntmps133 Tryz.results133 rfl (by kernel_rfl) ?_
 repeat' first|refine vb rfl rfl rfl rfl ?_|refine mq1 @y'm ?_|fail
 refine VC.loop {k:Nat//k≤c.bufs.length∧ ∀(i:Nat) (y:List En),i<k→c.bufs[i]?=some y→decide (y.length=0)=true} (fun p=>⟨z'T [(1,.pt (cfC c)),(6,.sl false 1 (w'o c.bufs)),(7,iD (c.bufs.length:Nat)),(8,iD (p.1:Nat))],[]⟩) (fun p=>c.bufs.length-p.1) ⟨0,by omega,fun i y hi=>by omega⟩ ?_ ?_
 ·refine Weak.sub ?_
  simp[sub,upd]
 ·rintro⟨k,hk,hs⟩
  dsimp only
  rcases z'i k c.bufs.length with hlt|hge
  ·have hd:decide ((k:Int)<(c.bufs.length:Int))=true:=by simp;omega
   have hw:IntKind.i64.wrap ((k:Int)+1)=((k+1:Nat):Int):=by rw[w64 (by omega)];omega
   obtain⟨b,hb⟩: ∃b,c.bufs[k]?=some b:=⟨_,z'c hlt⟩
   have rb:(w'o c.bufs)[k]?=some [buf b]:=by rw[x'P,hb];rfl
   by_cases h0:b.length=0
   ·have e0:decide ((b.length:Int)>0)=false:=by rw[h0];rfl
    repeat' first|refine mq1 (x'V @hd @hw @rb @e0 @y'm @z'R) ?_|refine .wk ?_ ?_;focus(try omega)|fail
    refine⟨⟨k+1,by omega,Zah hs hb (by simpa using h0)⟩,Weak.sub ?_,by simp only[];omega⟩
    simp[sub,upd]
   ·have e0:decide ((b.length:Int)>0)=true:=by simp;omega
    rw[show Zb8 c=false from v'k hb (by simpa using h0)]
    repeat' first|refine mq1 (y'Z @hd @rb @e0 @y'm @z'R) ?_|refine .wk ?_ ?_;focus(try omega)|exact z'p T (z'a _) ⟨rfl,rfl⟩|fail
  ·have hd:decide ((k:Int)<(c.bufs.length:Int))=false:=by simp;omega
   rw[show Zb8 c=true from ZaR fun i x hi hx=>hs i x (by omega) hx]
   repeat' first|refine mq1 @hd ?_|exact z'p T (z'a _) ⟨rfl,rfl⟩|fail
def w'h (u:Un) (c:Cf):Bool:=((List.range u.code.length).all fun t=>x'I u c (t:Nat))&&Zb8 c
theorem Ziv {n:Nat} {p:Nat→Bool} (h: ∀i,i<n→p i=true):(List.range n).all p=true:=by
 rw[z'q]
 exact fun x hx=>h x (z'U.1 hx)
theorem Ziw {n i:Nat} {p:Nat→Bool} (hi:i<n) (h:p i=false):(List.range n).all p=false:=by
 rw[v'i]
 exact⟨i,z'U.2 hi,by simp[h]⟩
theorem Zqw (u:Un) (c:Cf) (hu:u.code.length≤1000000) (hn:c.bufs.length≤1000000):Pure Tryz.prog 72 [.agg (unC u),.agg (cfC c)] (bD (w'h u c)):=by
 have cq:=Zro c hn
 refine Fun.of T [.tmp 4] Tryz.func72 rfl Tryz.ntmps72 Tryz.results72 rfl (by kernel_rfl) ?_
 repeat' first|refine vb rfl rfl rfl rfl ?_|refine mq1 @z'V ?_|fail
 refine VC.loop {k:Nat//k≤u.code.length∧ ∀i,i<k→x'I u c (i:Nat)=true} (fun p=>⟨z'T [(2,.pt (unC u)),(3,.pt (cfC c)),(8,iD (u.code.length:Nat)),(9,iD (p.1:Nat))],[]⟩) (fun p=>u.code.length-p.1) ⟨0,by omega,fun i hi=>by omega⟩ ?_ ?_
 ·refine Weak.sub ?_
  simp[sub,upd]
 rintro⟨k,hk,hs⟩
 dsimp only
 rcases z'i k u.code.length with hlt|hge
 ·have hd:decide ((k:Int)<(u.code.length:Int))=true:=by simp;omega
  have hw:IntKind.i64.wrap ((k:Int)+1)=((k+1:Nat):Int):=by rw[w64 (by omega)];omega
  have ce:=Zqv u c (k:Nat)
  cases hE:x'I u c (k:Nat)with
  |false=>
   rw[hE]at ce
   rw[show w'h u c=false by rw[w'h,Ziw hlt hE];rfl]
   repeat' first|refine mq2 @hd ce ?_|exact z'p T (z'a _) ⟨rfl,rfl⟩|fail
  |true=>
   rw[hE]at ce
   repeat' first|refine mq2 (z'X @hd @hw) ce ?_|fail
   refine⟨⟨k+1,by omega,fun i hi=>?_⟩,Weak.sub ?_,by simp only[];omega⟩
   ·rcases z'i i k with h|h
    ·exact hs i h
    ·obtain rfl:i=k:=by omega
     exact hE
   ·simp[sub,upd]
 have hd:decide ((k:Int)<(u.code.length:Int))=false:=by simp;omega
 rw[show w'h u c=Zb8 c by rw[w'h,Ziv fun i hi=>hs i (by omega),y'Y]]
 repeat' first|refine mq2 @hd cq ?_|exact z'p T (z'a _) ⟨rfl,rfl⟩|fail
theorem Zj0 (u:Un) (c:Cf) (hu:u.code.length≤1000000) (hn:c.bufs.length≤1000000):Pure Tryz.prog 36 [.agg (unC u),.agg (cfC c)] (bD (w'h u c)):=by
 have cq:=ZpW c hn
 refine Fun.of T [.tmp 4] Tryz.func36 rfl Tryz.ntmps36 Tryz.results36 rfl (by kernel_rfl) ?_
 repeat' first|refine vb rfl rfl rfl rfl ?_|refine mq0 ?_|fail
 refine VC.loop {k:Nat//k≤u.code.length∧ ∀i,i<k→x'I u c (i:Nat)=true} (fun p=>⟨z'T [(2,.pt (unC u)),(3,.pt (cfC c)),(5,iD (p.1:Nat))],[]⟩) (fun p=>u.code.length-p.1) ⟨0,by omega,fun i hi=>by omega⟩ ?_ ?_
 ·refine Weak.sub ?_
  simp[sub,upd]
 rintro⟨k,hk,hs⟩
 dsimp only
 rcases z'i k u.code.length with hlt|hge
 ·have hd:decide ((k:Int)<(u.code.length:Int))=true:=by simp;omega
  have hw:IntKind.i64.wrap ((k:Int)+1)=((k+1:Nat):Int):=by rw[w64 (by omega)];omega
  have ce:=ZpO u c (k:Nat)
  cases hE:x'I u c (k:Nat)with
  |false=>
   rw[hE]at ce
   rw[show w'h u c=false by rw[w'h,Ziw hlt hE];rfl]
   repeat' first|refine mq2 (z'X @hd @z'V) ce ?_|exact z'p T (z'a _) ⟨rfl,rfl⟩|fail
  |true=>
   rw[hE]at ce
   repeat' first|refine mq2 (x'i @hd @hw @z'V) ce ?_|fail
   refine⟨⟨k+1,by omega,fun i hi=>?_⟩,Weak.sub ?_,by simp only[];omega⟩
   ·rcases z'i i k with h|h
    ·exact hs i h
    ·obtain rfl:i=k:=by omega
     exact hE
   ·simp[sub,upd]
 have hd:decide ((k:Int)<(u.code.length:Int))=false:=by simp;omega
 rw[show w'h u c=Zb8 c by rw[w'h,Ziv fun i hi=>hs i (by omega),y'Y]]
 repeat' first|refine mq2 (z'X @hd @z'V) cq ?_|exact z'p T (z'a _) ⟨rfl,rfl⟩|fail
end Go.Proofs.YthlkpnjjkgmlkaaGreat
