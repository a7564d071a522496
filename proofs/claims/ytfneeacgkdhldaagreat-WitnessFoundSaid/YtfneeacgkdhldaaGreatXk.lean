/- Contracts: whether code can be. No condition. -/
import Derived.Test.YtfneeacgkdhldaaGreatXg
import Derived.Test.YtfneeacgkdhldaaGreatXe
namespace Go.Proofs.YtfneeacgkdhldaaGreat
set_option maxHeartbeats 16000000
set_option linter.unusedSimpArgs false
set_option linter.unusedVariables false
set_option maxRecDepth 20000
open Go Go.Proofs Go.Vc
attribute [local irreducible] y'5 VCg VCw VCx
def y'M (rs:List Int) (own locs:Int) (x:Opc):Bool:=
 if x.1=1 then inB x.2.1 10000 else if x.1=2 then inB x.2.1 own else if x.1=3 then inB x.2.1 locs
 else if x.1=4 then inB x.2.2 rs.length&&inB x.2.1 ((rs[x.2.2.toNat]?).getD 0)else true
def oneL (o:Option (Int×Int)):Bool:=match o with|some p=>p.1 == 1|none=>false
def y'1 (l:List Opc) (rs:List Int) (own locs:Int):Bool:=(l.all (y'M rs own locs))&&oneL (w'F l 0 0)
theorem x'o (l:List Opc) (hl:l.length≤1000) (rs:List Int) (hrs:rs.length≤1000) (own locs:Int):Pure Tryz.prog 79 [z'S l,z'C rs,iD own,iD locs] (bD (y'1 l rs own locs)):=by
 refine Fun.of T [.tmp 8] Tryz.func79 rfl Tryz.ntmps79 Tryz.results79 rfl (by kernel_rfl) ?_
 repeat' first|refine vs T rfl fun K hK=>?_;(try simp (disch:=omega) only[go_sem,Nat.reduceAdd]);(refine hK _ _ ?_;clear hK K)|refine st rfl ?_|refine nl ?_
 refine VC.loop {k:Nat//k≤l.length∧ ∀(i:Nat) (y:Opc),i<k→l[i]?=some y→y'M rs own locs y=true} (fun p=>⟨z'J [(0,z'S l),(1,z'C rs),(2,iD own),(3,iD locs),(9,iD (p.1:Nat))],[]⟩) (fun p=>l.length-p.1) ⟨0,by omega,fun i y hi=>by omega⟩ ?_ ?_
 ·refine Weak.sub ?_
  simp[sub,upd]
 ·rintro⟨k,hk,hs⟩
  dsimp only
  rcases z'g k l.length with hlt|hge
  ·have hd:decide ((k:Int)<(l.length:Int))=true:=by simp;omega
   have hw:IntKind.i64.wrap ((k:Int)+1)=((k+1:Nat):Int):=by rw[w64 (by omega)];omega
   obtain⟨x,hx⟩: ∃x,l[k]?=some x:=⟨_,z'b hlt⟩
   have hrow:(ZdD l)[k]?=some [iD x.1,iD x.2.1,iD x.2.2]:=by rw[Zca,hx];rfl
   have nxt:y'M rs own locs x=true→ ∀{H:Heap} (E:Nat→D),Vc.sub E [(0,z'S l),(1,z'C rs),(2,iD own),(3,iD locs),(9,iD ((k+1:Nat):Int))]→
     ∃k':{k:Nat//k≤l.length∧ ∀(i:Nat) (y:Opc),i<k→l[i]?=some y→y'M rs own locs y=true},Weak ⟨E,H⟩ ⟨z'J [(0,z'S l),(1,z'C rs),(2,iD own),(3,iD locs),(9,iD (k'.1:Nat))],[]⟩∧l.length-k'.1<l.length-k:=
    fun h H E hE=>⟨⟨k+1,by omega,Zak hs hx h⟩,Weak.subH (z'a _) hE,by simp only[];omega⟩
   have bad:y'M rs own locs x=false→y'1 l rs own locs=false:=fun h=>by
    unfold y'1
    rw[v'r hx h];rfl
   by_cases h1:x.1=1
   ·have e1:(x.1 == 1)=true:=by simpa using h1
    cases hv:inB x.2.1 10000 with
    |true=>
     have hok:y'M rs own locs x=true:=by simp[y'M,h1,hv]
     repeat' first|refine vs T rfl fun K hK=>?_;(try simp (disch:=omega) only[go_sem,Nat.reduceBEq,Nat.reduceAdd,Nat.reduceLeDiff,hd,hw,hrow,z'K,z'l,e1,hv]);(first|refine hK _ _ ?_;clear hK K|intro bq hbq;(try simp only[HB]at hbq);refine hK _ _ ?_;clear hK K|refine⟨?_,hK _ _ ?_⟩<;>clear hK K;focus(try omega)|refine Op1.callp rfl rfl (v's _ _) rfl ?_;refine hK _ _ ?_;clear hK K)|refine st rfl ?_|refine sc rfl ?_|refine nl ?_
     refine nxt hok _ ?_
     simp[sub,upd]
    |false=>
     have hok:y'M rs own locs x=false:=by simp[y'M,h1,hv]
     rw[bad hok]
     repeat' first|refine vs T rfl fun K hK=>?_;(try simp (disch:=omega) only[go_sem,Nat.reduceBEq,Nat.reduceAdd,Nat.reduceLeDiff,hd,hrow,z'K,z'r,e1,hv]);(first|refine hK _ _ ?_;clear hK K|intro bq hbq;(try simp only[HB]at hbq);refine hK _ _ ?_;clear hK K|refine⟨?_,hK _ _ ?_⟩<;>clear hK K;focus(try omega)|refine Op1.callp rfl rfl (v's _ _) rfl ?_;refine hK _ _ ?_;clear hK K)|refine st rfl ?_|refine sc rfl ?_|refine nl ?_|exact z'n T (z'a _) ⟨rfl,rfl⟩
   have e1:(x.1 == 1)=false:=by simpa using h1
   by_cases h2:x.1=2
   ·have e2:(x.1 == 2)=true:=by simpa using h2
    cases hv:inB x.2.1 own with
    |true=>
     have hok:y'M rs own locs x=true:=by simp[y'M,h2,hv]
     repeat' first|refine vs T rfl fun K hK=>?_;(try simp (disch:=omega) only[go_sem,Nat.reduceBEq,Nat.reduceAdd,Nat.reduceLeDiff,hd,hw,hrow,z'K,z'l,e1,e2,hv]);(first|refine hK _ _ ?_;clear hK K|intro bq hbq;(try simp only[HB]at hbq);refine hK _ _ ?_;clear hK K|refine⟨?_,hK _ _ ?_⟩<;>clear hK K;focus(try omega)|refine Op1.callp rfl rfl (v's _ _) rfl ?_;refine hK _ _ ?_;clear hK K)|refine st rfl ?_|refine sc rfl ?_|refine nl ?_
     refine nxt hok _ ?_
     simp[sub,upd]
    |false=>
     have hok:y'M rs own locs x=false:=by simp[y'M,h2,hv]
     rw[bad hok]
     repeat' first|refine vs T rfl fun K hK=>?_;(try simp (disch:=omega) only[go_sem,Nat.reduceBEq,Nat.reduceAdd,Nat.reduceLeDiff,hd,hrow,z'K,z'r,e1,e2,hv]);(first|refine hK _ _ ?_;clear hK K|intro bq hbq;(try simp only[HB]at hbq);refine hK _ _ ?_;clear hK K|refine⟨?_,hK _ _ ?_⟩<;>clear hK K;focus(try omega)|refine Op1.callp rfl rfl (v's _ _) rfl ?_;refine hK _ _ ?_;clear hK K)|refine st rfl ?_|refine sc rfl ?_|refine nl ?_|exact z'n T (z'a _) ⟨rfl,rfl⟩
   have e2:(x.1 == 2)=false:=by simpa using h2
   by_cases h3:x.1=3
   ·have e3:(x.1 == 3)=true:=by simpa using h3
    cases hv:inB x.2.1 locs with
    |true=>
     have hok:y'M rs own locs x=true:=by simp[y'M,h3,hv]
     repeat' first|refine vs T rfl fun K hK=>?_;(try simp (disch:=omega) only[go_sem,Nat.reduceBEq,Nat.reduceAdd,Nat.reduceLeDiff,hd,hw,hrow,z'K,z'l,e1,e2,e3,hv]);(first|refine hK _ _ ?_;clear hK K|intro bq hbq;(try simp only[HB]at hbq);refine hK _ _ ?_;clear hK K|refine⟨?_,hK _ _ ?_⟩<;>clear hK K;focus(try omega)|refine Op1.callp rfl rfl (v's _ _) rfl ?_;refine hK _ _ ?_;clear hK K)|refine st rfl ?_|refine sc rfl ?_|refine nl ?_
     refine nxt hok _ ?_
     simp[sub,upd]
    |false=>
     have hok:y'M rs own locs x=false:=by simp[y'M,h3,hv]
     rw[bad hok]
     repeat' first|refine vs T rfl fun K hK=>?_;(try simp (disch:=omega) only[go_sem,Nat.reduceBEq,Nat.reduceAdd,Nat.reduceLeDiff,hd,hrow,z'K,z'r,e1,e2,e3,hv]);(first|refine hK _ _ ?_;clear hK K|intro bq hbq;(try simp only[HB]at hbq);refine hK _ _ ?_;clear hK K|refine⟨?_,hK _ _ ?_⟩<;>clear hK K;focus(try omega)|refine Op1.callp rfl rfl (v's _ _) rfl ?_;refine hK _ _ ?_;clear hK K)|refine st rfl ?_|refine sc rfl ?_|refine nl ?_|exact z'n T (z'a _) ⟨rfl,rfl⟩
   have e3:(x.1 == 3)=false:=by simpa using h3
   by_cases h4:x.1=4
   ·have e4:(x.1 == 4)=true:=by simpa using h4
    cases hT:inB x.2.2 rs.length with
    |false=>
     have hok:y'M rs own locs x=false:=by simp[y'M,h4,hT]
     rw[bad hok]
     repeat' first|refine dr (id:=16) T 14 (by kernel_rfl) ?_|refine gn ?_|(apply VCg.step T rfl rfl);focus((try simp (disch:=omega) only[go_sem,Nat.reduceBEq,z'r,hT,z'k]);(first|exact rfl|refine Op1.callp rfl rfl (v's _ _) rfl ?_;exact⟨rfl,rfl⟩))|refine VCg.gstep T rfl rfl rfl rfl ?_;try simp only[GB]|refine vs T rfl fun K hK=>?_;(try simp (disch:=omega) only[go_sem,Nat.reduceBEq,Nat.reduceAdd,Nat.reduceLeDiff,hd,hrow,z'K,e1,e2,e3,e4,hT]);(first|refine hK _ _ ?_;clear hK K|intro bq hbq;(try simp only[HB]at hbq);refine hK _ _ ?_;clear hK K|refine⟨?_,hK _ _ ?_⟩<;>clear hK K;focus(try omega))|refine st rfl ?_|refine sc rfl ?_|refine nl ?_|refine gs rfl rfl ?_|exact z'n T (z'a _) ⟨rfl,rfl⟩
    |true=>
     have hb:0≤x.2.2∧x.2.2<rs.length:=by simpa[inB]using hT
     obtain⟨r,hr⟩: ∃r,rs[x.2.2.toNat]?=some r:=⟨_,z'b (by omega)⟩
     have hrr:(iRs rs)[x.2.2.toNat]?=some [iD r]:=by rw[y'Q,hr];rfl
     cases hv:inB x.2.1 r with
     |true=>
      have hok:y'M rs own locs x=true:=by simp[y'M,h4,hT,hr,hv]
      repeat' first|refine dr (id:=16) T 14 (by kernel_rfl) ?_|refine gn ?_|(first|apply VCg.step T rfl rfl|apply exF);focus((try simp (disch:=omega) only[go_sem,Nat.reduceBEq,z'l,hT,hrr,z'k]);(first|exact rfl|refine⟨?_,rfl⟩;try omega|refine Op1.callp rfl rfl (v's _ _) rfl ?_;exact⟨rfl,rfl⟩))|refine VCg.gstep T rfl rfl rfl rfl ?_;try simp only[GB]|refine vs T rfl fun K hK=>?_;(try simp (disch:=omega) only[go_sem,Nat.reduceBEq,Nat.reduceAdd,Nat.reduceLeDiff,hd,hw,hrow,z'K,z'l,e1,e2,e3,e4,hT,hv]);(first|refine hK _ _ ?_;clear hK K|intro bq hbq;(try simp only[HB]at hbq);refine hK _ _ ?_;clear hK K|refine⟨?_,hK _ _ ?_⟩<;>clear hK K;focus(try omega)|refine Op1.callp rfl rfl (v's _ _) rfl ?_;refine hK _ _ ?_;clear hK K)|refine st rfl ?_|refine sc rfl ?_|refine nl ?_|refine gs rfl rfl ?_
      refine nxt hok _ ?_
      simp[sub,upd]
     |false=>
      have hok:y'M rs own locs x=false:=by simp[y'M,h4,hT,hr,hv]
      rw[bad hok]
      repeat' first|refine dr (id:=16) T 14 (by kernel_rfl) ?_|refine gn ?_|(first|apply VCg.step T rfl rfl|apply exF);focus((try simp (disch:=omega) only[go_sem,Nat.reduceBEq,z'l,hT,hrr,z'k]);(first|exact rfl|refine⟨?_,rfl⟩;try omega|refine Op1.callp rfl rfl (v's _ _) rfl ?_;exact⟨rfl,rfl⟩))|refine VCg.gstep T rfl rfl rfl rfl ?_;try simp only[GB]|refine vs T rfl fun K hK=>?_;(try simp (disch:=omega) only[go_sem,Nat.reduceBEq,Nat.reduceAdd,Nat.reduceLeDiff,hd,hrow,z'K,z'r,e1,e2,e3,e4,hT,hv]);(first|refine hK _ _ ?_;clear hK K|intro bq hbq;(try simp only[HB]at hbq);refine hK _ _ ?_;clear hK K|refine⟨?_,hK _ _ ?_⟩<;>clear hK K;focus(try omega)|refine Op1.callp rfl rfl (v's _ _) rfl ?_;refine hK _ _ ?_;clear hK K)|refine st rfl ?_|refine sc rfl ?_|refine nl ?_|refine gs rfl rfl ?_|exact z'n T (z'a _) ⟨rfl,rfl⟩
   have e4:(x.1 == 4)=false:=by simpa using h4
   have hok:y'M rs own locs x=true:=by simp[y'M,h1,h2,h3,h4]
   repeat' first|refine vs T rfl fun K hK=>?_;(try simp (disch:=omega) only[go_sem,Nat.reduceBEq,Nat.reduceAdd,Nat.reduceLeDiff,hd,hw,hrow,z'K,e1,e2,e3,e4]);(first|refine hK _ _ ?_;clear hK K|intro bq hbq;(try simp only[HB]at hbq);refine hK _ _ ?_;clear hK K|refine⟨?_,hK _ _ ?_⟩<;>clear hK K;focus(try omega))|refine st rfl ?_|refine sc rfl ?_|refine nl ?_
   refine nxt hok _ ?_
   simp[sub,upd]
  ·have hd:decide ((k:Int)<(l.length:Int))=false:=by simp;omega
   have hA:y'1 l rs own locs=oneL (w'F l 0 0):=by
    unfold y'1
    rw[ZaT fun i y hi hy=>hs i y (by omega) hy];rfl
   rw[hA]
   have cl:=Zk1 l hl
   cases hL:w'F l 0 0 with
   |none=>
    rw[hL]at cl
    have cl':Pure Tryz.prog 101 [z'S l] (.tup [iD (-1),iD (-1)]):=cl
    repeat' first|refine vs T rfl fun K hK=>?_;(try simp (disch:=omega) only[go_sem,Nat.reduceBEq,hd,z'K]);(first|refine hK _ _ ?_;clear hK K|refine Op1.callp rfl rfl (cl') rfl ?_;refine hK _ _ ?_;clear hK K)|refine st rfl ?_|refine sc rfl ?_|refine nl ?_|exact z'n T (z'a _) ⟨rfl,rfl⟩
    all_goals rfl
   |some p=>
    rw[hL]at cl
    have cl':Pure Tryz.prog 101 [z'S l] (.tup [iD p.1,iD p.2]):=cl
    repeat' first|refine vs T rfl fun K hK=>?_;(try simp (disch:=omega) only[go_sem,Nat.reduceBEq,hd,z'K]);(first|refine hK _ _ ?_;clear hK K|refine Op1.callp rfl rfl (cl') rfl ?_;refine hK _ _ ?_;clear hK K)|refine st rfl ?_|refine sc rfl ?_|refine nl ?_|exact z'n T (z'a _) ⟨rfl,rfl⟩
    all_goals rfl
def Zdb (x:Ins):Bool:=decide (x.e.length≤300)&&decide (x.f.length≤300)
def Zay (r:List Ins):Bool:=decide (r.length≤200)&&r.all Zdb
def Zag (u:Un):Bool:=(decide (u.init.length≤20)&&decide (u.regs.length≤20)&&decide (u.code.length≤8))&&u.code.all Zay
theorem ZlI (u:Un):Pure Tryz.prog 4 [.agg (unC u)] (bD (Zag u)):=by
 refine Fun.of T [.tmp 2] Tryz.func4 rfl Tryz.ntmps4 Tryz.results4 rfl (by kernel_rfl) ?_
 by_cases g1:u.init.length≤20
 case neg=>
  have e1:decide ((u.init.length:Int)>20)=true:=by simp;omega
  have hL:Zag u=false:=by simp[Zag,g1]
  rw[hL]
  repeat' first|refine vb rfl rfl rfl rfl ?_|refine vs T rfl fun K hK=>?_;(try simp (disch:=omega) only[go_sem,Nat.reduceBEq,e1,z'k]);(refine hK _ _ ?_;clear hK K)|refine st rfl ?_|refine sc rfl ?_|refine nl ?_|refine gs rfl rfl ?_|exact z'n T (z'a _) ⟨rfl,rfl⟩
 have e1:decide ((u.init.length:Int)>20)=false:=by simp;omega
 by_cases g2:u.regs.length≤20
 case neg=>
  have e2:decide ((u.regs.length:Int)>20)=true:=by simp;omega
  have hL:Zag u=false:=by simp[Zag,g2]
  rw[hL]
  repeat' first|refine vb rfl rfl rfl rfl ?_|refine vs T rfl fun K hK=>?_;(try simp (disch:=omega) only[go_sem,Nat.reduceBEq,e1,e2,z'k]);(refine hK _ _ ?_;clear hK K)|refine st rfl ?_|refine sc rfl ?_|refine nl ?_|refine gs rfl rfl ?_|exact z'n T (z'a _) ⟨rfl,rfl⟩
 have e2:decide ((u.regs.length:Int)>20)=false:=by simp;omega
 by_cases g3:u.code.length≤8
 case neg=>
  have e3:decide ((u.code.length:Int)>8)=true:=by simp;omega
  have hL:Zag u=false:=by simp[Zag,g3]
  rw[hL]
  repeat' first|refine vb rfl rfl rfl rfl ?_|refine vs T rfl fun K hK=>?_;(try simp (disch:=omega) only[go_sem,Nat.reduceBEq,e1,e2,e3,z'k,z'Q]);(refine hK _ _ ?_;clear hK K)|refine st rfl ?_|refine sc rfl ?_|refine nl ?_|refine gs rfl rfl ?_|exact z'n T (z'a _) ⟨rfl,rfl⟩
 have e3:decide ((u.code.length:Int)>8)=false:=by simp;omega
 have hU:Zag u=u.code.all Zay:=by simp[Zag,g1,g2,g3]
 rw[hU]
 repeat' first|refine vb rfl rfl rfl rfl ?_|refine vs T rfl fun K hK=>?_;(try simp (disch:=omega) only[go_sem,Nat.reduceBEq,e1,e2,e3,z'k,z'Q]);(refine hK _ _ ?_;clear hK K)|refine st rfl ?_|refine sc rfl ?_|refine nl ?_|refine gs rfl rfl ?_
 refine VC.loop {k:Nat//k≤u.code.length∧ ∀(i:Nat) (y:List Ins),i<k→u.code[i]?=some y→Zay y=true} (fun p=>⟨z'J [(1,.pt (unC u)),(3,iD (p.1:Nat))],[]⟩) (fun p=>u.code.length-p.1) ⟨0,by omega,fun i y hi=>by omega⟩ ?_ ?_
 ·refine Weak.sub ?_
  simp[sub,upd]
 ·rintro⟨k,hk,hs⟩
  dsimp only
  rcases z'g k u.code.length with hlt|hge
  ·have hd:decide ((k:Int)<(u.code.length:Int))=true:=by simp;omega
   have hw:IntKind.i64.wrap ((k:Int)+1)=((k+1:Nat):Int):=by rw[w64 (by omega)];omega
   obtain⟨r,hr⟩: ∃r,u.code[k]?=some r:=⟨_,z'b hlt⟩
   have rr:(x'9 u.code)[k]?=some [.sl false 7 (y'P r)]:=by rw[x'O,hr];rfl
   by_cases h0:r.length≤200
   case neg=>
    have e0:decide ((r.length:Int)>200)=true:=by simp;omega
    rw[v'r hr (by simp[Zay,h0])]
    repeat' first|refine vs T rfl fun K hK=>?_;(try simp (disch:=omega) only[go_sem,Nat.reduceBEq,hd,rr,e0,z'Q,z'7]);(first|refine hK _ _ ?_;clear hK K|refine⟨?_,hK _ _ ?_⟩<;>clear hK K;focus(try omega))|refine st rfl ?_|refine sc rfl ?_|refine nl ?_|exact z'n T (z'a _) ⟨rfl,rfl⟩
   have e0:decide ((r.length:Int)>200)=false:=by simp;omega
   repeat' first|refine vs T rfl fun K hK=>?_;(try simp (disch:=omega) only[go_sem,Nat.reduceBEq,hd,rr,e0,z'Q,z'7]);(first|refine hK _ _ ?_;clear hK K|refine⟨?_,hK _ _ ?_⟩<;>clear hK K;focus(try omega))|refine st rfl ?_|refine sc rfl ?_|refine nl ?_
   refine VC.loop {j:Nat//j≤r.length∧ ∀(i:Nat) (y:Ins),i<j→r[i]?=some y→Zdb y=true} (fun p=>⟨z'J [(1,.pt (unC u)),(3,iD (k:Nat)),(4,iD (p.1:Nat))],[]⟩) (fun p=>r.length-p.1) ⟨0,by omega,fun i y hi=>by omega⟩ ?_ ?_
   ·refine Weak.sub ?_
    simp[sub,upd]
   ·rintro⟨j,hj,hsj⟩
    dsimp only
    rcases z'g j r.length with hjl|hjg
    ·have hdj:decide ((j:Int)<(r.length:Int))=true:=by simp;omega
     have hwj:IntKind.i64.wrap ((j:Int)+1)=((j+1:Nat):Int):=by rw[w64 (by omega)];omega
     obtain⟨x,hx⟩: ∃x,r[j]?=some x:=⟨_,z'b hjl⟩
     have rx:(y'P r)[j]?=some [iD x.op,iD x.reg,iD x.loc,z'S x.e,z'S x.f,bD x.ne,iD x.to]:=by rw[x'Q,hx];rfl
     by_cases p1:x.e.length≤300
     ·have q1:decide ((x.e.length:Int)>300)=false:=by simp;omega
      by_cases p2:x.f.length≤300
      ·have q2:decide ((x.f.length:Int)>300)=false:=by simp;omega
       repeat' first|refine vs T rfl fun K hK=>?_;(try simp (disch:=omega) only[go_sem,Nat.reduceBEq,hdj,hwj,rr,rx,q1,q2,z'Q,z'7,z'K]);(first|refine hK _ _ ?_;clear hK K|refine⟨?_,hK _ _ ?_⟩<;>clear hK K;focus(try omega))|refine st rfl ?_|refine sc rfl ?_|refine nl ?_|refine gs rfl rfl ?_
       refine⟨⟨j+1,by omega,Zak hsj hx (by simp[Zdb,p1,p2])⟩,Weak.sub ?_,by simp only[];omega⟩
       simp[sub,upd]
      ·have q2:decide ((x.f.length:Int)>300)=true:=by simp;omega
       have hb:Zay r=false:=by
        unfold Zay
        rw[v'r hx (by simp[Zdb,p2]),w's]
       rw[v'r hr hb]
       repeat' first|refine vs T rfl fun K hK=>?_;(try simp (disch:=omega) only[go_sem,Nat.reduceBEq,hdj,rr,rx,q1,q2,z'Q,z'7,z'K]);(first|refine hK _ _ ?_;clear hK K|refine⟨?_,hK _ _ ?_⟩<;>clear hK K;focus(try omega))|refine st rfl ?_|refine sc rfl ?_|refine nl ?_|refine gs rfl rfl ?_|exact z'n T (z'a _) ⟨rfl,rfl⟩
     ·have q1:decide ((x.e.length:Int)>300)=true:=by simp;omega
      have hb:Zay r=false:=by
       unfold Zay
       rw[v'r hx (by simp[Zdb,p1]),w's]
      rw[v'r hr hb]
      repeat' first|refine vs T rfl fun K hK=>?_;(try simp (disch:=omega) only[go_sem,Nat.reduceBEq,hdj,rr,rx,q1,z'Q,z'7,z'K]);(first|refine hK _ _ ?_;clear hK K|refine⟨?_,hK _ _ ?_⟩<;>clear hK K;focus(try omega))|refine st rfl ?_|refine sc rfl ?_|refine nl ?_|refine gs rfl rfl ?_|exact z'n T (z'a _) ⟨rfl,rfl⟩
    ·have hdj:decide ((j:Int)<(r.length:Int))=false:=by simp;omega
     have hb:Zay r=true:=by
      unfold Zay
      rw[ZaT fun i y hi hy=>hsj i y (by omega) hy]
      simpa using h0
     repeat' first|refine vs T rfl fun K hK=>?_;(try simp (disch:=omega) only[go_sem,Nat.reduceBEq,hdj,hw,rr,z'Q,z'7]);(first|refine hK _ _ ?_;clear hK K|refine⟨?_,hK _ _ ?_⟩<;>clear hK K;focus(try omega))|refine st rfl ?_|refine sc rfl ?_|refine nl ?_
     refine⟨⟨k+1,by omega,Zak hs hr hb⟩,Weak.sub ?_,by simp only[];omega⟩
     simp[sub,upd]
  ·have hd:decide ((k:Int)<(u.code.length:Int))=false:=by simp;omega
   rw[ZaT fun i y hi hy=>hs i y (by omega) hy]
   repeat' first|refine vs T rfl fun K hK=>?_;(try simp (disch:=omega) only[go_sem,Nat.reduceBEq,hd,z'Q]);(refine hK _ _ ?_;clear hK K)|refine st rfl ?_|refine sc rfl ?_|refine nl ?_|exact z'n T (z'a _) ⟨rfl,rfl⟩
theorem Zjc (l:List Int) (hl:l.length≤1000000):Fun Tryz.prog 107 [z'C l] [] false (fun d H'=> ∃g,d= .gs g l.length∧gOk g l.length∧H'=shp g 3 1 (iRs l).flatten []):=by
 refine Fun.of T [.tmp 2] Tryz.func107 rfl Tryz.ntmps107 Tryz.results107 rfl (by kernel_rfl) ?_
 repeat' first|refine vs T rfl fun K hK=>?_;(try simp (disch:=omega) only[go_sem,Nat.reduceBEq,z'k]);(first|refine hK _ _ ?_;clear hK K|refine⟨_,_,_,_,(by repeat (exact Sp.nil)),?_,(by exact⟨rfl,rfl⟩),⟨by decide,?_⟩,fun g' hg'=>hK _ _ ?_⟩<;>clear hK K)|refine st rfl ?_|refine nl ?_
 ·rfl
 ·omega
 ·exact z'n T (z'p _) ⟨g',rfl,by simpa using hg',rfl⟩
theorem Zof (l:List En) (hl:l.length≤1000000):Fun Tryz.prog 114 [buf l] [] false (fun d H'=> ∃g,d= .gs g l.length∧gOk g l.length∧H'=shp g 114 2 (eRs l).flatten []):=by
 refine Fun.of T [.tmp 2] Tryz.func114 rfl Tryz.ntmps114 Tryz.results114 rfl (by kernel_rfl) ?_
 repeat' first|refine vs T rfl fun K hK=>?_;(try simp (disch:=omega) only[go_sem,Nat.reduceBEq,z'A]);(first|refine hK _ _ ?_;clear hK K|refine⟨_,_,_,_,(by repeat (exact Sp.nil)),?_,(by exact⟨rfl,rfl⟩),?_,fun g' hg'=>hK _ _ ?_⟩<;>clear hK K)|refine st rfl ?_|refine nl ?_
 ·rfl
 ·omega
 ·exact z'n T (z'p _) ⟨g',rfl,by simpa using hg',rfl⟩
theorem Zmx (l:List En) (hl:l.length≤1000000):Pure Tryz.prog 114 [buf l] (buf l):=
 Fun.fz ((Zof l hl).mono fun d H' ⟨g,h1,h2,h3⟩=>by subst h1;subst h3;exact Zat h2 (z'A l) (w'6 l))
theorem Zmy (l:List Int) (hl:l.length≤1000000):Pure Tryz.prog 107 [z'C l] (z'C l):=
 Fun.fz ((Zjc l hl).mono fun d H' ⟨g,h1,h2,h3⟩=>by subst h1;subst h3;exact Zat h2 (z'k l) (Zb9 l))
theorem HRel.cut {w:World} {L:Nat→Prop} {b n k:Nat} {ty:TypeId} {l:List D} (h:HRel w L b (.cells ty n l)):HRel w L b (.cells ty n (l.take k)):=by
 obtain⟨h1,arr,h2,h3,h4⟩:=h
 refine⟨Za5 h1 k,arr,h2,h3,?_⟩
 have:=RelL.take k _ _ h4
 rw[List.take_take]at this
 rwa [z'F]
theorem Weak.cut {env:Nat→D} {g:Option (Nat×Nat)} {e:TypeId} {esz k:Nat} {l:List D} {X:Heap}:Weak ⟨env,shp g e esz l X⟩ ⟨env,shp g e esz (l.take k) X⟩:=fun x a w h=>by
 cases g with
 |none=>exact h
 |some p=>
  obtain⟨b,cap⟩:=p
  have hbl:(shp (some (b,cap)) e esz (l.take k) X).blocks=(shp (some (b,cap)) e esz l X).blocks:=rfl
  have hlv:live (shp (some (b,cap)) e esz (l.take k) X) x.L0=live (shp (some (b,cap)) e esz l X) x.L0:=by
   funext b'
   simp only[live,hbl]
  refine{env:=fun t=>by rw[hlv];exact h.env t,inv:=?_,evo:=?_,defers:=h.defers,size:=h.size}
  ·refine{rel:=fun b' c hm=>?_,nodup:=by rw[hbl];exact h.inv.nodup,apart:=fun b' hb=>h.inv.apart b' (by rw[←hbl];exact hb),old:=h.inv.old}
   rw[hlv]
   rcases z'P.1 hm with hm|hm
   ·cases hm
    exact HRel.cut (h.inv.rel b _ (z'D ..))
   ·exact h.inv.rel b' c (z'd _ hm)
  ·exact⟨h.evo.os,h.evo.tape,h.evo.output,h.evo.size,h.evo.block,fun b' hb=>h.evo.fresh b' (by rw[←hbl];exact hb)⟩
end Go.Proofs.YtfneeacgkdhldaaGreat
