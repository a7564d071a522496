/- Contracts: whether code can be, as the program says. No condition. -/
import Derived.Test.YthlkpnjjkgmlkaaGreatXe
namespace Go.Proofs.YthlkpnjjkgmlkaaGreat
set_option maxHeartbeats 16000000
set_option linter.unusedSimpArgs false
set_option linter.unusedVariables false
set_option maxRecDepth 20000
open Go Go.Proofs Go.Vc
attribute [local irreducible] x'r VCg VCw VCx
theorem Zky {op:Int} (h: ¬(5≤op∧op≤14)):ofD op= .tup [.agg [iD 0,.is .nilFunc],bD false]:=by unfold ofD;rw[if_neg (by omega),if_neg (by omega)]
theorem ZlU {op:Int} (h:6≤op∧op≤14):ofD op= .tup [.agg [iD 2,fD (fnO op)],bD true]:=by unfold ofD;rw[if_neg (by omega),if_pos h]
theorem w10:IntKind.i64.wrap ((1:Int)-0)=1:=by decide
theorem w11:IntKind.i64.wrap ((1:Int)-1)=0:=by decide
theorem w12:IntKind.i64.wrap ((1:Int)-2)= -1:=by decide
theorem Zrq (l:List Opc) (hl:l.length≤1000):Pure Tryz.prog 191 [y'0 l] (ZtC (v'k l 0 0)):=by
 refine Fun.of T [.tmp 2,.tmp 3] Tryz.func191 rfl Tryz.ntmps191 Tryz.results191 rfl (by kernel_rfl) ?_
 repeat' first|refine mq1 @y'q ?_|fail
 refine VC.loop {q:Nat×Int×Int//q.1≤l.length∧(0≤q.2.1∧q.2.1≤q.1)∧(0≤q.2.2∧q.2.2≤q.1)∧v'k l 0 0=v'k (l.drop q.1) q.2.1 q.2.2} (fun q=>⟨z'0 [(4,iD q.1.2.1),(5,iD q.1.2.2),(11,y'0 l),(12,iD (l.length:Nat)),(13,iD (q.1.1:Nat))],[]⟩) (fun q=>l.length-q.1.1) ⟨(0,0,0),by simp⟩ ?_ ?_
 ·refine Weak.sub ?_
  simp[sub,upd]
 ·rintro⟨⟨k,n,most⟩,hk,hn,hm,hF⟩
  dsimp only at hk hn hm hF⊢
  rcases z'g k l.length with hlt|hge
  ·have hd:decide ((k:Int)<(l.length:Int))=true:=by simp;omega
   have hw:IntKind.i64.wrap ((k:Int)+1)=((k+1:Nat):Int):=by rw[w64 (by omega)];omega
   have wa:IntKind.i64.wrap (n+1)=n+1:=by rw[w64 (by omega)]
   have wz:IntKind.i64.wrap (n+0)=n:=by rw[w64 (by omega)];omega
   have ws:IntKind.i64.wrap (n+ -1)=n-1:=by rw[w64 (by omega)];omega
   obtain⟨x,hx⟩: ∃x,l[k]?=some x:=⟨_,z'k hlt⟩
   have hrow:(x'J l)[k]?=some [iD x.1,iD x.2.1,iD x.2.2]:=by rw[ZlX,hx];rfl
   have hdr:l.drop k=x::l.drop (k+1):=by rw[x'4 hlt];congr 1;exact z'W ((z'k hlt).symm.trans hx)
   rw[hdr,Zbh]at hF
   have nxt: ∀n',x'c x.1 n=some n'→0≤n'→n'≤n+1→ ∀(E:Nat→D) (H:Heap),Vc.sub E [(4,iD n'),(5,iD (max most n')),(11,y'0 l),(12,iD (l.length:Nat)),(13,iD ((k+1:Nat):Int))]→
     ∃q':{q:Nat×Int×Int//q.1≤l.length∧(0≤q.2.1∧q.2.1≤q.1)∧(0≤q.2.2∧q.2.2≤q.1)∧v'k l 0 0=v'k (l.drop q.1) q.2.1 q.2.2},Weak ⟨E,H⟩ ⟨z'0 [(4,iD q'.1.2.1),(5,iD q'.1.2.2),(11,y'0 l),(12,iD (l.length:Nat)),(13,iD (q'.1.1:Nat))],[]⟩∧l.length-q'.1.1<l.length-k:=by
    intro n' hs h0 h1 E H hE
    rw[hs]at hF
    exact⟨⟨(k+1,n',max most n'),by simp only[];omega,by simp only[];omega,by simp only[];omega,hF⟩,Weak.subH (z'a _) hE,by simp only[];omega⟩
   have hbad:x'c x.1 n=none→v'k l 0 0=none:=fun h=>by rw[h]at hF;exact hF
   have cl:=Zm0 x.1
   by_cases c1:1≤x.1∧x.1≤4
   ·have a1:decide (x.1≥1)=true:=by simp;omega
    have a4:decide (x.1≤4)=true:=by simp;omega
    have n0:decide (n<0)=false:=by simp;omega
    rw[Zky (by omega)]at cl
    repeat' first|refine mq2 (mqt9 @hd @hw @wa @hrow @a1 @a4 @n0 @w10 @y'q) cl ?_|refine mqn fun bq hbq=>?_|refine .wk ?_ ?_;focus(try omega)|refine vs T rfl fun K hK=>?_;(try simp (disch:=omega) only[go_sem,Nat.reduceBEq,Nat.reduceAdd,Nat.reduceLeDiff,hd,hw,wa,hrow,a1,a4,n0,w10,y'q,z'H,z'P]);(first|refine Zdi rfl rfl rfl ?_;refine hK _ _ ?_;clear hK K)|fail
    refine nxt (n+1) (by simp[x'c,c1]) (by omega) (by omega) _ _ ?_
    simp[sub,upd]
   by_cases c5:x.1=5
   ·have a1:decide (x.1≥1)=true:=by simp;omega
    have a4:decide (x.1≤4)=false:=by simp;omega
    have cl:Pure Tryz.prog 131 [iD x.1] (.tup [.agg [iD 1,fD 192],bD true]):=by rw[c5]at cl⊢;exact cl
    by_cases cn:1≤n
    ·have n0:decide (n<1)=false:=by simp;omega
     repeat' first|refine mq2 (mqt9 @hd @hw @wz @hrow @a1 @a4 @n0 @w11 @y'q) cl ?_|refine mqn fun bq hbq=>?_|refine .wk ?_ ?_;focus(try omega)|refine vs T rfl fun K hK=>?_;(try simp (disch:=omega) only[go_sem,Nat.reduceBEq,Nat.reduceAdd,Nat.reduceLeDiff,hd,hw,wz,hrow,a1,a4,n0,w11,y'q,z'H]);(first|refine Zdi rfl rfl rfl ?_;refine hK _ _ ?_;clear hK K)|fail
     refine nxt n (by unfold x'c;rw[if_neg c1,if_pos ⟨c5,cn⟩]) (by omega) (by omega) _ _ ?_
     simp[sub,upd]
    ·have n0:decide (n<1)=true:=by simp;omega
     have hs:x'c x.1 n=none:=by unfold x'c;rw[if_neg c1,if_neg (by omega),if_neg (by omega)]
     rw[hbad hs]
     repeat' first|refine mq2 (mqt6 @hd @hrow @a1 @a4 @n0 @y'q) cl ?_|refine mqn fun bq hbq=>?_|refine .wk ?_ ?_;focus(try omega)|exact x'n T (z'a _) ⟨rfl,rfl⟩|fail
     all_goals rfl
   by_cases c6:6≤x.1∧x.1≤14
   ·have a1:decide (x.1≥1)=true:=by simp;omega
    have a4:decide (x.1≤4)=false:=by simp;omega
    rw[ZlU c6]at cl
    by_cases cn:2≤n
    ·have n0:decide (n<2)=false:=by simp;omega
     repeat' first|refine mq2 (mqt9 @hd @hw @ws @hrow @a1 @a4 @n0 @w12 @y'q) cl ?_|refine mqn fun bq hbq=>?_|refine .wk ?_ ?_;focus(try omega)|refine vs T rfl fun K hK=>?_;(try simp (disch:=omega) only[go_sem,Nat.reduceBEq,Nat.reduceAdd,Nat.reduceLeDiff,hd,hw,ws,hrow,a1,a4,n0,w12,y'q,z'H]);(first|refine Zdi rfl rfl rfl ?_;refine hK _ _ ?_;clear hK K)|fail
     refine nxt (n-1) (by unfold x'c;rw[if_neg c1,if_neg (by omega),if_pos ⟨c6,cn⟩]) (by omega) (by omega) _ _ ?_
     simp[sub,upd]
    ·have n0:decide (n<2)=true:=by simp;omega
     have hs:x'c x.1 n=none:=by unfold x'c;rw[if_neg c1,if_neg (by omega),if_neg (by omega)]
     rw[hbad hs]
     repeat' first|refine mq2 (mqt6 @hd @hrow @a1 @a4 @n0 @y'q) cl ?_|refine mqn fun bq hbq=>?_|refine .wk ?_ ?_;focus(try omega)|exact x'n T (z'a _) ⟨rfl,rfl⟩|fail
     all_goals rfl
   have hs:x'c x.1 n=none:=by unfold x'c;rw[if_neg c1,if_neg (by omega),if_neg (by omega)]
   rw[hbad hs]
   rw[Zky (by omega)]at cl
   by_cases d1:x.1≥1
   ·have a1:decide (x.1≥1)=true:=by simpa using d1
    have a4:decide (x.1≤4)=false:=by simp;omega
    repeat' first|refine mq2 (mqt5 @hd @hrow @a1 @a4 @y'q) cl ?_|refine mqn fun bq hbq=>?_|refine .wk ?_ ?_;focus(try omega)|exact x'n T (z'a _) ⟨rfl,rfl⟩|fail
    all_goals rfl
   ·have a1:decide (x.1≥1)=false:=by simpa using d1
    repeat' first|refine mq2 (mqt4 @hd @hrow @a1 @y'q) cl ?_|refine mqn fun bq hbq=>?_|refine .wk ?_ ?_;focus(try omega)|exact x'n T (z'a _) ⟨rfl,rfl⟩|fail
    all_goals rfl
  ·have hd:decide ((k:Int)<(l.length:Int))=false:=by simp;omega
   rw[x'Y hge]at hF
   rw[hF]
   repeat' first|refine mq1 @hd ?_|exact x'n T (z'a _) ⟨rfl,rfl⟩|fail
   all_goals rfl
theorem Zqb (l:List Opc) (hl:l.length≤1000) (rs:List Int) (hrs:rs.length≤1000) (own locs:Int):Pure Tryz.prog 130 [y'0 l,w'H rs,iD own,iD locs] (bD (v'j l rs own locs)):=by
 refine Fun.of T [.tmp 8] Tryz.func130 rfl Tryz.ntmps130 Tryz.results130 rfl (by kernel_rfl) ?_
 repeat' first|refine mq1 @y'q ?_|fail
 refine VC.loop {k:Nat//k≤l.length∧ ∀(i:Nat) (y:Opc),i<k→l[i]?=some y→x'x rs own locs y=true} (fun p=>⟨z'0 [(0,y'0 l),(1,w'H rs),(2,iD own),(3,iD locs),(14,y'0 l),(15,iD (l.length:Nat)),(16,iD (p.1:Nat))],[]⟩) (fun p=>l.length-p.1) ⟨0,by omega,fun i y hi=>by omega⟩ ?_ ?_
 ·refine Weak.sub ?_
  simp[sub,upd]
 ·rintro⟨k,hk,hs⟩
  dsimp only
  rcases z'g k l.length with hlt|hge
  ·have hd:decide ((k:Int)<(l.length:Int))=true:=by simp;omega
   have hw:IntKind.i64.wrap ((k:Int)+1)=((k+1:Nat):Int):=by rw[w64 (by omega)];omega
   obtain⟨x,hx⟩: ∃x,l[k]?=some x:=⟨_,z'k hlt⟩
   have hrow:(x'J l)[k]?=some [iD x.1,iD x.2.1,iD x.2.2]:=by rw[ZlX,hx];rfl
   have nxt:x'x rs own locs x=true→ ∀{H:Heap} (E:Nat→D),Vc.sub E [(0,y'0 l),(1,w'H rs),(2,iD own),(3,iD locs),(14,y'0 l),(15,iD (l.length:Nat)),(16,iD ((k+1:Nat):Int))]→
     ∃k':{k:Nat//k≤l.length∧ ∀(i:Nat) (y:Opc),i<k→l[i]?=some y→x'x rs own locs y=true},Weak ⟨E,H⟩ ⟨z'0 [(0,y'0 l),(1,w'H rs),(2,iD own),(3,iD locs),(14,y'0 l),(15,iD (l.length:Nat)),(16,iD (k'.1:Nat))],[]⟩∧l.length-k'.1<l.length-k:=
    fun h H E hE=>⟨⟨k+1,by omega,Zmf hs hx h⟩,Weak.subH (z'a _) hE,by simp only[];omega⟩
   have bad:x'x rs own locs x=false→v'j l rs own locs=false:=fun h=>by
    unfold v'j
    rw[Zll hx h];rfl
   by_cases h1:x.1=1
   ·have e1:(x.1 == 1)=true:=by simpa using h1
    by_cases n0:x.2.1<0
    ·have m0:decide (x.2.1<0)=true:=by simpa using n0
     have hok:x'x rs own locs x=false:=by simp only[x'x,h1,if_true,if_false,inB];simp;omega
     rw[bad hok]
     repeat' first|refine mq1 (mqt5 @hd @hrow @y'q @e1 @m0) ?_|refine mqn fun bq hbq=>?_|refine .wk ?_ ?_;focus(try omega)|exact z'r T (z'a _) ⟨rfl,rfl⟩|fail
    have m0:decide (x.2.1<0)=false:=by simpa using n0
    by_cases n1:x.2.1≥10000
    ·have m1:decide (x.2.1≥10000)=true:=by simpa using n1
     have hok:x'x rs own locs x=false:=by simp only[x'x,h1,if_true,if_false,inB];simp;omega
     rw[bad hok]
     repeat' first|refine mq1 (mqt6 @hd @hrow @y'q @e1 @m0 @m1) ?_|refine mqn fun bq hbq=>?_|refine .wk ?_ ?_;focus(try omega)|exact z'r T (z'a _) ⟨rfl,rfl⟩|fail
    have m1:decide (x.2.1≥10000)=false:=by simpa using n1
    have hok:x'x rs own locs x=true:=by simp only[x'x,h1,if_true,if_false,inB];simp;omega
    repeat' first|refine mq1 (mqt7 @hd @hw @hrow @y'q @e1 @m0 @m1) ?_|refine mqn fun bq hbq=>?_|refine .wk ?_ ?_;focus(try omega)|fail
    refine nxt hok _ ?_
    simp[sub,upd]
   have e1:(x.1 == 1)=false:=by simpa using h1
   by_cases h2:x.1=2
   ·have e2:(x.1 == 2)=true:=by simpa using h2
    by_cases n0:x.2.1<0
    ·have m0:decide (x.2.1<0)=true:=by simpa using n0
     have hok:x'x rs own locs x=false:=by simp only[x'x,h2,if_true,if_false,show ¬(2:Int)=1 by decide,inB];simp;omega
     rw[bad hok]
     repeat' first|refine mq1 (mqt6 @hd @hrow @y'q @e1 @e2 @m0) ?_|refine mqn fun bq hbq=>?_|refine .wk ?_ ?_;focus(try omega)|exact z'r T (z'a _) ⟨rfl,rfl⟩|fail
    have m0:decide (x.2.1<0)=false:=by simpa using n0
    by_cases n1:x.2.1≥own
    ·have m1:decide (x.2.1≥own)=true:=by simpa using n1
     have hok:x'x rs own locs x=false:=by simp only[x'x,h2,if_true,if_false,show ¬(2:Int)=1 by decide,inB];simp;omega
     rw[bad hok]
     repeat' first|refine mq1 (mqt7 @hd @hrow @y'q @e1 @e2 @m0 @m1) ?_|refine mqn fun bq hbq=>?_|refine .wk ?_ ?_;focus(try omega)|exact z'r T (z'a _) ⟨rfl,rfl⟩|fail
    have m1:decide (x.2.1≥own)=false:=by simpa using n1
    have hok:x'x rs own locs x=true:=by simp only[x'x,h2,if_true,if_false,show ¬(2:Int)=1 by decide,inB];simp;omega
    repeat' first|refine mq1 (mqt8 @hd @hw @hrow @y'q @e1 @e2 @m0 @m1) ?_|refine mqn fun bq hbq=>?_|refine .wk ?_ ?_;focus(try omega)|fail
    refine nxt hok _ ?_
    simp[sub,upd]
   have e2:(x.1 == 2)=false:=by simpa using h2
   by_cases h3:x.1=3
   ·have e3:(x.1 == 3)=true:=by simpa using h3
    by_cases n0:x.2.1<0
    ·have m0:decide (x.2.1<0)=true:=by simpa using n0
     have hok:x'x rs own locs x=false:=by simp only[x'x,h3,if_true,if_false,show ¬(3:Int)=1 by decide,show ¬(3:Int)=2 by decide,inB];simp;omega
     rw[bad hok]
     repeat' first|refine mq1 (mqt7 @hd @hrow @y'q @e1 @e2 @e3 @m0) ?_|refine mqn fun bq hbq=>?_|refine .wk ?_ ?_;focus(try omega)|exact z'r T (z'a _) ⟨rfl,rfl⟩|fail
    have m0:decide (x.2.1<0)=false:=by simpa using n0
    by_cases n1:x.2.1≥locs
    ·have m1:decide (x.2.1≥locs)=true:=by simpa using n1
     have hok:x'x rs own locs x=false:=by simp only[x'x,h3,if_true,if_false,show ¬(3:Int)=1 by decide,show ¬(3:Int)=2 by decide,inB];simp;omega
     rw[bad hok]
     repeat' first|refine mq1 (mqt8 @hd @hrow @y'q @e1 @e2 @e3 @m0 @m1) ?_|refine mqn fun bq hbq=>?_|refine .wk ?_ ?_;focus(try omega)|exact z'r T (z'a _) ⟨rfl,rfl⟩|fail
    have m1:decide (x.2.1≥locs)=false:=by simpa using n1
    have hok:x'x rs own locs x=true:=by simp only[x'x,h3,if_true,if_false,show ¬(3:Int)=1 by decide,show ¬(3:Int)=2 by decide,inB];simp;omega
    repeat' first|refine mq1 (mqt9 @hd @hw @hrow @y'q @e1 @e2 @e3 @m0 @m1) ?_|refine mqn fun bq hbq=>?_|refine .wk ?_ ?_;focus(try omega)|fail
    refine nxt hok _ ?_
    simp[sub,upd]
   have e3:(x.1 == 3)=false:=by simpa using h3
   by_cases h4:x.1=4
   ·have e4:(x.1 == 4)=true:=by simpa using h4
    by_cases t0:x.2.2≥0
    case neg=>
     have f0:decide (x.2.2≥0)=false:=by simpa using t0
     have hok:x'x rs own locs x=false:=by simp only[x'x,h1,h2,h3,h4,if_true,if_false,show ¬(4:Int)=1 by decide,show ¬(4:Int)=2 by decide,show ¬(4:Int)=3 by decide,inB,f0,x'e]
     rw[bad hok]
     by_cases n0:x.2.1<0
     ·have m0:decide (x.2.1<0)=true:=by simpa using n0
      repeat' first|refine mq1 (mqt9 @hd @hrow @y'q @e1 @e2 @e3 @e4 @f0 @m0) ?_|refine mqn fun bq hbq=>?_|refine .wk ?_ ?_;focus(try omega)|exact z'r T (z'a _) ⟨rfl,rfl⟩|fail
     ·have m0:decide (x.2.1<0)=false:=by simpa using n0
      have m1:decide (x.2.1≥0)=true:=by simp;omega
      repeat' first|refine mq1 (mqt10 @hd @hrow @y'q @e1 @e2 @e3 @e4 @f0 @m0 @m1) ?_|refine mqn fun bq hbq=>?_|refine .wk ?_ ?_;focus(try omega)|exact z'r T (z'a _) ⟨rfl,rfl⟩|fail
    have f0:decide (x.2.2≥0)=true:=by simpa using t0
    by_cases t1:x.2.2<(rs.length:Int)
    case neg=>
     have f1:decide (x.2.2<(rs.length:Int))=false:=by simpa using t1
     have hok:x'x rs own locs x=false:=by simp only[x'x,h1,h2,h3,h4,if_true,if_false,show ¬(4:Int)=1 by decide,show ¬(4:Int)=2 by decide,show ¬(4:Int)=3 by decide,inB,f0,f1,y'g,x'e]
     rw[bad hok]
     by_cases n0:x.2.1<0
     ·have m0:decide (x.2.1<0)=true:=by simpa using n0
      repeat' first|refine mq1 (mqt11 @hd @hrow @y'q @y'T @e1 @e2 @e3 @e4 @f0 @f1 @m0) ?_|refine mqn fun bq hbq=>?_|refine .wk ?_ ?_;focus(try omega)|exact z'r T (z'a _) ⟨rfl,rfl⟩|fail
     ·have m0:decide (x.2.1<0)=false:=by simpa using n0
      have m1:decide (x.2.1≥0)=true:=by simp;omega
      repeat' first|refine mq1 (mqt12 @hd @hrow @y'q @y'T @e1 @e2 @e3 @e4 @f0 @f1 @m0 @m1) ?_|refine mqn fun bq hbq=>?_|refine .wk ?_ ?_;focus(try omega)|exact z'r T (z'a _) ⟨rfl,rfl⟩|fail
    have f1:decide (x.2.2<(rs.length:Int))=true:=by simpa using t1
    obtain⟨r,hr⟩: ∃r,rs[x.2.2.toNat]?=some r:=⟨_,z'k (by omega)⟩
    have hrr:(iRs rs)[x.2.2.toNat]?=some [iD r]:=by rw[Ze9,hr];rfl
    by_cases n0:x.2.1<0
    ·have m0:decide (x.2.1<0)=true:=by simpa using n0
     have hok:x'x rs own locs x=false:=by simp only[x'x,h1,h2,h3,h4,if_true,if_false,show ¬(4:Int)=1 by decide,show ¬(4:Int)=2 by decide,show ¬(4:Int)=3 by decide,inB,f0,f1,hr,z'B,y'g];simp;omega
     rw[bad hok]
     repeat' first|refine mq1 (mqt12 @hd @hrow @y'q @e1 @e2 @e3 @e4 @f0 @f1 @hrr @y'T @m0) ?_|refine mqn fun bq hbq=>?_|refine .wk ?_ ?_;focus(try omega)|exact z'r T (z'a _) ⟨rfl,rfl⟩|fail
    have m0:decide (x.2.1<0)=false:=by simpa using n0
    by_cases n1:x.2.1≥r
    ·have m1:decide (x.2.1≥r)=true:=by simpa using n1
     have hok:x'x rs own locs x=false:=by simp only[x'x,h1,h2,h3,h4,if_true,if_false,show ¬(4:Int)=1 by decide,show ¬(4:Int)=2 by decide,show ¬(4:Int)=3 by decide,inB,f0,f1,hr,z'B,y'g];simp;omega
     rw[bad hok]
     repeat' first|refine mq1 (mqt13 @hd @hrow @y'q @e1 @e2 @e3 @e4 @f0 @f1 @hrr @y'T @m0 @m1) ?_|refine mqn fun bq hbq=>?_|refine .wk ?_ ?_;focus(try omega)|exact z'r T (z'a _) ⟨rfl,rfl⟩|fail
    have m1:decide (x.2.1≥r)=false:=by simpa using n1
    have hok:x'x rs own locs x=true:=by simp only[x'x,h1,h2,h3,h4,if_true,if_false,show ¬(4:Int)=1 by decide,show ¬(4:Int)=2 by decide,show ¬(4:Int)=3 by decide,inB,f0,f1,hr,z'B,y'g];simp;omega
    repeat' first|refine mq1 (mqt14 @hd @hw @hrow @y'q @e1 @e2 @e3 @e4 @f0 @f1 @hrr @y'T @m0 @m1) ?_|refine mqn fun bq hbq=>?_|refine .wk ?_ ?_;focus(try omega)|fail
    refine nxt hok _ ?_
    simp[sub,upd]
   have e4:(x.1 == 4)=false:=by simpa using h4
   have hok:x'x rs own locs x=true:=by simp[x'x,h1,h2,h3,h4]
   repeat' first|refine mq1 (mqt8 @hd @hw @hrow @y'q @e1 @e2 @e3 @e4) ?_|refine mqn fun bq hbq=>?_|refine .wk ?_ ?_;focus(try omega)|fail
   refine nxt hok _ ?_
   simp[sub,upd]
  ·have hd:decide ((k:Int)<(l.length:Int))=false:=by simp;omega
   have hA:v'j l rs own locs=oneL (v'k l 0 0):=by
    unfold v'j
    rw[Znu fun i y hi hy=>hs i y (by omega) hy];rfl
   rw[hA]
   have cl:=Zrq l hl
   cases hL:v'k l 0 0 with
   |none=>
    rw[hL]at cl
    have cl':Pure Tryz.prog 191 [y'0 l] (.tup [iD (-1),iD (-1)]):=cl
    repeat' first|refine mq2 @hd cl' ?_|exact z'r T (z'a _) ⟨rfl,rfl⟩|fail
    all_goals rfl
   |some p=>
    rw[hL]at cl
    have cl':Pure Tryz.prog 191 [y'0 l] (.tup [iD p.1,iD p.2]):=cl
    repeat' first|refine mq2 @hd cl' ?_|exact z'r T (z'a _) ⟨rfl,rfl⟩|fail
    all_goals rfl
end Go.Proofs.YthlkpnjjkgmlkaaGreat
