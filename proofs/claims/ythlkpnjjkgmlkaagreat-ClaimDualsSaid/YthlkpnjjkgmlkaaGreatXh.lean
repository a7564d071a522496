/- Contracts: what operators do; the parts of instructions. No condition. -/
import Derived.Test.YthlkpnjjkgmlkaaGreatXe
import Derived.Test.YthlkpnjjkgmlkaaGreatK2
namespace Go.Proofs.YthlkpnjjkgmlkaaGreat
set_option maxHeartbeats 16000000
set_option linter.unusedSimpArgs false
set_option linter.unusedVariables false
set_option maxRecDepth 20000
open Go Go.Proofs Go.Vc
attribute [local irreducible] x'v VCg VCw VCx
def tI (b:Bool):Int:=match b with|true=>1|false=>0
theorem w'z (b:Bool):Pure Tryz.prog 83 [bD b] (iD (tI b)):=by
 refine Fun.of T [.tmp 2] Tryz.func83 rfl Tryz.ntmps83 Tryz.results83 rfl (by kernel_rfl) ?_
 cases b
 ·repeat' first|refine mq0 ?_|exact z'p T (z'a _) ⟨rfl,rfl⟩|fail
 ·repeat' first|refine mq0 ?_|exact z'p T (z'a _) ⟨rfl,rfl⟩|fail
theorem x'm (n m:Int):Pure Tryz.prog 253 [iD n,iD m] (bD (inB n m)):=by
 refine Fun.of T [.tmp 4] Tryz.func253 rfl Tryz.ntmps253 Tryz.results253 rfl (by kernel_rfl) ?_
 repeat' first|refine mq0 ?_|refine z'p T (z'a _) ?_;(try simp only[upd,Nat.reduceBEq,cond_true,cond_false,and_true])|with_reducible refine z'n (fun hc=>?_) (fun hc=>?_)|fail
 all_goals first|(simp_all[inB];done)|(simp_all[inB];omega)
def x'B (op a b md:Int):Int:=
 if op=6 then(a+b).tmod md else if op=7 then(a-b+md).tmod md else if op=8 then(a*b).tmod md else if op=9 then tI (a == b)else if op=10 then tI (a != b)
 else if op=11 then tI (decide (a<b))else if op=12 then tI (decide (a≤b))else if op=13 then tI ((a != 0)&&(b != 0))else tI ((a != 0)||(b != 0))
theorem ZrP (op a b md:Int) (ha:0≤a∧a≤100000) (hb:0≤b∧b≤100000) (hm:0<md∧md≤100000):Pure Tryz.prog 84 [iD op,iD a,iD b,iD md] (iD (x'B op a b md)):=by
 have hab:0≤a*b∧a*b≤10000000000:=⟨Int.mul_nonneg ha.1 hb.1,by
  have:=Int.mul_le_mul ha.2 hb.2 hb.1 (by decide:(0:Int)≤100000)
  omega⟩
 have w1:IntKind.i64.wrap (a+b)=a+b:=by rw[w64 (by omega)]
 have w2:IntKind.i64.wrap (a-b)=a-b:=by rw[w64 (by omega)]
 have w3:IntKind.i64.wrap (a-b+md)=a-b+md:=by rw[w64 (by omega)]
 have w4:IntKind.i64.wrap (a*b)=a*b:=by rw[w64 (by omega)]
 have hmd:md≠0:=by omega
 refine Fun.of T [.tmp 8] Tryz.func84 rfl Tryz.ntmps84 Tryz.results84 rfl (by kernel_rfl) ?_
 by_cases h6:op=6
 ·subst h6
  repeat' first|refine mq1 (z'X @w1 @hmd) ?_|exact z'p T (z'a _) ⟨rfl,rfl⟩|fail
  all_goals first|rfl|(simp_all[x'B,tI];done)
 have e6:(op == 6)=false:=by simpa using h6
 by_cases h7:op=7
 ·subst h7
  repeat' first|refine mq1 (x'i @w2 @w3 @hmd) ?_|exact z'p T (z'a _) ⟨rfl,rfl⟩|fail
  all_goals first|rfl|(simp_all[x'B,tI];done)
 have e7:(op == 7)=false:=by simpa using h7
 by_cases h8:op=8
 ·subst h8
  repeat' first|refine mq1 (z'X @w4 @hmd) ?_|exact z'p T (z'a _) ⟨rfl,rfl⟩|fail
  all_goals first|rfl|(simp_all[x'B,tI];done)
 have e8:(op == 8)=false:=by simpa using h8
 by_cases h9:op=9
 ·subst h9
  repeat' first|refine mq3 (w'z ·) ?_|exact z'p T (z'a _) ⟨rfl,rfl⟩|fail
  all_goals first|rfl|(simp_all[x'B,tI];done)
 have e9:(op == 9)=false:=by simpa using h9
 by_cases h10:op=10
 ·subst h10
  repeat' first|refine mq3 (w'z ·) ?_|exact z'p T (z'a _) ⟨rfl,rfl⟩|fail
  all_goals first|rfl|(simp_all[x'B,tI];done)
 have e10:(op == 10)=false:=by simpa using h10
 by_cases h11:op=11
 ·subst h11
  repeat' first|refine mq3 (w'z ·) ?_|exact z'p T (z'a _) ⟨rfl,rfl⟩|fail
  all_goals first|rfl|(simp_all[x'B,tI];done)
 have e11:(op == 11)=false:=by simpa using h11
 by_cases h12:op=12
 ·subst h12
  repeat' first|refine mq3 (w'z ·) ?_|exact z'p T (z'a _) ⟨rfl,rfl⟩|fail
  all_goals first|rfl|(simp_all[x'B,tI];done)
 have e12:(op == 12)=false:=by simpa using h12
 by_cases h13:op=13
 ·subst h13
  rcases hA:(a != 0)<;>rcases hB:(b != 0)
  ·have hz:x'B 13 a b md=0:=by simp[x'B,hA,hB,tI]
   rw[hz]
   repeat' first|refine mq2 (z'X @hA @tI.eq_1) (w'z ·) ?_|exact z'p T (z'a _) ⟨rfl,rfl⟩|fail
  ·have hz:x'B 13 a b md=0:=by simp[x'B,hA,hB,tI]
   rw[hz]
   repeat' first|refine mq2 (z'X @hA @tI.eq_1) (w'z ·) ?_|exact z'p T (z'a _) ⟨rfl,rfl⟩|fail
  ·have hz:x'B 13 a b md=0:=by simp[x'B,hA,hB,tI]
   rw[hz]
   repeat' first|refine mq2 (x'i @hA @hB @tI.eq_1) (w'z ·) ?_|exact z'p T (z'a _) ⟨rfl,rfl⟩|fail
  ·have hz:x'B 13 a b md=1:=by simp[x'B,hA,hB,tI]
   rw[hz]
   repeat' first|refine mq2 (x'i @hA @hB @tI.eq_1) (w'z ·) ?_|exact z'p T (z'a _) ⟨rfl,rfl⟩|fail
 have e13:(op == 13)=false:=by simpa using h13
 rcases hA:(a != 0)<;>rcases hB:(b != 0)
 ·have hz:x'B op a b md=0:=by simp only[x'B,h6,h7,h8,h9,h10,h11,h12,h13,if_false,hA,hB];rfl
  rw[hz]
  repeat' first|refine mq2 (Zdc @e6 @e7 @e8 @e9 @e10 @e11 @e12 @e13 @hA @hB @tI.eq_1) (w'z ·) ?_|exact z'p T (z'a _) ⟨rfl,rfl⟩|fail
 ·have hz:x'B op a b md=1:=by simp only[x'B,h6,h7,h8,h9,h10,h11,h12,h13,if_false,hA,hB];rfl
  rw[hz]
  repeat' first|refine mq2 (Zdc @e6 @e7 @e8 @e9 @e10 @e11 @e12 @e13 @hA @hB @tI.eq_1) (w'z ·) ?_|exact z'p T (z'a _) ⟨rfl,rfl⟩|fail
 ·have hz:x'B op a b md=1:=by simp only[x'B,h6,h7,h8,h9,h10,h11,h12,h13,if_false,hA,hB];rfl
  rw[hz]
  repeat' first|refine mq2 (Zaa @e6 @e7 @e8 @e9 @e10 @e11 @e12 @e13 @hA @tI.eq_1) (w'z ·) ?_|exact z'p T (z'a _) ⟨rfl,rfl⟩|fail
 ·have hz:x'B op a b md=1:=by simp only[x'B,h6,h7,h8,h9,h10,h11,h12,h13,if_false,hA,hB];rfl
  rw[hz]
  repeat' first|refine mq2 (Zaa @e6 @e7 @e8 @e9 @e10 @e11 @e12 @e13 @hA @tI.eq_1) (w'z ·) ?_|exact z'p T (z'a _) ⟨rfl,rfl⟩|fail
def z'8 (s:ByteArray) (c:UInt8):Bool:=s.data.toList.any fun x=>decide (x=c)
theorem z'0 (s:ByteArray) (hs:s.size≤1000) (c:UInt8):Pure Tryz.prog 252 [sD s,.is (.int .u8 c.toNat)] (bD (z'8 s c)):=by
 have hsz:s.data.toList.length=s.size:=y'a
 refine Fun.of T [.tmp 4] Tryz.func252 rfl Tryz.ntmps252 Tryz.results252 rfl (by kernel_rfl) ?_
 repeat' first|refine mq0 ?_|fail
 refine VC.loop {k:Nat//k≤s.size∧ ∀(i:Nat) (y:UInt8),i<k→s.data.toList[i]?=some y→ ¬y=c} (fun p=>⟨z'T [(0,sD s),(1,.is (.int .u8 c.toNat)),(5,iD (p.1:Nat))],[]⟩) (fun p=>s.size-p.1) ⟨0,by omega,fun i y hi=>by omega⟩ ?_ ?_
 ·refine Weak.sub ?_
  simp[sub,upd]
 ·rintro⟨k,hk,hno⟩
  dsimp only
  rcases z'i k s.size with hlt|hge
  ·have hd:decide ((k:Int)<(s.size:Int))=true:=by simp;omega
   have hw:IntKind.i64.wrap ((k:Int)+1)=((k+1:Nat):Int):=by rw[w64 (by omega)];omega
   obtain⟨y,hy⟩: ∃y,s.data.toList[k]?=some y:=⟨_,z'c (by omega)⟩
   have hg:s.data.toList.getD k 0=y:=by rw[z'g,hy];rfl
   by_cases he:y=c
   ·have he':((y.toNat:Int) == (c.toNat:Int))=true:=by rw[he];simp
    have hr:z'8 s c=true:=by
     unfold z'8
     rw[List.any_eq_true]
     exact⟨y,z'l hy,by simpa using he⟩
    rw[hr]
    repeat' first|refine mq1 (x'i @hd @hg @he') ?_|refine .wk ?_ ?_;focus(try omega)|exact z'p T (z'a _) ⟨rfl,rfl⟩|fail
   ·have he':((y.toNat:Int) == (c.toNat:Int))=false:=by
     rw[beq_eq_false_iff_ne]
     intro h
     exact he (UInt8.toNat.inj (by omega))
    repeat' first|refine mq1 (x'f @hd @hw @hg @he') ?_|refine .wk ?_ ?_;focus(try omega)|fail
    refine⟨⟨k+1,by omega,fun i z hi hz=>?_⟩,Weak.sub ?_,by simp only[];omega⟩
    ·rcases z'i i k with h'|h'
     ·exact hno i z h' hz
     ·obtain rfl:i=k:=by omega
      rw[hy]at hz;cases hz;exact he
    ·simp[sub,upd]
  ·have hd:decide ((k:Int)<(s.size:Int))=false:=by simp;omega
   have hr:z'8 s c=false:=by
    unfold z'8
    rw[List.any_eq_false]
    intro y hy
    obtain⟨i,hi⟩:=y'k hy
    simpa using hno i y (by have:=(z'b.1 hi).1;omega) hi
   rw[hr]
   repeat' first|refine mq1 @hd ?_|exact z'p T (z'a _) ⟨rfl,rfl⟩|fail
def Zgh (op:Int):Option ByteArray:=
 if op=2 then some ⟨#[114,101]⟩else
 if op=3 then some ⟨#[114,108]⟩else
 if op=4 then some ⟨#[108,101]⟩else
 if op=5 then some ⟨#[114,108,101,102]⟩else
 if op=6 then some ⟨#[114,108,101]⟩else
 if op=7 then some ⟨#[114,108,101]⟩else
 if op=8 then some ⟨#[]⟩else
 if op=9 then some ⟨#[108,101,110]⟩else
 if op=20 then some ⟨#[116]⟩else
 if op=21 then some ⟨#[101,116]⟩else none
def Zbb (o:Option ByteArray):D:= .tup [sD (o.getD ⟨#[]⟩),bD o.isSome]
theorem w'T (op:Int):Pure Tryz.prog 251 [iD op] (Zbb (Zgh op)):=by
 refine Fun.of T [.tmp 2,.tmp 3] Tryz.func251 rfl Tryz.ntmps251 Tryz.results251 rfl (by kernel_rfl) ?_
 by_cases h2:op=2
 ·subst h2
  repeat' first|refine mq0 ?_|exact y'B T (z'a _) ⟨rfl,rfl⟩|fail
  all_goals rfl
 have e2:(op == 2)=false:=by simpa using h2
 by_cases h3:op=3
 ·subst h3
  repeat' first|refine mq0 ?_|exact y'B T (z'a _) ⟨rfl,rfl⟩|fail
  all_goals rfl
 have e3:(op == 3)=false:=by simpa using h3
 by_cases h4:op=4
 ·subst h4
  repeat' first|refine mq0 ?_|exact y'B T (z'a _) ⟨rfl,rfl⟩|fail
  all_goals rfl
 have e4:(op == 4)=false:=by simpa using h4
 by_cases h5:op=5
 ·subst h5
  repeat' first|refine mq0 ?_|exact y'B T (z'a _) ⟨rfl,rfl⟩|fail
  all_goals rfl
 have e5:(op == 5)=false:=by simpa using h5
 by_cases h6:op=6
 ·subst h6
  repeat' first|refine mq0 ?_|exact y'B T (z'a _) ⟨rfl,rfl⟩|fail
  all_goals rfl
 have e6:(op == 6)=false:=by simpa using h6
 by_cases h7:op=7
 ·subst h7
  repeat' first|refine mq0 ?_|exact y'B T (z'a _) ⟨rfl,rfl⟩|fail
  all_goals rfl
 have e7:(op == 7)=false:=by simpa using h7
 by_cases h8:op=8
 ·subst h8
  repeat' first|refine mq0 ?_|exact y'B T (z'a _) ⟨rfl,rfl⟩|fail
  all_goals rfl
 have e8:(op == 8)=false:=by simpa using h8
 by_cases h9:op=9
 ·subst h9
  repeat' first|refine mq0 ?_|exact y'B T (z'a _) ⟨rfl,rfl⟩|fail
  all_goals rfl
 have e9:(op == 9)=false:=by simpa using h9
 by_cases h20:op=20
 ·subst h20
  repeat' first|refine mq0 ?_|exact y'B T (z'a _) ⟨rfl,rfl⟩|fail
  all_goals rfl
 have e20:(op == 20)=false:=by simpa using h20
 by_cases h21:op=21
 ·subst h21
  repeat' first|refine mq0 ?_|exact y'B T (z'a _) ⟨rfl,rfl⟩|fail
  all_goals rfl
 have e21:(op == 21)=false:=by simpa using h21
 have hz:Zgh op=none:=by simp only[Zgh,h2,h3,h4,h5,h6,h7,h8,h9,h20,h21,if_false]
 rw[hz]
 repeat' first|refine mq1 (Zaa @e2 @e3 @e4 @e5 @e6 @e7 @e8 @e9 @e20 @e21) ?_|exact y'B T (z'a _) ⟨rfl,rfl⟩|fail
 all_goals rfl
def v'M (x:Ins):Bool:=decide (x.op=22)&&(decide (x.reg=0)&&(decide (x.loc=0)&&(decide (x.e.length=0)&&(decide (x.f.length=0)&&(!x.ne&&decide (x.to=0))))))
theorem ZoZ (x:Ins):Pure Tryz.prog 203 [.agg (insR x)] (bD (v'M x)):=by
 obtain⟨op,reg,loc,e,f,ne,to⟩:=x
 have he:((e.length:Int) == 0)=decide (e.length=0):=by rw[x'g];simp
 have hf:((f.length:Int) == 0)=decide (f.length=0):=by rw[x'g];simp
 refine Fun.of T [.tmp 2] Tryz.func203 rfl Tryz.ntmps203 Tryz.results203 rfl (by kernel_rfl) ?_
 by_cases h1:op=22
 ·have e1:(op == 22)=true:=by simpa using h1
  by_cases h2:reg=0
  ·have e2:(reg == 0)=true:=by simpa using h2
   by_cases h3:loc=0
   ·have e3:(loc == 0)=true:=by simpa using h3
    by_cases h4:e.length=0
    ·have e4:((e.length:Int) == 0)=true:=by rw[he];simpa using h4
     by_cases h5:f.length=0
     ·have e5:((f.length:Int) == 0)=true:=by rw[hf];simpa using h5
      cases ne with
      |false=>
       have hd:v'M ⟨op,reg,loc,e,f,false,to⟩=(to == 0):=by simp only[v'M,h1,h2,h3,h4,h5];rfl
       rw[hd]
       repeat' first|refine vb rfl rfl rfl rfl ?_|refine mq1 (v'p @insR.eq_1 @e1 @e2 @e3 @e4 @e5 @z'C) ?_|exact z'p T (z'a _) ⟨rfl,rfl⟩|fail
      |true=>
       have hd:v'M ⟨op,reg,loc,e,f,true,to⟩=false:=by simp[v'M]
       rw[hd]
       repeat' first|refine vb rfl rfl rfl rfl ?_|refine mq1 (v'p @insR.eq_1 @e1 @e2 @e3 @e4 @e5 @z'C) ?_|exact z'p T (z'a _) ⟨rfl,rfl⟩|fail
     ·have e5:((f.length:Int) == 0)=false:=by rw[hf];simpa using h5
      have hd:v'M ⟨op,reg,loc,e,f,ne,to⟩=false:=by simp only[v'M,decide_eq_false h5];simp
      rw[hd]
      repeat' first|refine vb rfl rfl rfl rfl ?_|refine mq1 (v'p @insR.eq_1 @e1 @e2 @e3 @e4 @e5 @z'C) ?_|exact z'p T (z'a _) ⟨rfl,rfl⟩|fail
    ·have e4:((e.length:Int) == 0)=false:=by rw[he];simpa using h4
     have hd:v'M ⟨op,reg,loc,e,f,ne,to⟩=false:=by simp only[v'M,decide_eq_false h4];simp
     rw[hd]
     repeat' first|refine vb rfl rfl rfl rfl ?_|refine mq1 (x'V @insR.eq_1 @e1 @e2 @e3 @e4 @z'C) ?_|exact z'p T (z'a _) ⟨rfl,rfl⟩|fail
   ·have e3:(loc == 0)=false:=by simpa using h3
    have hd:v'M ⟨op,reg,loc,e,f,ne,to⟩=false:=by simp only[v'M,decide_eq_false h3];simp
    rw[hd]
    repeat' first|refine vb rfl rfl rfl rfl ?_|refine mq1 (x'f @insR.eq_1 @e1 @e2 @e3) ?_|exact z'p T (z'a _) ⟨rfl,rfl⟩|fail
  ·have e2:(reg == 0)=false:=by simpa using h2
   have hd:v'M ⟨op,reg,loc,e,f,ne,to⟩=false:=by simp only[v'M,decide_eq_false h2];simp
   rw[hd]
   repeat' first|refine vb rfl rfl rfl rfl ?_|refine mq1 (x'i @insR.eq_1 @e1 @e2) ?_|exact z'p T (z'a _) ⟨rfl,rfl⟩|fail
 ·have e1:(op == 22)=false:=by simpa using h1
  have hd:v'M ⟨op,reg,loc,e,f,ne,to⟩=false:=by simp only[v'M,decide_eq_false h1];simp
  rw[hd]
  repeat' first|refine vb rfl rfl rfl rfl ?_|refine mq1 (z'X @insR.eq_1 @e1) ?_|exact z'p T (z'a _) ⟨rfl,rfl⟩|fail
theorem ZbF (b:Bool):Pure Tryz.prog 193 [bD b] (iD (tI b)):=by
 refine Fun.of T [.tmp 2] Tryz.func193 rfl Tryz.ntmps193 Tryz.results193 rfl (by kernel_rfl) ?_
 cases b
 ·repeat' first|refine mq0 ?_|exact z'p T (z'a _) ⟨rfl,rfl⟩|fail
 ·repeat' first|refine mq0 ?_|exact z'p T (z'a _) ⟨rfl,rfl⟩|fail
theorem Zum (a b md:Int):Pure Tryz.prog 192 [iD a,iD b,iD md] (iD (tI (b == 0))):=by
 refine Fun.of T [.tmp 6] Tryz.func192 rfl Tryz.ntmps192 Tryz.results192 rfl (by kernel_rfl) ?_
 repeat' first|refine mq3 (ZbF ·) ?_|exact z'p T (z'a _) ⟨rfl,rfl⟩|fail
def fnO (op:Int):Nat:=if op=6 then 194 else if op=7 then 195 else if op=8 then 196 else if op=9 then 197 else if op=10 then 198 else if op=11 then 199
 else if op=12 then 200 else if op=13 then 201 else 202
theorem Zu7 (op a b md:Int) (h:6≤op∧op≤14) (ha:0≤a∧a≤100000) (hb:0≤b∧b≤100000) (hm:0<md∧md≤100000):Pure Tryz.prog (fnO op) [iD a,iD b,iD md] (iD (x'B op a b md)):=by
 have hab:0≤a*b∧a*b≤10000000000:=⟨Int.mul_nonneg ha.1 hb.1,by
  have:=Int.mul_le_mul ha.2 hb.2 hb.1 (by decide:(0:Int)≤100000)
  omega⟩
 have w1:IntKind.i64.wrap (a+b)=a+b:=by rw[w64 (by omega)]
 have w2:IntKind.i64.wrap (a+md)=a+md:=by rw[w64 (by omega)]
 have w3:IntKind.i64.wrap (a+md-b)=a+md-b:=by rw[w64 (by omega)]
 have w4:IntKind.i64.wrap (a*b)=a*b:=by rw[w64 (by omega)]
 have hmd:md≠0:=by omega
 by_cases h6:op=6
 ·subst h6
  show Pure Tryz.prog 194 _ _
  refine Fun.of T [.tmp 6] Tryz.func194 rfl Tryz.ntmps194 Tryz.results194 rfl (by kernel_rfl) ?_
  repeat' first|refine mq1 (z'X @w1 @hmd) ?_|exact z'p T (z'a _) ⟨rfl,rfl⟩|fail
  all_goals first|rfl|(simp_all[x'B,tI];done)
 by_cases h7:op=7
 ·subst h7
  show Pure Tryz.prog 195 _ _
  have e:x'B 7 a b md=(a+md-b).tmod md:=by simp[x'B];congr 1;omega
  rw[e]
  refine Fun.of T [.tmp 6] Tryz.func195 rfl Tryz.ntmps195 Tryz.results195 rfl (by kernel_rfl) ?_
  repeat' first|refine mq1 (x'i @w2 @w3 @hmd) ?_|exact z'p T (z'a _) ⟨rfl,rfl⟩|fail
  all_goals first|rfl|(simp_all[x'B,tI];done)
 by_cases h8:op=8
 ·subst h8
  show Pure Tryz.prog 196 _ _
  refine Fun.of T [.tmp 6] Tryz.func196 rfl Tryz.ntmps196 Tryz.results196 rfl (by kernel_rfl) ?_
  repeat' first|refine mq1 (z'X @w4 @hmd) ?_|exact z'p T (z'a _) ⟨rfl,rfl⟩|fail
  all_goals first|rfl|(simp_all[x'B,tI];done)
 by_cases h9:op=9
 ·subst h9
  show Pure Tryz.prog 197 _ _
  refine Fun.of T [.tmp 6] Tryz.func197 rfl Tryz.ntmps197 Tryz.results197 rfl (by kernel_rfl) ?_
  repeat' first|refine mq3 (ZbF ·) ?_|exact z'p T (z'a _) ⟨rfl,rfl⟩|fail
  all_goals first|rfl|(simp_all[x'B,tI];done)
 by_cases h10:op=10
 ·subst h10
  show Pure Tryz.prog 198 _ _
  refine Fun.of T [.tmp 6] Tryz.func198 rfl Tryz.ntmps198 Tryz.results198 rfl (by kernel_rfl) ?_
  repeat' first|refine mq3 (ZbF ·) ?_|exact z'p T (z'a _) ⟨rfl,rfl⟩|fail
  all_goals first|rfl|(simp_all[x'B,tI];done)
 by_cases h11:op=11
 ·subst h11
  show Pure Tryz.prog 199 _ _
  refine Fun.of T [.tmp 6] Tryz.func199 rfl Tryz.ntmps199 Tryz.results199 rfl (by kernel_rfl) ?_
  repeat' first|refine mq3 (ZbF ·) ?_|exact z'p T (z'a _) ⟨rfl,rfl⟩|fail
  all_goals first|rfl|(simp_all[x'B,tI];done)
 by_cases h12:op=12
 ·subst h12
  show Pure Tryz.prog 200 _ _
  refine Fun.of T [.tmp 6] Tryz.func200 rfl Tryz.ntmps200 Tryz.results200 rfl (by kernel_rfl) ?_
  repeat' first|refine mq3 (ZbF ·) ?_|exact z'p T (z'a _) ⟨rfl,rfl⟩|fail
  all_goals first|rfl|(simp_all[x'B,tI];done)
 by_cases h13:op=13
 ·subst h13
  show Pure Tryz.prog 201 _ _
  have e:x'B 13 a b md=tI (a*b != 0):=by
   simp only[x'B]
   simp only[show ¬((13:Int)=6) by decide,show ¬((13:Int)=7) by decide,show ¬((13:Int)=8) by decide,show ¬((13:Int)=9) by decide,show ¬((13:Int)=10) by decide,show ¬((13:Int)=11) by decide,show ¬((13:Int)=12) by decide,if_false,if_true]
   congr 1
   rw[x'g]
   simp[Int.mul_eq_zero]
  rw[e]
  refine Fun.of T [.tmp 6] Tryz.func201 rfl Tryz.ntmps201 Tryz.results201 rfl (by kernel_rfl) ?_
  repeat' first|refine mq2 @w4 (ZbF ·) ?_|exact z'p T (z'a _) ⟨rfl,rfl⟩|fail
  all_goals first|rfl|(simp_all[x'B,tI];done)
 obtain rfl:op=14:=by omega
 show Pure Tryz.prog 202 _ _
 have e:x'B 14 a b md=tI (a+b != 0):=by
  simp only[x'B]
  simp only[show ¬((14:Int)=6) by decide,show ¬((14:Int)=7) by decide,show ¬((14:Int)=8) by decide,show ¬((14:Int)=9) by decide,show ¬((14:Int)=10) by decide,show ¬((14:Int)=11) by decide,show ¬((14:Int)=12) by decide,show ¬((14:Int)=13) by decide,if_false,if_true]
  congr 1
  rw[x'g]
  simp
  omega
 rw[e]
 refine Fun.of T [.tmp 6] Tryz.func202 rfl Tryz.ntmps202 Tryz.results202 rfl (by kernel_rfl) ?_
 repeat' first|refine mq2 @w1 (ZbF ·) ?_|exact z'p T (z'a _) ⟨rfl,rfl⟩|fail
 all_goals first|rfl|(simp_all[x'B,tI];done)
abbrev fD (f:Nat):D:= .is (.func (.func f) #[] #[])
def ofD (op:Int):D:=if op=5 then .tup [.agg [iD 1,fD 192],bD true]else if 6≤op∧op≤14 then .tup [.agg [iD 2,fD (fnO op)],bD true]else .tup [.agg [iD 0,.is .nilFunc],bD false]
def opTab:List D:=[iD 0,.is .nilFunc,iD 0,.is .nilFunc,iD 0,.is .nilFunc,iD 0,.is .nilFunc,iD 0,.is .nilFunc,iD 1,fD 192,iD 2,fD 194,iD 2,fD 195,iD 2,fD 196,iD 2,fD 197,iD 2,fD 198,iD 2,fD 199,iD 2,fD 200,iD 2,fD 201,iD 2,fD 202]
theorem Zrh (op:Int) (h:5≤op∧op≤14): ∃tk f,(opTab.drop (op.toNat*2)).take 2=[iD tk,fD f]∧ofD op= .tup [.agg [iD tk,fD f],bD true]:=by
 obtain⟨k,rfl⟩: ∃k:Nat,op=(k:Int)+5:=⟨(op-5).toNat,by omega⟩
 have hk:k≤9:=by omega
 match k,hk with
 |0,_=>exact⟨_,_,rfl,rfl⟩
 |1,_=>exact⟨_,_,rfl,rfl⟩
 |2,_=>exact⟨_,_,rfl,rfl⟩
 |3,_=>exact⟨_,_,rfl,rfl⟩
 |4,_=>exact⟨_,_,rfl,rfl⟩
 |5,_=>exact⟨_,_,rfl,rfl⟩
 |6,_=>exact⟨_,_,rfl,rfl⟩
 |7,_=>exact⟨_,_,rfl,rfl⟩
 |8,_=>exact⟨_,_,rfl,rfl⟩
 |9,_=>exact⟨_,_,rfl,rfl⟩
theorem Zr5 (op:Int):Pure Tryz.prog 131 [iD op] (ofD op):=by
 refine Fun.of T [.cell 2 186,.tmp 3] Tryz.func131 rfl Tryz.ntmps131 Tryz.results131 rfl (by kernel_rfl) ?_
 by_cases h5:op<5
 ·have e5:decide (op<5)=true:=by simpa using h5
  have hD:ofD op= .tup [.agg [iD 0,.is .nilFunc],bD false]:=by unfold ofD;rw[if_neg (by omega),if_neg (by omega)]
  rw[hD]
  repeat' first|refine vt rfl fun K hK=>?_;refine ZfB T (t:=239) (ps:=[(5,.tmp 5),(6,.tmp 6),(7,.tmp 7),(8,.tmp 8),(9,.tmp 9),(10,.tmp 10),(11,.tmp 11),(12,.tmp 12),(13,.tmp 13),(14,.tmp 14)]) rfl (by rw[T239];rfl) (by(simp (disch:=omega) only[go_sem,Nat.reduceBEq,Nat.reduceAdd,Nat.reduceMul]);rfl) (by rfl) (hK _ _ ?_);clear hK K;(try simp only[updO])|refine mq1 @e5 ?_|refine mqn fun bq hbq=>?_|exact x'8 T rfl (by(simp (disch:=omega) only[hget_ne,hget_eq])<;>rfl) rfl rfl rfl (z'a _) ⟨rfl,rfl⟩|fail
 have e5:decide (op<5)=false:=by simpa using h5
 by_cases h15:op≥15
 ·have e15:decide (op≥15)=true:=by simpa using h15
  have hD:ofD op= .tup [.agg [iD 0,.is .nilFunc],bD false]:=by unfold ofD;rw[if_neg (by omega),if_neg (by omega)]
  rw[hD]
  repeat' first|refine vt rfl fun K hK=>?_;refine ZfB T (t:=239) (ps:=[(5,.tmp 5),(6,.tmp 6),(7,.tmp 7),(8,.tmp 8),(9,.tmp 9),(10,.tmp 10),(11,.tmp 11),(12,.tmp 12),(13,.tmp 13),(14,.tmp 14)]) rfl (by rw[T239];rfl) (by(simp (disch:=omega) only[go_sem,Nat.reduceBEq,Nat.reduceAdd,Nat.reduceMul]);rfl) (by rfl) (hK _ _ ?_);clear hK K;(try simp only[updO])|refine mq1 (z'X @e5 @e15) ?_|refine mqn fun bq hbq=>?_|exact x'8 T rfl (by(simp (disch:=omega) only[hget_ne,hget_eq])<;>rfl) rfl rfl rfl (z'a _) ⟨rfl,rfl⟩|fail
 have e15:decide (op≥15)=false:=by simpa using h15
 obtain⟨tk,f,h1,h2⟩:=Zrh op (by omega)
 rw[h2]
 simp only[opTab]at h1
 repeat' first|refine vt rfl fun K hK=>?_;refine ZfB T (t:=239) (ps:=[(5,.tmp 5),(6,.tmp 6),(7,.tmp 7),(8,.tmp 8),(9,.tmp 9),(10,.tmp 10),(11,.tmp 11),(12,.tmp 12),(13,.tmp 13),(14,.tmp 14)]) rfl (by rw[T239];rfl) (by(simp (disch:=omega) only[go_sem,Nat.reduceBEq,Nat.reduceAdd,Nat.reduceMul]);rfl) (by rfl) (hK _ _ ?_);clear hK K;(try simp only[updO])|refine vt rfl fun K hK=>ZlV T rfl rfl rfl rfl (by omega) (hK _ _ ?_);(try simp only[updO])|refine mq1 (x'i @e5 @e15 @h1) ?_|refine mqn fun bq hbq=>?_|refine .wk ?_ ?_;focus(try omega)|exact x'8 T rfl (by(simp (disch:=omega) only[hget_ne,hget_eq])<;>rfl) rfl rfl rfl (z'a _) ⟨rfl,rfl⟩|fail
end Go.Proofs.YthlkpnjjkgmlkaaGreat
