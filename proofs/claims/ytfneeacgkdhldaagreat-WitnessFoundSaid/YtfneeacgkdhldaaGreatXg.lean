/- Contracts: what operators do; the parts of instructions. No condition. -/
import Derived.Test.YtfneeacgkdhldaaGreatXe
namespace Go.Proofs.YtfneeacgkdhldaaGreat
set_option maxHeartbeats 16000000
set_option linter.unusedSimpArgs false
set_option linter.unusedVariables false
set_option maxRecDepth 20000
open Go Go.Proofs Go.Vc
attribute [local irreducible] y'5 VCg VCw VCx
def tI (b:Bool):Int:=match b with|true=>1|false=>0
theorem w'm (b:Bool):Pure Tryz.prog 110 [bD b] (iD (tI b)):=by
 refine Fun.of T [.tmp 2] Tryz.func110 rfl Tryz.ntmps110 Tryz.results110 rfl (by kernel_rfl) ?_
 cases b
 ·repeat' first|refine vs T rfl fun K hK=>?_;(try simp (disch:=omega) only[go_sem,Nat.reduceBEq]);(refine hK _ _ ?_;clear hK K)|refine st rfl ?_|refine sc rfl ?_|refine nl ?_|exact z'n T (z'a _) ⟨rfl,rfl⟩
 ·repeat' first|refine vs T rfl fun K hK=>?_;(try simp (disch:=omega) only[go_sem,Nat.reduceBEq]);(refine hK _ _ ?_;clear hK K)|refine st rfl ?_|refine sc rfl ?_|refine nl ?_|exact z'n T (z'a _) ⟨rfl,rfl⟩
theorem x's (n m:Int):Pure Tryz.prog 78 [iD n,iD m] (bD (inB n m)):=by
 refine Fun.of T [.tmp 4] Tryz.func78 rfl Tryz.ntmps78 Tryz.results78 rfl (by kernel_rfl) ?_
 repeat' first|refine vs T rfl fun K hK=>?_;(try simp (disch:=omega) only[go_sem,Nat.reduceBEq]);(refine hK _ _ ?_;clear hK K)|refine st rfl ?_|refine nl ?_|refine gs rfl rfl ?_|refine z'n T (z'a _) ?_;(try simp only[upd,Nat.reduceBEq,cond_true,cond_false,and_true])|with_reducible refine z'j (fun hc=>?_) (fun hc=>?_)
 all_goals first|(simp_all[inB];done)|(simp_all[inB];omega)
def x'E (op a b md:Int):Int:=
 if op=6 then(a+b).tmod md else if op=7 then(a-b+md).tmod md else if op=8 then(a*b).tmod md else if op=9 then tI (a == b)else if op=10 then tI (a != b)
 else if op=11 then tI (decide (a<b))else if op=12 then tI (decide (a≤b))else if op=13 then tI ((a != 0)&&(b != 0))else tI ((a != 0)||(b != 0))
theorem Zm3 (op a b md:Int) (ha:0≤a∧a≤100000) (hb:0≤b∧b≤100000) (hm:0<md∧md≤100000):Pure Tryz.prog 111 [iD op,iD a,iD b,iD md] (iD (x'E op a b md)):=by
 have hab:0≤a*b∧a*b≤10000000000:=⟨Int.mul_nonneg ha.1 hb.1,by
  have:=Int.mul_le_mul ha.2 hb.2 hb.1 (by decide:(0:Int)≤100000)
  omega⟩
 have w1:IntKind.i64.wrap (a+b)=a+b:=by rw[w64 (by omega)]
 have w2:IntKind.i64.wrap (a-b)=a-b:=by rw[w64 (by omega)]
 have w3:IntKind.i64.wrap (a-b+md)=a-b+md:=by rw[w64 (by omega)]
 have w4:IntKind.i64.wrap (a*b)=a*b:=by rw[w64 (by omega)]
 have hmd:md≠0:=by omega
 refine Fun.of T [.tmp 8] Tryz.func111 rfl Tryz.ntmps111 Tryz.results111 rfl (by kernel_rfl) ?_
 by_cases h6:op=6
 ·subst h6
  repeat' first|refine vs T rfl fun K hK=>?_;(try simp (disch:=omega) only[go_sem,Nat.reduceBEq,Nat.reduceAdd,w1,hmd,ne_eq,not_false_eq_true]);(refine hK _ _ ?_;clear hK K)|refine st rfl ?_|refine sc rfl ?_|refine nl ?_|exact z'n T (z'a _) ⟨rfl,rfl⟩
  all_goals first|rfl|(simp_all[x'E,tI];done)
 have e6:(op == 6)=false:=by simpa using h6
 by_cases h7:op=7
 ·subst h7
  repeat' first|refine vs T rfl fun K hK=>?_;(try simp (disch:=omega) only[go_sem,Nat.reduceBEq,Nat.reduceAdd,Int.reduceBEq,w2,w3,hmd,ne_eq,not_false_eq_true]);(refine hK _ _ ?_;clear hK K)|refine st rfl ?_|refine sc rfl ?_|refine nl ?_|exact z'n T (z'a _) ⟨rfl,rfl⟩
  all_goals first|rfl|(simp_all[x'E,tI];done)
 have e7:(op == 7)=false:=by simpa using h7
 by_cases h8:op=8
 ·subst h8
  repeat' first|refine vs T rfl fun K hK=>?_;(try simp (disch:=omega) only[go_sem,Nat.reduceBEq,Nat.reduceAdd,Int.reduceBEq,w4,hmd,ne_eq,not_false_eq_true]);(refine hK _ _ ?_;clear hK K)|refine st rfl ?_|refine sc rfl ?_|refine nl ?_|exact z'n T (z'a _) ⟨rfl,rfl⟩
  all_goals first|rfl|(simp_all[x'E,tI];done)
 have e8:(op == 8)=false:=by simpa using h8
 by_cases h9:op=9
 ·subst h9
  repeat' first|refine vs T rfl fun K hK=>?_;(try simp (disch:=omega) only[go_sem,Nat.reduceBEq,Nat.reduceAdd,Int.reduceBEq]);(first|refine hK _ _ ?_;clear hK K|refine Op1.callp rfl rfl (w'm _) rfl ?_;refine hK _ _ ?_;clear hK K)|refine st rfl ?_|refine sc rfl ?_|refine nl ?_|exact z'n T (z'a _) ⟨rfl,rfl⟩
  all_goals first|rfl|(simp_all[x'E,tI];done)
 have e9:(op == 9)=false:=by simpa using h9
 by_cases h10:op=10
 ·subst h10
  repeat' first|refine vs T rfl fun K hK=>?_;(try simp (disch:=omega) only[go_sem,Nat.reduceBEq,Nat.reduceAdd,Int.reduceBEq]);(first|refine hK _ _ ?_;clear hK K|refine Op1.callp rfl rfl (w'm _) rfl ?_;refine hK _ _ ?_;clear hK K)|refine st rfl ?_|refine sc rfl ?_|refine nl ?_|exact z'n T (z'a _) ⟨rfl,rfl⟩
  all_goals first|rfl|(simp_all[x'E,tI];done)
 have e10:(op == 10)=false:=by simpa using h10
 by_cases h11:op=11
 ·subst h11
  repeat' first|refine vs T rfl fun K hK=>?_;(try simp (disch:=omega) only[go_sem,Nat.reduceBEq,Nat.reduceAdd,Int.reduceBEq]);(first|refine hK _ _ ?_;clear hK K|refine Op1.callp rfl rfl (w'm _) rfl ?_;refine hK _ _ ?_;clear hK K)|refine st rfl ?_|refine sc rfl ?_|refine nl ?_|exact z'n T (z'a _) ⟨rfl,rfl⟩
  all_goals first|rfl|(simp_all[x'E,tI];done)
 have e11:(op == 11)=false:=by simpa using h11
 by_cases h12:op=12
 ·subst h12
  repeat' first|refine vs T rfl fun K hK=>?_;(try simp (disch:=omega) only[go_sem,Nat.reduceBEq,Nat.reduceAdd,Int.reduceBEq]);(first|refine hK _ _ ?_;clear hK K|refine Op1.callp rfl rfl (w'm _) rfl ?_;refine hK _ _ ?_;clear hK K)|refine st rfl ?_|refine sc rfl ?_|refine nl ?_|exact z'n T (z'a _) ⟨rfl,rfl⟩
  all_goals first|rfl|(simp_all[x'E,tI];done)
 have e12:(op == 12)=false:=by simpa using h12
 by_cases h13:op=13
 ·subst h13
  rcases hA:(a != 0)<;>rcases hB:(b != 0)
  ·have hz:x'E 13 a b md=0:=by simp[x'E,hA,hB,tI]
   rw[hz]
   repeat' first|refine vs T rfl fun K hK=>?_;(try simp (disch:=omega) only[go_sem,Nat.reduceBEq,Nat.reduceAdd,Int.reduceBEq,hA,tI]);(first|refine hK _ _ ?_;clear hK K|refine Op1.callp rfl rfl (w'm _) rfl ?_;refine hK _ _ ?_;clear hK K)|refine st rfl ?_|refine sc rfl ?_|refine nl ?_|refine gs rfl rfl ?_|exact z'n T (z'a _) ⟨rfl,rfl⟩
  ·have hz:x'E 13 a b md=0:=by simp[x'E,hA,hB,tI]
   rw[hz]
   repeat' first|refine vs T rfl fun K hK=>?_;(try simp (disch:=omega) only[go_sem,Nat.reduceBEq,Nat.reduceAdd,Int.reduceBEq,hA,tI]);(first|refine hK _ _ ?_;clear hK K|refine Op1.callp rfl rfl (w'm _) rfl ?_;refine hK _ _ ?_;clear hK K)|refine st rfl ?_|refine sc rfl ?_|refine nl ?_|refine gs rfl rfl ?_|exact z'n T (z'a _) ⟨rfl,rfl⟩
  ·have hz:x'E 13 a b md=0:=by simp[x'E,hA,hB,tI]
   rw[hz]
   repeat' first|refine vs T rfl fun K hK=>?_;(try simp (disch:=omega) only[go_sem,Nat.reduceBEq,Nat.reduceAdd,Int.reduceBEq,hA,hB,tI]);(first|refine hK _ _ ?_;clear hK K|refine Op1.callp rfl rfl (w'm _) rfl ?_;refine hK _ _ ?_;clear hK K)|refine st rfl ?_|refine sc rfl ?_|refine nl ?_|refine gs rfl rfl ?_|exact z'n T (z'a _) ⟨rfl,rfl⟩
  ·have hz:x'E 13 a b md=1:=by simp[x'E,hA,hB,tI]
   rw[hz]
   repeat' first|refine vs T rfl fun K hK=>?_;(try simp (disch:=omega) only[go_sem,Nat.reduceBEq,Nat.reduceAdd,Int.reduceBEq,hA,hB,tI]);(first|refine hK _ _ ?_;clear hK K|refine Op1.callp rfl rfl (w'm _) rfl ?_;refine hK _ _ ?_;clear hK K)|refine st rfl ?_|refine sc rfl ?_|refine nl ?_|refine gs rfl rfl ?_|exact z'n T (z'a _) ⟨rfl,rfl⟩
 have e13:(op == 13)=false:=by simpa using h13
 rcases hA:(a != 0)<;>rcases hB:(b != 0)
 ·have hz:x'E op a b md=0:=by simp only[x'E,h6,h7,h8,h9,h10,h11,h12,h13,if_false,hA,hB];rfl
  rw[hz]
  repeat' first|refine vs T rfl fun K hK=>?_;(try simp (disch:=omega) only[go_sem,Nat.reduceBEq,Nat.reduceAdd,e6,e7,e8,e9,e10,e11,e12,e13,hA,hB,tI]);(first|refine hK _ _ ?_;clear hK K|refine Op1.callp rfl rfl (w'm _) rfl ?_;refine hK _ _ ?_;clear hK K)|refine st rfl ?_|refine sc rfl ?_|refine nl ?_|refine gs rfl rfl ?_|exact z'n T (z'a _) ⟨rfl,rfl⟩
 ·have hz:x'E op a b md=1:=by simp only[x'E,h6,h7,h8,h9,h10,h11,h12,h13,if_false,hA,hB];rfl
  rw[hz]
  repeat' first|refine vs T rfl fun K hK=>?_;(try simp (disch:=omega) only[go_sem,Nat.reduceBEq,Nat.reduceAdd,e6,e7,e8,e9,e10,e11,e12,e13,hA,hB,tI]);(first|refine hK _ _ ?_;clear hK K|refine Op1.callp rfl rfl (w'm _) rfl ?_;refine hK _ _ ?_;clear hK K)|refine st rfl ?_|refine sc rfl ?_|refine nl ?_|refine gs rfl rfl ?_|exact z'n T (z'a _) ⟨rfl,rfl⟩
 ·have hz:x'E op a b md=1:=by simp only[x'E,h6,h7,h8,h9,h10,h11,h12,h13,if_false,hA,hB];rfl
  rw[hz]
  repeat' first|refine vs T rfl fun K hK=>?_;(try simp (disch:=omega) only[go_sem,Nat.reduceBEq,Nat.reduceAdd,e6,e7,e8,e9,e10,e11,e12,e13,hA,tI]);(first|refine hK _ _ ?_;clear hK K|refine Op1.callp rfl rfl (w'm _) rfl ?_;refine hK _ _ ?_;clear hK K)|refine st rfl ?_|refine sc rfl ?_|refine nl ?_|refine gs rfl rfl ?_|exact z'n T (z'a _) ⟨rfl,rfl⟩
 ·have hz:x'E op a b md=1:=by simp only[x'E,h6,h7,h8,h9,h10,h11,h12,h13,if_false,hA,hB];rfl
  rw[hz]
  repeat' first|refine vs T rfl fun K hK=>?_;(try simp (disch:=omega) only[go_sem,Nat.reduceBEq,Nat.reduceAdd,e6,e7,e8,e9,e10,e11,e12,e13,hA,tI]);(first|refine hK _ _ ?_;clear hK K|refine Op1.callp rfl rfl (w'm _) rfl ?_;refine hK _ _ ?_;clear hK K)|refine st rfl ?_|refine sc rfl ?_|refine nl ?_|refine gs rfl rfl ?_|exact z'n T (z'a _) ⟨rfl,rfl⟩
def ZhH (s:ByteArray) (c:UInt8):Bool:=s.data.toList.any fun x=>decide (x=c)
theorem z'Y (s:ByteArray) (hs:s.size≤1000) (c:UInt8):Pure Tryz.prog 77 [sD s,.is (.int .u8 c.toNat)] (bD (ZhH s c)):=by
 have hsz:s.data.toList.length=s.size:=z'4
 refine Fun.of T [.tmp 4] Tryz.func77 rfl Tryz.ntmps77 Tryz.results77 rfl (by kernel_rfl) ?_
 repeat' first|refine vs T rfl fun K hK=>?_;(try simp (disch:=omega) only[go_sem]);(refine hK _ _ ?_;clear hK K)|refine st rfl ?_|refine nl ?_
 refine VC.loop {k:Nat//k≤s.size∧ ∀(i:Nat) (y:UInt8),i<k→s.data.toList[i]?=some y→ ¬y=c} (fun p=>⟨z'J [(0,sD s),(1,.is (.int .u8 c.toNat)),(5,iD (p.1:Nat))],[]⟩) (fun p=>s.size-p.1) ⟨0,by omega,fun i y hi=>by omega⟩ ?_ ?_
 ·refine Weak.sub ?_
  simp[sub,upd]
 ·rintro⟨k,hk,hno⟩
  dsimp only
  rcases z'g k s.size with hlt|hge
  ·have hd:decide ((k:Int)<(s.size:Int))=true:=by simp;omega
   have hw:IntKind.i64.wrap ((k:Int)+1)=((k+1:Nat):Int):=by rw[w64 (by omega)];omega
   obtain⟨y,hy⟩: ∃y,s.data.toList[k]?=some y:=⟨_,z'b (by omega)⟩
   have hg:s.data.toList.getD k 0=y:=by rw[z'e,hy];rfl
   by_cases he:y=c
   ·have he':((y.toNat:Int) == (c.toNat:Int))=true:=by rw[he];simp
    have hr:ZhH s c=true:=by
     unfold ZhH
     rw[List.any_eq_true]
     exact⟨y,z'h hy,by simpa using he⟩
    rw[hr]
    repeat' first|refine vs T rfl fun K hK=>?_;(try simp (disch:=omega) only[go_sem,Nat.reduceBEq,hd,hg,he']);(first|refine hK _ _ ?_;clear hK K|refine⟨?_,hK _ _ ?_⟩<;>clear hK K;focus(try omega))|refine st rfl ?_|refine sc rfl ?_|refine nl ?_|exact z'n T (z'a _) ⟨rfl,rfl⟩
   ·have he':((y.toNat:Int) == (c.toNat:Int))=false:=by
     rw[beq_eq_false_iff_ne]
     intro h
     exact he (UInt8.toNat.inj (by omega))
    repeat' first|refine vs T rfl fun K hK=>?_;(try simp (disch:=omega) only[go_sem,Nat.reduceBEq,hd,hw,hg,he']);(first|refine hK _ _ ?_;clear hK K|refine⟨?_,hK _ _ ?_⟩<;>clear hK K;focus(try omega))|refine st rfl ?_|refine sc rfl ?_|refine nl ?_
    refine⟨⟨k+1,by omega,fun i z hi hz=>?_⟩,Weak.sub ?_,by simp only[];omega⟩
    ·rcases z'g i k with h'|h'
     ·exact hno i z h' hz
     ·obtain rfl:i=k:=by omega
      rw[hy]at hz;cases hz;exact he
    ·simp[sub,upd]
  ·have hd:decide ((k:Int)<(s.size:Int))=false:=by simp;omega
   have hr:ZhH s c=false:=by
    unfold ZhH
    rw[List.any_eq_false]
    intro y hy
    obtain⟨i,hi⟩:=y'S hy
    simpa using hno i y (by have:=(z'c.1 hi).1;omega) hi
   rw[hr]
   repeat' first|refine vs T rfl fun K hK=>?_;(try simp (disch:=omega) only[go_sem,Nat.reduceBEq,hd]);(refine hK _ _ ?_;clear hK K)|refine st rfl ?_|refine sc rfl ?_|refine nl ?_|exact z'n T (z'a _) ⟨rfl,rfl⟩
def Zee (op:Int):Option ByteArray:=
 if op=2 then some ⟨#[114,101]⟩else
 if op=3 then some ⟨#[114,108]⟩else
 if op=4 then some ⟨#[108,101]⟩else
 if op=5 then some ⟨#[114,108,101,102]⟩else
 if op=6 then some ⟨#[114,108,101]⟩else
 if op=7 then some ⟨#[114,108,101]⟩else
 if op=8 then some ⟨#[]⟩else
 if op=9 then some ⟨#[108,101,110]⟩else
 if op=20 then some ⟨#[116]⟩else
 if op=21 then some ⟨#[101,116]⟩else none
def Zp4 (o:Option ByteArray):D:= .tup [sD (o.getD ⟨#[]⟩),bD o.isSome]
theorem w'K (op:Int):Pure Tryz.prog 76 [iD op] (Zp4 (Zee op)):=by
 refine Fun.of T [.tmp 2,.tmp 3] Tryz.func76 rfl Tryz.ntmps76 Tryz.results76 rfl (by kernel_rfl) ?_
 by_cases h2:op=2
 ·subst h2
  repeat' first|refine vs T rfl fun K hK=>?_;(try simp (disch:=omega) only[go_sem,Nat.reduceBEq]);(refine hK _ _ ?_;clear hK K)|refine st rfl ?_|refine sc rfl ?_|refine nl ?_|exact y'9 T (z'a _) ⟨rfl,rfl⟩
  all_goals rfl
 have e2:(op == 2)=false:=by simpa using h2
 by_cases h3:op=3
 ·subst h3
  repeat' first|refine vs T rfl fun K hK=>?_;(try simp (disch:=omega) only[go_sem,Nat.reduceBEq,Int.reduceBEq]);(refine hK _ _ ?_;clear hK K)|refine st rfl ?_|refine sc rfl ?_|refine nl ?_|exact y'9 T (z'a _) ⟨rfl,rfl⟩
  all_goals rfl
 have e3:(op == 3)=false:=by simpa using h3
 by_cases h4:op=4
 ·subst h4
  repeat' first|refine vs T rfl fun K hK=>?_;(try simp (disch:=omega) only[go_sem,Nat.reduceBEq,Int.reduceBEq]);(refine hK _ _ ?_;clear hK K)|refine st rfl ?_|refine sc rfl ?_|refine nl ?_|exact y'9 T (z'a _) ⟨rfl,rfl⟩
  all_goals rfl
 have e4:(op == 4)=false:=by simpa using h4
 by_cases h5:op=5
 ·subst h5
  repeat' first|refine vs T rfl fun K hK=>?_;(try simp (disch:=omega) only[go_sem,Nat.reduceBEq,Int.reduceBEq]);(refine hK _ _ ?_;clear hK K)|refine st rfl ?_|refine sc rfl ?_|refine nl ?_|exact y'9 T (z'a _) ⟨rfl,rfl⟩
  all_goals rfl
 have e5:(op == 5)=false:=by simpa using h5
 by_cases h6:op=6
 ·subst h6
  repeat' first|refine vs T rfl fun K hK=>?_;(try simp (disch:=omega) only[go_sem,Nat.reduceBEq,Int.reduceBEq]);(refine hK _ _ ?_;clear hK K)|refine st rfl ?_|refine sc rfl ?_|refine nl ?_|exact y'9 T (z'a _) ⟨rfl,rfl⟩
  all_goals rfl
 have e6:(op == 6)=false:=by simpa using h6
 by_cases h7:op=7
 ·subst h7
  repeat' first|refine vs T rfl fun K hK=>?_;(try simp (disch:=omega) only[go_sem,Nat.reduceBEq,Int.reduceBEq]);(refine hK _ _ ?_;clear hK K)|refine st rfl ?_|refine sc rfl ?_|refine nl ?_|exact y'9 T (z'a _) ⟨rfl,rfl⟩
  all_goals rfl
 have e7:(op == 7)=false:=by simpa using h7
 by_cases h8:op=8
 ·subst h8
  repeat' first|refine vs T rfl fun K hK=>?_;(try simp (disch:=omega) only[go_sem,Nat.reduceBEq,Int.reduceBEq]);(refine hK _ _ ?_;clear hK K)|refine st rfl ?_|refine sc rfl ?_|refine nl ?_|exact y'9 T (z'a _) ⟨rfl,rfl⟩
  all_goals rfl
 have e8:(op == 8)=false:=by simpa using h8
 by_cases h9:op=9
 ·subst h9
  repeat' first|refine vs T rfl fun K hK=>?_;(try simp (disch:=omega) only[go_sem,Nat.reduceBEq,Int.reduceBEq]);(refine hK _ _ ?_;clear hK K)|refine st rfl ?_|refine sc rfl ?_|refine nl ?_|exact y'9 T (z'a _) ⟨rfl,rfl⟩
  all_goals rfl
 have e9:(op == 9)=false:=by simpa using h9
 by_cases h20:op=20
 ·subst h20
  repeat' first|refine vs T rfl fun K hK=>?_;(try simp (disch:=omega) only[go_sem,Nat.reduceBEq,Int.reduceBEq]);(refine hK _ _ ?_;clear hK K)|refine st rfl ?_|refine sc rfl ?_|refine nl ?_|exact y'9 T (z'a _) ⟨rfl,rfl⟩
  all_goals rfl
 have e20:(op == 20)=false:=by simpa using h20
 by_cases h21:op=21
 ·subst h21
  repeat' first|refine vs T rfl fun K hK=>?_;(try simp (disch:=omega) only[go_sem,Nat.reduceBEq,Int.reduceBEq]);(refine hK _ _ ?_;clear hK K)|refine st rfl ?_|refine sc rfl ?_|refine nl ?_|exact y'9 T (z'a _) ⟨rfl,rfl⟩
  all_goals rfl
 have e21:(op == 21)=false:=by simpa using h21
 have hz:Zee op=none:=by simp only[Zee,h2,h3,h4,h5,h6,h7,h8,h9,h20,h21,if_false]
 rw[hz]
 repeat' first|refine vs T rfl fun K hK=>?_;(try simp (disch:=omega) only[go_sem,Nat.reduceBEq,e2,e3,e4,e5,e6,e7,e8,e9,e20,e21]);(refine hK _ _ ?_;clear hK K)|refine st rfl ?_|refine sc rfl ?_|refine nl ?_|exact y'9 T (z'a _) ⟨rfl,rfl⟩
 all_goals rfl
def w'G (x:Ins):Bool:=decide (x.op=22)&&(decide (x.reg=0)&&(decide (x.loc=0)&&(decide (x.e.length=0)&&(decide (x.f.length=0)&&(!x.ne&&decide (x.to=0))))))
theorem ZkC (x:Ins):Pure Tryz.prog 45 [.agg (v'e x)] (bD (w'G x)):=by
 obtain⟨op,reg,loc,e,f,ne,to⟩:=x
 have he:((e.length:Int) == 0)=decide (e.length=0):=by rw[x'Y];simp
 have hf:((f.length:Int) == 0)=decide (f.length=0):=by rw[x'Y];simp
 refine Fun.of T [.tmp 2] Tryz.func45 rfl Tryz.ntmps45 Tryz.results45 rfl (by kernel_rfl) ?_
 by_cases h1:op=22
 ·have e1:(op == 22)=true:=by simpa using h1
  by_cases h2:reg=0
  ·have e2:(reg == 0)=true:=by simpa using h2
   by_cases h3:loc=0
   ·have e3:(loc == 0)=true:=by simpa using h3
    by_cases h4:e.length=0
    ·have e4:((e.length:Int) == 0)=true:=by rw[he];simpa using h4
     by_cases h5:f.length=0
     ·have e5:((f.length:Int) == 0)=true:=by rw[hf];simpa using h5
      cases ne with
      |false=>
       have hd:w'G ⟨op,reg,loc,e,f,false,to⟩=(to == 0):=by simp only[w'G,h1,h2,h3,h4,h5];rfl
       rw[hd]
       repeat' first|refine vb rfl rfl rfl rfl ?_|refine vs T rfl fun K hK=>?_;(try simp (disch:=omega) only[go_sem,Nat.reduceBEq,v'e,e1,e2,e3,e4,e5,z'K,z'r]);(refine hK _ _ ?_;clear hK K)|refine st rfl ?_|refine nl ?_|refine gs rfl rfl ?_|exact z'n T (z'a _) ⟨rfl,rfl⟩
      |true=>
       have hd:w'G ⟨op,reg,loc,e,f,true,to⟩=false:=by simp[w'G]
       rw[hd]
       repeat' first|refine vb rfl rfl rfl rfl ?_|refine vs T rfl fun K hK=>?_;(try simp (disch:=omega) only[go_sem,Nat.reduceBEq,v'e,e1,e2,e3,e4,e5,z'K,z'l]);(refine hK _ _ ?_;clear hK K)|refine st rfl ?_|refine nl ?_|refine gs rfl rfl ?_|exact z'n T (z'a _) ⟨rfl,rfl⟩
     ·have e5:((f.length:Int) == 0)=false:=by rw[hf];simpa using h5
      have hd:w'G ⟨op,reg,loc,e,f,ne,to⟩=false:=by simp only[w'G,decide_eq_false h5];simp
      rw[hd]
      repeat' first|refine vb rfl rfl rfl rfl ?_|refine vs T rfl fun K hK=>?_;(try simp (disch:=omega) only[go_sem,Nat.reduceBEq,v'e,e1,e2,e3,e4,e5,z'K]);(refine hK _ _ ?_;clear hK K)|refine st rfl ?_|refine nl ?_|refine gs rfl rfl ?_|exact z'n T (z'a _) ⟨rfl,rfl⟩
    ·have e4:((e.length:Int) == 0)=false:=by rw[he];simpa using h4
     have hd:w'G ⟨op,reg,loc,e,f,ne,to⟩=false:=by simp only[w'G,decide_eq_false h4];simp
     rw[hd]
     repeat' first|refine vb rfl rfl rfl rfl ?_|refine vs T rfl fun K hK=>?_;(try simp (disch:=omega) only[go_sem,Nat.reduceBEq,v'e,e1,e2,e3,e4,z'K]);(refine hK _ _ ?_;clear hK K)|refine st rfl ?_|refine nl ?_|refine gs rfl rfl ?_|exact z'n T (z'a _) ⟨rfl,rfl⟩
   ·have e3:(loc == 0)=false:=by simpa using h3
    have hd:w'G ⟨op,reg,loc,e,f,ne,to⟩=false:=by simp only[w'G,decide_eq_false h3];simp
    rw[hd]
    repeat' first|refine vb rfl rfl rfl rfl ?_|refine vs T rfl fun K hK=>?_;(try simp (disch:=omega) only[go_sem,Nat.reduceBEq,v'e,e1,e2,e3]);(refine hK _ _ ?_;clear hK K)|refine st rfl ?_|refine nl ?_|refine gs rfl rfl ?_|exact z'n T (z'a _) ⟨rfl,rfl⟩
  ·have e2:(reg == 0)=false:=by simpa using h2
   have hd:w'G ⟨op,reg,loc,e,f,ne,to⟩=false:=by simp only[w'G,decide_eq_false h2];simp
   rw[hd]
   repeat' first|refine vb rfl rfl rfl rfl ?_|refine vs T rfl fun K hK=>?_;(try simp (disch:=omega) only[go_sem,Nat.reduceBEq,v'e,e1,e2]);(refine hK _ _ ?_;clear hK K)|refine st rfl ?_|refine nl ?_|refine gs rfl rfl ?_|exact z'n T (z'a _) ⟨rfl,rfl⟩
 ·have e1:(op == 22)=false:=by simpa using h1
  have hd:w'G ⟨op,reg,loc,e,f,ne,to⟩=false:=by simp only[w'G,decide_eq_false h1];simp
  rw[hd]
  repeat' first|refine vb rfl rfl rfl rfl ?_|refine vs T rfl fun K hK=>?_;(try simp (disch:=omega) only[go_sem,Nat.reduceBEq,v'e,e1]);(refine hK _ _ ?_;clear hK K)|refine st rfl ?_|refine nl ?_|refine gs rfl rfl ?_|exact z'n T (z'a _) ⟨rfl,rfl⟩
def y'H (op:Int) (n:Int):Option Int:=
 if 1≤op∧op≤4 then some (n+1)else if op=5∧1≤n then some n else if (6≤op∧op≤14)∧2≤n then some (n-1)else none
def w'F:List Opc→Int→Int→Option (Int×Int)
 |[],n,most=>some (n,most)
 |x::r,n,most=>match y'H x.1 n with
  |some n'=>w'F r n' (max most n')
  |none=>none
theorem ZeA {P:Program} {o:Oper} {E:Operand→D} {H:Heap} {K:D→Heap→Prop} {x y:Operand} {ts:Array TypeId} {k:IntKind} {a b:Int} (ho:o.op= .call ⟨.builtin .max, #[x,y],ts⟩) (ha:E x= .is (.int k a)) (hb:E y= .is (.int k b)) (hk:K (.is (.int k (max a b))) H):Op1 P o E H K:=by
 refine Op1.value (d:= .is (.int k (max a b))) (fun w L0 ε hi hx=>?_) hk
 have h1:=hx x (by simp[ho,Op.operands,Call.operands])
 have h2:=hx y (by simp[ho,Op.operands,Call.operands])
 rw[ha]at h1;rw[hb]at h2
 have h1':ε x= .int k a:=h1
 have h2':ε y= .int k b:=h2
 refine⟨.int k (max a b),?_,rfl⟩
 simp only[execOp,ho,resolve,invoke,builtin]
 simp[go_sem,h1',h2',Builtin.max_,Builtin.max2]
 split<;>omega
theorem ZdB (x:Opc) (r:List Opc) (n most:Int):w'F (x::r) n most=(match y'H x.1 n with|some n'=>w'F r n' (max most n')|none=>none):=rfl
def Zng (o:Option (Int×Int)):D:=match o with|some p=> .tup [iD p.1,iD p.2]|none=> .tup [iD (-1),iD (-1)]
theorem Zk1 (l:List Opc) (hl:l.length≤1000):Pure Tryz.prog 101 [z'S l] (Zng (w'F l 0 0)):=by
 refine Fun.of T [.tmp 2,.tmp 3] Tryz.func101 rfl Tryz.ntmps101 Tryz.results101 rfl (by kernel_rfl) ?_
 repeat' first|refine vs T rfl fun K hK=>?_;(try simp (disch:=omega) only[go_sem]);(refine hK _ _ ?_;clear hK K)|refine st rfl ?_|refine nl ?_
 refine VC.loop {q:Nat×Int×Int//q.1≤l.length∧(0≤q.2.1∧q.2.1≤q.1)∧(0≤q.2.2∧q.2.2≤q.1)∧w'F l 0 0=w'F (l.drop q.1) q.2.1 q.2.2} (fun q=>⟨z'J [(0,z'S l),(4,iD q.1.2.1),(5,iD q.1.2.2),(6,iD (q.1.1:Nat))],[]⟩) (fun q=>l.length-q.1.1) ⟨(0,0,0),by simp⟩ ?_ ?_
 ·refine Weak.sub ?_
  simp[sub,upd]
 ·rintro⟨⟨k,n,most⟩,hk,hn,hm,hF⟩
  dsimp only at hk hn hm hF⊢
  rcases z'g k l.length with hlt|hge
  ·have hd:decide ((k:Int)<(l.length:Int))=true:=by simp;omega
   have hw:IntKind.i64.wrap ((k:Int)+1)=((k+1:Nat):Int):=by rw[w64 (by omega)];omega
   have wa:IntKind.i64.wrap (n+1)=n+1:=by rw[w64 (by omega)]
   have ws:IntKind.i64.wrap (n-1)=n-1:=by rw[w64 (by omega)]
   obtain⟨x,hx⟩: ∃x,l[k]?=some x:=⟨_,z'b hlt⟩
   have hrow:(ZdD l)[k]?=some [iD x.1,iD x.2.1,iD x.2.2]:=by rw[Zca,hx];rfl
   have hdr:l.drop k=x::l.drop (k+1):=by rw[y'0 hlt];congr 1;exact y'k ((z'b hlt).symm.trans hx)
   rw[hdr,ZdB]at hF
   have nxt: ∀n',y'H x.1 n=some n'→0≤n'→n'≤n+1→ ∀E:Nat→D,Vc.sub E [(0,z'S l),(4,iD n'),(5,iD (max most n')),(6,iD ((k+1:Nat):Int))]→
     ∃q':{q:Nat×Int×Int//q.1≤l.length∧(0≤q.2.1∧q.2.1≤q.1)∧(0≤q.2.2∧q.2.2≤q.1)∧w'F l 0 0=w'F (l.drop q.1) q.2.1 q.2.2},Weak ⟨E,[]⟩ ⟨z'J [(0,z'S l),(4,iD q'.1.2.1),(5,iD q'.1.2.2),(6,iD (q'.1.1:Nat))],[]⟩∧l.length-q'.1.1<l.length-k:=by
    intro n' hs h0 h1 E hE
    rw[hs]at hF
    exact⟨⟨(k+1,n',max most n'),by simp only[];omega,by simp only[];omega,by simp only[];omega,hF⟩,Weak.sub hE,by simp only[];omega⟩
   by_cases c1:1≤x.1∧x.1≤4
   ·have a1:decide (x.1≥1)=true:=by simp;omega
    have a4:decide (x.1≤4)=true:=by simp;omega
    repeat' first|refine vs T rfl fun K hK=>?_;(try simp (disch:=omega) only[go_sem,Nat.reduceBEq,hd,hw,wa,hrow,a1,a4,z'K]);(first|refine hK _ _ ?_;clear hK K|refine⟨?_,hK _ _ ?_⟩<;>clear hK K;focus(try omega)|refine ZeA rfl rfl rfl ?_;refine hK _ _ ?_;clear hK K)|refine st rfl ?_|refine sc rfl ?_|refine nl ?_|refine gs rfl rfl ?_
    refine nxt (n+1) (by simp[y'H,c1]) (by omega) (by omega) _ ?_
    simp[sub,upd]
   have hbad:y'H x.1 n=none→w'F l 0 0=none:=fun h=>by rw[h]at hF;exact hF
   rcases Int.lt_or_le x.1 1 with h1|h1
   ·have a1:decide (x.1≥1)=false:=by simp;omega
    have e5:(x.1 == 5)=false:=by rw[beq_eq_false_iff_ne];omega
    have b6:decide (x.1≥6)=false:=by simp;omega
    have hs:y'H x.1 n=none:=by unfold y'H;rw[if_neg c1,if_neg (by omega),if_neg (by omega)]
    rw[hbad hs]
    repeat' first|refine vs T rfl fun K hK=>?_;(try simp (disch:=omega) only[go_sem,Nat.reduceBEq,hd,hrow,a1,e5,b6,z'K]);(first|refine hK _ _ ?_;clear hK K|refine⟨?_,hK _ _ ?_⟩<;>clear hK K;focus(try omega))|refine st rfl ?_|refine sc rfl ?_|refine nl ?_|refine gs rfl rfl ?_|exact y'9 T (z'a _) ⟨rfl,rfl⟩
    all_goals rfl
   have a1:decide (x.1≥1)=true:=by simp;omega
   have a4:decide (x.1≤4)=false:=by simp;omega
   by_cases c5:x.1=5
   ·have e5:(x.1 == 5)=true:=by simpa using c5
    have b6:decide (x.1≥6)=false:=by simp;omega
    by_cases cn:1≤n
    ·have n1:decide (n≥1)=true:=by simp;omega
     repeat' first|refine vs T rfl fun K hK=>?_;(try simp (disch:=omega) only[go_sem,Nat.reduceBEq,hd,hw,hrow,a1,a4,e5,n1,z'K]);(first|refine hK _ _ ?_;clear hK K|refine⟨?_,hK _ _ ?_⟩<;>clear hK K;focus(try omega)|refine ZeA rfl rfl rfl ?_;refine hK _ _ ?_;clear hK K)|refine st rfl ?_|refine sc rfl ?_|refine nl ?_|refine gs rfl rfl ?_
     refine nxt n (by unfold y'H;rw[if_neg c1,if_pos ⟨c5,cn⟩]) (by omega) (by omega) _ ?_
     simp[sub,upd]
    ·have n1:decide (n≥1)=false:=by simp;omega
     have hs:y'H x.1 n=none:=by unfold y'H;rw[if_neg c1,if_neg (by omega),if_neg (by omega)]
     rw[hbad hs]
     repeat' first|refine vs T rfl fun K hK=>?_;(try simp (disch:=omega) only[go_sem,Nat.reduceBEq,hd,hrow,a1,a4,e5,n1,b6,z'K]);(first|refine hK _ _ ?_;clear hK K|refine⟨?_,hK _ _ ?_⟩<;>clear hK K;focus(try omega))|refine st rfl ?_|refine sc rfl ?_|refine nl ?_|refine gs rfl rfl ?_|exact y'9 T (z'a _) ⟨rfl,rfl⟩
     all_goals rfl
   have e5:(x.1 == 5)=false:=by simpa using c5
   have b6:decide (x.1≥6)=true:=by simp;omega
   by_cases c14:x.1≤14
   ·have b14:decide (x.1≤14)=true:=by simpa using c14
    by_cases cn:2≤n
    ·have n2:decide (n≥2)=true:=by simp;omega
     repeat' first|refine vs T rfl fun K hK=>?_;(try simp (disch:=omega) only[go_sem,Nat.reduceBEq,hd,hw,ws,hrow,a1,a4,e5,b6,b14,n2,z'K]);(first|refine hK _ _ ?_;clear hK K|refine⟨?_,hK _ _ ?_⟩<;>clear hK K;focus(try omega)|refine ZeA rfl rfl rfl ?_;refine hK _ _ ?_;clear hK K)|refine st rfl ?_|refine sc rfl ?_|refine nl ?_|refine gs rfl rfl ?_
     refine nxt (n-1) (by unfold y'H;rw[if_neg c1,if_neg (by omega),if_pos ⟨by omega,cn⟩]) (by omega) (by omega) _ ?_
     simp[sub,upd]
    ·have n2:decide (n≥2)=false:=by simp;omega
     have hs:y'H x.1 n=none:=by unfold y'H;rw[if_neg c1,if_neg (by omega),if_neg (by omega)]
     rw[hbad hs]
     repeat' first|refine vs T rfl fun K hK=>?_;(try simp (disch:=omega) only[go_sem,Nat.reduceBEq,hd,hrow,a1,a4,e5,b6,b14,n2,z'K]);(first|refine hK _ _ ?_;clear hK K|refine⟨?_,hK _ _ ?_⟩<;>clear hK K;focus(try omega))|refine st rfl ?_|refine sc rfl ?_|refine nl ?_|refine gs rfl rfl ?_|exact y'9 T (z'a _) ⟨rfl,rfl⟩
     all_goals rfl
   ·have b14:decide (x.1≤14)=false:=by simpa using c14
    have hs:y'H x.1 n=none:=by unfold y'H;rw[if_neg c1,if_neg (by omega),if_neg (by omega)]
    rw[hbad hs]
    repeat' first|refine vs T rfl fun K hK=>?_;(try simp (disch:=omega) only[go_sem,Nat.reduceBEq,hd,hrow,a1,a4,e5,b6,b14,z'K]);(first|refine hK _ _ ?_;clear hK K|refine⟨?_,hK _ _ ?_⟩<;>clear hK K;focus(try omega))|refine st rfl ?_|refine sc rfl ?_|refine nl ?_|refine gs rfl rfl ?_|exact y'9 T (z'a _) ⟨rfl,rfl⟩
    all_goals rfl
  ·have hd:decide ((k:Int)<(l.length:Int))=false:=by simp;omega
   rw[x'R hge]at hF
   rw[hF]
   repeat' first|refine vs T rfl fun K hK=>?_;(try simp (disch:=omega) only[go_sem,Nat.reduceBEq,hd,z'K]);(refine hK _ _ ?_;clear hK K)|refine st rfl ?_|refine sc rfl ?_|refine nl ?_|exact y'9 T (z'a _) ⟨rfl,rfl⟩
   all_goals rfl
structure OkC (c:Cf):Prop where
 pc:c.pc.length≤1000
 mem:c.mem.length≤1000
 regs:c.regs.length≤1000
 row: ∀r,r∈c.regs→r.length≤1000
 bufs:c.bufs.length≤1000
 buf: ∀b,b∈c.bufs→b.length≤1000
def x'K (a b:Cf):Bool:=decide (a.pc=b.pc)&&(decide (a.mem=b.mem)&&(decide (a.regs=b.regs)&&decide (a.bufs=b.bufs)))
theorem Zc8 {α:Type} {l m:List α} (hl:l.length=m.length) (h: ∀i,i<l.length→l[i]?=m[i]?):l=m:=by
 apply w'k
 intro i
 rcases z'g i l.length with h'|h'
 ·exact h i h'
 ·rw[z'z h',z'z (by omega)]
theorem Zfd {α:Type} {l m:List α} {i:Nat} {x y:α} (hx:l[i]?=some x) (hy:m[i]?=some y) (h:x≠y):l≠m:=fun e=>by
 rw[e,hy]at hx
 exact h (y'k hx).symm
theorem ZbF {α:Type} {l m:List α} {k:Nat} {x:α} (hs: ∀i,i<k→l[i]?=m[i]?) (hx:l[k]?=some x) (hy:m[k]?=some x): ∀i,i<k+1→l[i]?=m[i]?:=fun i hi=>by
 rcases z'g i k with h'|h'
 ·exact hs i h'
 ·obtain rfl:i=k:=by omega
  rw[hx,hy]
theorem ZmV (a b:Cf) (ha:OkC a) (hb:OkC b):Pure Tryz.prog 41 [.agg (cfC a),.agg (cfC b)] (bD (x'K a b)):=by
 have ap:=ha.pc
 have bp:=hb.pc
 have am:=ha.mem
 have bm:=hb.mem
 have ar:=ha.regs
 have br:=hb.regs
 have ab:=ha.bufs
 have bb:=hb.bufs
 have c1:=Zgh a.pc b.pc (by omega) (by omega)
 have c2:=Zgh a.mem b.mem (by omega) (by omega)
 refine Fun.of T [.tmp 4] Tryz.func41 rfl Tryz.ntmps41 Tryz.results41 rfl (by kernel_rfl) ?_
 by_cases h1:a.pc=b.pc
 case neg=>
  have e1:decide (a.pc=b.pc)=false:=decide_eq_false h1
  have hS:x'K a b=false:=by simp[x'K,h1]
  rw[hS]
  rw[e1]at c1
  repeat' first|refine vb rfl rfl rfl rfl ?_|refine vs T rfl fun K hK=>?_;(try simp (disch:=omega) only[go_sem,Nat.reduceBEq,z'r]);(first|refine hK _ _ ?_;clear hK K|refine Op1.callp rfl rfl (c1) rfl ?_;refine hK _ _ ?_;clear hK K)|refine st rfl ?_|refine sc rfl ?_|refine nl ?_|refine gs rfl rfl ?_|exact z'n T (z'a _) ⟨rfl,rfl⟩
 have e1:decide (a.pc=b.pc)=true:=decide_eq_true h1
 rw[e1]at c1
 by_cases h2:a.mem=b.mem
 case neg=>
  have e2:decide (a.mem=b.mem)=false:=decide_eq_false h2
  have hS:x'K a b=false:=by simp[x'K,h2]
  rw[hS]
  rw[e2]at c2
  repeat' first|refine vb rfl rfl rfl rfl ?_|refine vs T rfl fun K hK=>?_;(try simp (disch:=omega) only[go_sem,Nat.reduceBEq,z'r,z'l]);(first|refine hK _ _ ?_;clear hK K|refine Op1.callp rfl rfl (c1) rfl ?_;refine hK _ _ ?_;clear hK K|refine Op1.callp rfl rfl (c2) rfl ?_;refine hK _ _ ?_;clear hK K)|refine st rfl ?_|refine sc rfl ?_|refine nl ?_|refine gs rfl rfl ?_|exact z'n T (z'a _) ⟨rfl,rfl⟩
 have e2:decide (a.mem=b.mem)=true:=decide_eq_true h2
 rw[e2]at c2
 by_cases h3:a.regs.length=b.regs.length
 case neg=>
  have e3:((a.regs.length:Int) != (b.regs.length:Int))=true:=bne_iff_ne.2 (by omega)
  have hS:x'K a b=false:=by
   have:a.regs≠b.regs:=fun h=>h3 (by rw[h])
   simp[x'K,this]
  rw[hS]
  repeat' first|refine vb rfl rfl rfl rfl ?_|refine vs T rfl fun K hK=>?_;(try simp (disch:=omega) only[go_sem,Nat.reduceBEq,e3,y'm,z'l]);(first|refine hK _ _ ?_;clear hK K|refine Op1.callp rfl rfl (c1) rfl ?_;refine hK _ _ ?_;clear hK K|refine Op1.callp rfl rfl (c2) rfl ?_;refine hK _ _ ?_;clear hK K)|refine st rfl ?_|refine sc rfl ?_|refine nl ?_|refine gs rfl rfl ?_|exact z'n T (z'a _) ⟨rfl,rfl⟩
 have e3:((a.regs.length:Int) != (b.regs.length:Int))=false:=by simp[h3]
 by_cases h4:a.bufs.length=b.bufs.length
 case neg=>
  have e4:((a.bufs.length:Int) != (b.bufs.length:Int))=true:=bne_iff_ne.2 (by omega)
  have hS:x'K a b=false:=by
   have:a.bufs≠b.bufs:=fun h=>h4 (by rw[h])
   simp[x'K,this]
  rw[hS]
  repeat' first|refine vb rfl rfl rfl rfl ?_|refine vs T rfl fun K hK=>?_;(try simp (disch:=omega) only[go_sem,Nat.reduceBEq,e3,e4,y'm,z'Z,z'l]);(first|refine hK _ _ ?_;clear hK K|refine Op1.callp rfl rfl (c1) rfl ?_;refine hK _ _ ?_;clear hK K|refine Op1.callp rfl rfl (c2) rfl ?_;refine hK _ _ ?_;clear hK K)|refine st rfl ?_|refine sc rfl ?_|refine nl ?_|refine gs rfl rfl ?_|exact z'n T (z'a _) ⟨rfl,rfl⟩
 have e4:((a.bufs.length:Int) != (b.bufs.length:Int))=false:=by simp[h4]
 repeat' first|refine vb rfl rfl rfl rfl ?_|refine vs T rfl fun K hK=>?_;(try simp (disch:=omega) only[go_sem,Nat.reduceBEq,e3,e4,y'm,z'Z,z'l]);(first|refine hK _ _ ?_;clear hK K|refine Op1.callp rfl rfl (c1) rfl ?_;refine hK _ _ ?_;clear hK K|refine Op1.callp rfl rfl (c2) rfl ?_;refine hK _ _ ?_;clear hK K)|refine st rfl ?_|refine sc rfl ?_|refine nl ?_|refine gs rfl rfl ?_
 refine VC.loop {k:Nat//k≤a.regs.length∧ ∀i,i<k→a.regs[i]?=b.regs[i]?} (fun p=>⟨z'J [(2,.pt (cfC a)),(3,.pt (cfC b)),(5,iD (p.1:Nat))],[]⟩) (fun p=>a.regs.length-p.1) ⟨0,by omega,fun i hi=>by omega⟩ ?_ ?_
 ·refine Weak.sub ?_
  simp[sub,upd]
 ·rintro⟨k,hk,hs⟩
  dsimp only
  rcases z'g k a.regs.length with hlt|hge
  ·have hd:decide ((k:Int)<(a.regs.length:Int))=true:=by simp;omega
   have hw:IntKind.i64.wrap ((k:Int)+1)=((k+1:Nat):Int):=by rw[w64 (by omega)];omega
   have hkb:k<b.regs.length:=by omega
   obtain⟨x,hx⟩: ∃x,a.regs[k]?=some x:=⟨_,z'b hlt⟩
   obtain⟨y,hy⟩: ∃y,b.regs[k]?=some y:=⟨_,z'b hkb⟩
   have rx:(y'V a.regs)[k]?=some [z'C x]:=by rw[w'Z,hx];rfl
   have ry:(y'V b.regs)[k]?=some [z'C y]:=by rw[w'Z,hy];rfl
   have xl:=ha.row x (z'h hx)
   have yl:=hb.row y (z'h hy)
   have c3:=Zgh x y (by omega) (by omega)
   by_cases he:x=y
   ·rw[decide_eq_true he]at c3
    repeat' first|refine dr (id:=6) T 10 (by kernel_rfl) ?_|refine gn ?_|(first|apply VCg.step T rfl rfl|apply exF);focus((try simp (disch:=omega) only[go_sem,Nat.reduceBEq,rx,ry,y'm]);(first|exact rfl|refine⟨?_,rfl⟩;try omega))|refine vs T rfl fun K hK=>?_;(try simp (disch:=omega) only[go_sem,Nat.reduceBEq,hd,hw,y'm,z'l]);(first|refine hK _ _ ?_;clear hK K|refine Op1.callp rfl rfl (c3) rfl ?_;refine hK _ _ ?_;clear hK K)|refine st rfl ?_|refine sc rfl ?_|refine nl ?_
    refine⟨⟨k+1,by omega,ZbF hs hx (by rw[hy,he])⟩,Weak.sub ?_,by simp only[];omega⟩
    simp[sub,upd]
   ·rw[decide_eq_false he]at c3
    have hS:x'K a b=false:=by
     have:=Zfd hx hy he
     simp[x'K,this]
    rw[hS]
    repeat' first|refine dr (id:=6) T 10 (by kernel_rfl) ?_|refine gn ?_|(apply VCg.step T rfl rfl);focus((try simp (disch:=omega) only[go_sem,Nat.reduceBEq,rx,ry,y'm]);(first|exact rfl|refine⟨?_,rfl⟩;try omega))|refine vs T rfl fun K hK=>?_;(try simp (disch:=omega) only[go_sem,Nat.reduceBEq,hd,y'm,z'r]);(first|refine hK _ _ ?_;clear hK K|refine Op1.callp rfl rfl (c3) rfl ?_;refine hK _ _ ?_;clear hK K)|refine st rfl ?_|refine sc rfl ?_|refine nl ?_|exact z'n T (z'a _) ⟨rfl,rfl⟩
  ·have hd:decide ((k:Int)<(a.regs.length:Int))=false:=by simp;omega
   have hr:a.regs=b.regs:=Zc8 h3 fun i hi=>hs i (by omega)
   repeat' first|refine vs T rfl fun K hK=>?_;(try simp (disch:=omega) only[go_sem,Nat.reduceBEq,hd,y'm]);(refine hK _ _ ?_;clear hK K)|refine st rfl ?_|refine sc rfl ?_|refine nl ?_
   refine VC.loop {k:Nat//k≤a.bufs.length∧ ∀i,i<k→a.bufs[i]?=b.bufs[i]?} (fun p=>⟨z'J [(2,.pt (cfC a)),(3,.pt (cfC b)),(6,iD (p.1:Nat))],[]⟩) (fun p=>a.bufs.length-p.1) ⟨0,by omega,fun i hi=>by omega⟩ ?_ ?_
   ·refine Weak.sub ?_
    simp[sub,upd]
   ·rintro⟨k,hk,hs⟩
    dsimp only
    rcases z'g k a.bufs.length with hlt|hge
    ·have hd:decide ((k:Int)<(a.bufs.length:Int))=true:=by simp;omega
     have hw:IntKind.i64.wrap ((k:Int)+1)=((k+1:Nat):Int):=by rw[w64 (by omega)];omega
     have hkb:k<b.bufs.length:=by omega
     obtain⟨x,hx⟩: ∃x,a.bufs[k]?=some x:=⟨_,z'b hlt⟩
     obtain⟨y,hy⟩: ∃y,b.bufs[k]?=some y:=⟨_,z'b hkb⟩
     have rx:(y'Y a.bufs)[k]?=some [buf x]:=by rw[x'b,hx];rfl
     have ry:(y'Y b.bufs)[k]?=some [buf y]:=by rw[x'b,hy];rfl
     have xl:=ha.buf x (z'h hx)
     have yl:=hb.buf y (z'h hy)
     have c3:=ZoF x y (by omega) (by omega)
     by_cases he:x=y
     ·rw[decide_eq_true he]at c3
      repeat' first|refine dr (id:=11) T 10 (by kernel_rfl) ?_|refine gn ?_|(first|apply VCg.step T rfl rfl|apply exF);focus((try simp (disch:=omega) only[go_sem,Nat.reduceBEq,rx,ry,z'Z]);(first|exact rfl|refine⟨?_,rfl⟩;try omega))|refine vs T rfl fun K hK=>?_;(try simp (disch:=omega) only[go_sem,Nat.reduceBEq,hd,hw,z'Z,z'l]);(first|refine hK _ _ ?_;clear hK K|refine Op1.callp rfl rfl (c3) rfl ?_;refine hK _ _ ?_;clear hK K)|refine st rfl ?_|refine sc rfl ?_|refine nl ?_
      refine⟨⟨k+1,by omega,ZbF hs hx (by rw[hy,he])⟩,Weak.sub ?_,by simp only[];omega⟩
      simp[sub,upd]
     ·rw[decide_eq_false he]at c3
      have hS:x'K a b=false:=by
       have:=Zfd hx hy he
       simp[x'K,this]
      rw[hS]
      repeat' first|refine dr (id:=11) T 10 (by kernel_rfl) ?_|refine gn ?_|(apply VCg.step T rfl rfl);focus((try simp (disch:=omega) only[go_sem,Nat.reduceBEq,rx,ry,z'Z]);(first|exact rfl|refine⟨?_,rfl⟩;try omega))|refine vs T rfl fun K hK=>?_;(try simp (disch:=omega) only[go_sem,Nat.reduceBEq,hd,z'Z,z'r]);(first|refine hK _ _ ?_;clear hK K|refine Op1.callp rfl rfl (c3) rfl ?_;refine hK _ _ ?_;clear hK K)|refine st rfl ?_|refine sc rfl ?_|refine nl ?_|exact z'n T (z'a _) ⟨rfl,rfl⟩
    ·have hd:decide ((k:Int)<(a.bufs.length:Int))=false:=by simp;omega
     have hb':a.bufs=b.bufs:=Zc8 h4 fun i hi=>hs i (by omega)
     have hS:x'K a b=true:=by simp[x'K,h1,h2,hr,hb']
     rw[hS]
     repeat' first|refine vs T rfl fun K hK=>?_;(try simp (disch:=omega) only[go_sem,Nat.reduceBEq,hd,z'Z]);(refine hK _ _ ?_;clear hK K)|refine st rfl ?_|refine sc rfl ?_|refine nl ?_|exact z'n T (z'a _) ⟨rfl,rfl⟩
end Go.Proofs.YtfneeacgkdhldaaGreat
