/- Contracts: the program's operators, and how many numbers lie there. No condition. -/
import Derived.Test.YthlkpnjjkgmlkaaGreatYla
import Derived.Test.YthlkpnjjkgmlkaaGreatK2
namespace Go.Proofs.YthlkpnjjkgmlkaaGreat
set_option maxHeartbeats 16000000
set_option linter.unusedSimpArgs false
set_option linter.unusedVariables false
set_option maxRecDepth 20000
open Go Go.Proofs Go.Vc
attribute [local irreducible] x'c VCg VCw VCx
theorem ZaV (b:Bool):Pure Tryz.prog 193 [bD b] (iD (tI b)):=by
 refine Fun.of T [.tmp 2] Tryz.func193 rfl Tryz.ntmps193 Tryz.results193 rfl (by kernel_rfl) ?_
 cases b
 ·repeat' first|refine vs T rfl fun K hK=>?_;(try simp (disch:=omega) only[go_sem,Nat.reduceBEq]);(refine hK _ _ ?_;clear hK K)|refine st rfl ?_|refine sc rfl ?_|refine nl ?_|exact z'A T (z'a _) ⟨rfl,rfl⟩
 ·repeat' first|refine vs T rfl fun K hK=>?_;(try simp (disch:=omega) only[go_sem,Nat.reduceBEq]);(refine hK _ _ ?_;clear hK K)|refine st rfl ?_|refine sc rfl ?_|refine nl ?_|exact z'A T (z'a _) ⟨rfl,rfl⟩
theorem ZtG (a b md:Int):Pure Tryz.prog 192 [iD a,iD b,iD md] (iD (tI (b == 0))):=by
 refine Fun.of T [.tmp 6] Tryz.func192 rfl Tryz.ntmps192 Tryz.results192 rfl (by kernel_rfl) ?_
 repeat' first|refine vs T rfl fun K hK=>?_;(try simp (disch:=omega) only[go_sem,Nat.reduceBEq,Nat.reduceAdd]);(first|refine hK _ _ ?_;clear hK K|refine Op1.callp rfl rfl (ZaV _) rfl ?_;refine hK _ _ ?_;clear hK K)|refine st rfl ?_|refine nl ?_|exact z'A T (z'a _) ⟨rfl,rfl⟩
def fnO (op:Int):Nat:=if op=6 then 194 else if op=7 then 195 else if op=8 then 196 else if op=9 then 197 else if op=10 then 198 else if op=11 then 199
 else if op=12 then 200 else if op=13 then 201 else 202
theorem Zt8 (op a b md:Int) (h:6≤op∧op≤14) (ha:0≤a∧a≤100000) (hb:0≤b∧b≤100000) (hm:0<md∧md≤100000):Pure Tryz.prog (fnO op) [iD a,iD b,iD md] (iD (w'V op a b md)):=by
 have hab:0≤a*b∧a*b≤10000000000:=⟨Int.mul_nonneg ha.1 hb.1,by
  have:=Int.mul_le_mul ha.2 hb.2 hb.1 (by decide:(0:Int)≤100000)
  omega⟩
 have w1:IntKind.i64.wrap (a+b)=a+b:=by rw[w64 (by omega)]
 have w2:IntKind.i64.wrap (a+md)=a+md:=by rw[w64 (by omega)]
 have w3:IntKind.i64.wrap (a+md-b)=a+md-b:=by rw[w64 (by omega)]
 have w4:IntKind.i64.wrap (a*b)=a*b:=by rw[w64 (by omega)]
 have hmd:md≠0:=by omega
 by_cases h6:op=6
 ·subst h6
  show Pure Tryz.prog 194 _ _
  refine Fun.of T [.tmp 6] Tryz.func194 rfl Tryz.ntmps194 Tryz.results194 rfl (by kernel_rfl) ?_
  repeat' first|refine vs T rfl fun K hK=>?_;(try simp (disch:=omega) only[go_sem,Nat.reduceBEq,Nat.reduceAdd,w1,hmd,ne_eq,not_false_eq_true]);(refine hK _ _ ?_;clear hK K)|refine st rfl ?_|refine nl ?_|exact z'A T (z'a _) ⟨rfl,rfl⟩
  all_goals first|rfl|(simp_all[w'V,tI];done)
 by_cases h7:op=7
 ·subst h7
  show Pure Tryz.prog 195 _ _
  have e:w'V 7 a b md=(a+md-b).tmod md:=by simp[w'V];congr 1;omega
  rw[e]
  refine Fun.of T [.tmp 6] Tryz.func195 rfl Tryz.ntmps195 Tryz.results195 rfl (by kernel_rfl) ?_
  repeat' first|refine vs T rfl fun K hK=>?_;(try simp (disch:=omega) only[go_sem,Nat.reduceBEq,Nat.reduceAdd,w2,w3,hmd,ne_eq,not_false_eq_true]);(refine hK _ _ ?_;clear hK K)|refine st rfl ?_|refine nl ?_|exact z'A T (z'a _) ⟨rfl,rfl⟩
  all_goals first|rfl|(simp_all[w'V,tI];done)
 by_cases h8:op=8
 ·subst h8
  show Pure Tryz.prog 196 _ _
  refine Fun.of T [.tmp 6] Tryz.func196 rfl Tryz.ntmps196 Tryz.results196 rfl (by kernel_rfl) ?_
  repeat' first|refine vs T rfl fun K hK=>?_;(try simp (disch:=omega) only[go_sem,Nat.reduceBEq,Nat.reduceAdd,w4,hmd,ne_eq,not_false_eq_true]);(refine hK _ _ ?_;clear hK K)|refine st rfl ?_|refine nl ?_|exact z'A T (z'a _) ⟨rfl,rfl⟩
  all_goals first|rfl|(simp_all[w'V,tI];done)
 by_cases h9:op=9
 ·subst h9
  show Pure Tryz.prog 197 _ _
  refine Fun.of T [.tmp 6] Tryz.func197 rfl Tryz.ntmps197 Tryz.results197 rfl (by kernel_rfl) ?_
  repeat' first|refine vs T rfl fun K hK=>?_;(try simp (disch:=omega) only[go_sem,Nat.reduceBEq,Nat.reduceAdd]);(first|refine hK _ _ ?_;clear hK K|refine Op1.callp rfl rfl (ZaV _) rfl ?_;refine hK _ _ ?_;clear hK K)|refine st rfl ?_|refine nl ?_|exact z'A T (z'a _) ⟨rfl,rfl⟩
  all_goals first|rfl|(simp_all[w'V,tI];done)
 by_cases h10:op=10
 ·subst h10
  show Pure Tryz.prog 198 _ _
  refine Fun.of T [.tmp 6] Tryz.func198 rfl Tryz.ntmps198 Tryz.results198 rfl (by kernel_rfl) ?_
  repeat' first|refine vs T rfl fun K hK=>?_;(try simp (disch:=omega) only[go_sem,Nat.reduceBEq,Nat.reduceAdd]);(first|refine hK _ _ ?_;clear hK K|refine Op1.callp rfl rfl (ZaV _) rfl ?_;refine hK _ _ ?_;clear hK K)|refine st rfl ?_|refine nl ?_|exact z'A T (z'a _) ⟨rfl,rfl⟩
  all_goals first|rfl|(simp_all[w'V,tI];done)
 by_cases h11:op=11
 ·subst h11
  show Pure Tryz.prog 199 _ _
  refine Fun.of T [.tmp 6] Tryz.func199 rfl Tryz.ntmps199 Tryz.results199 rfl (by kernel_rfl) ?_
  repeat' first|refine vs T rfl fun K hK=>?_;(try simp (disch:=omega) only[go_sem,Nat.reduceBEq,Nat.reduceAdd]);(first|refine hK _ _ ?_;clear hK K|refine Op1.callp rfl rfl (ZaV _) rfl ?_;refine hK _ _ ?_;clear hK K)|refine st rfl ?_|refine nl ?_|exact z'A T (z'a _) ⟨rfl,rfl⟩
  all_goals first|rfl|(simp_all[w'V,tI];done)
 by_cases h12:op=12
 ·subst h12
  show Pure Tryz.prog 200 _ _
  refine Fun.of T [.tmp 6] Tryz.func200 rfl Tryz.ntmps200 Tryz.results200 rfl (by kernel_rfl) ?_
  repeat' first|refine vs T rfl fun K hK=>?_;(try simp (disch:=omega) only[go_sem,Nat.reduceBEq,Nat.reduceAdd]);(first|refine hK _ _ ?_;clear hK K|refine Op1.callp rfl rfl (ZaV _) rfl ?_;refine hK _ _ ?_;clear hK K)|refine st rfl ?_|refine nl ?_|exact z'A T (z'a _) ⟨rfl,rfl⟩
  all_goals first|rfl|(simp_all[w'V,tI];done)
 by_cases h13:op=13
 ·subst h13
  show Pure Tryz.prog 201 _ _
  have e:w'V 13 a b md=tI (a*b != 0):=by
   simp only[w'V]
   simp only[show ¬((13:Int)=6) by decide,show ¬((13:Int)=7) by decide,show ¬((13:Int)=8) by decide,show ¬((13:Int)=9) by decide,show ¬((13:Int)=10) by decide,show ¬((13:Int)=11) by decide,show ¬((13:Int)=12) by decide,if_false,if_true]
   congr 1
   rw[x'0]
   simp[Int.mul_eq_zero]
  rw[e]
  refine Fun.of T [.tmp 6] Tryz.func201 rfl Tryz.ntmps201 Tryz.results201 rfl (by kernel_rfl) ?_
  repeat' first|refine vs T rfl fun K hK=>?_;(try simp (disch:=omega) only[go_sem,Nat.reduceBEq,Nat.reduceAdd,w4]);(first|refine hK _ _ ?_;clear hK K|refine Op1.callp rfl rfl (ZaV _) rfl ?_;refine hK _ _ ?_;clear hK K)|refine st rfl ?_|refine nl ?_|exact z'A T (z'a _) ⟨rfl,rfl⟩
  all_goals first|rfl|(simp_all[w'V,tI];done)
 obtain rfl:op=14:=by omega
 show Pure Tryz.prog 202 _ _
 have e:w'V 14 a b md=tI (a+b != 0):=by
  simp only[w'V]
  simp only[show ¬((14:Int)=6) by decide,show ¬((14:Int)=7) by decide,show ¬((14:Int)=8) by decide,show ¬((14:Int)=9) by decide,show ¬((14:Int)=10) by decide,show ¬((14:Int)=11) by decide,show ¬((14:Int)=12) by decide,show ¬((14:Int)=13) by decide,if_false,if_true]
  congr 1
  rw[x'0]
  simp
  omega
 rw[e]
 refine Fun.of T [.tmp 6] Tryz.func202 rfl Tryz.ntmps202 Tryz.results202 rfl (by kernel_rfl) ?_
 repeat' first|refine vs T rfl fun K hK=>?_;(try simp (disch:=omega) only[go_sem,Nat.reduceBEq,Nat.reduceAdd,w1]);(first|refine hK _ _ ?_;clear hK K|refine Op1.callp rfl rfl (ZaV _) rfl ?_;refine hK _ _ ?_;clear hK K)|refine st rfl ?_|refine nl ?_|exact z'A T (z'a _) ⟨rfl,rfl⟩
 all_goals first|rfl|(simp_all[w'V,tI];done)
abbrev fD (f:Nat):D:= .is (.func (.func f) #[] #[])
def ofD (op:Int):D:=if op=5 then .tup [.agg [iD 1,fD 192],bD true]else if 6≤op∧op≤14 then .tup [.agg [iD 2,fD (fnO op)],bD true]else .tup [.agg [iD 0,.is .nilFunc],bD false]
def opTab:List D:=[iD 0,.is .nilFunc,iD 0,.is .nilFunc,iD 0,.is .nilFunc,iD 0,.is .nilFunc,iD 0,.is .nilFunc,iD 1,fD 192,iD 2,fD 194,iD 2,fD 195,iD 2,fD 196,iD 2,fD 197,iD 2,fD 198,iD 2,fD 199,iD 2,fD 200,iD 2,fD 201,iD 2,fD 202]
theorem ZqL (op:Int) (h:5≤op∧op≤14): ∃tk f,(opTab.drop (op.toNat*2)).take 2=[iD tk,fD f]∧ofD op= .tup [.agg [iD tk,fD f],bD true]:=by
 obtain⟨k,rfl⟩: ∃k:Nat,op=(k:Int)+5:=⟨(op-5).toNat,by omega⟩
 have hk:k≤9:=by omega
 match k,hk with
 |0,_=>exact⟨_,_,rfl,rfl⟩
 |1,_=>exact⟨_,_,rfl,rfl⟩
 |2,_=>exact⟨_,_,rfl,rfl⟩
 |3,_=>exact⟨_,_,rfl,rfl⟩
 |4,_=>exact⟨_,_,rfl,rfl⟩
 |5,_=>exact⟨_,_,rfl,rfl⟩
 |6,_=>exact⟨_,_,rfl,rfl⟩
 |7,_=>exact⟨_,_,rfl,rfl⟩
 |8,_=>exact⟨_,_,rfl,rfl⟩
 |9,_=>exact⟨_,_,rfl,rfl⟩
theorem Zry (op:Int):Pure Tryz.prog 131 [iD op] (ofD op):=by
 refine Fun.of T [.cell 2 186,.tmp 3] Tryz.func131 rfl Tryz.ntmps131 Tryz.results131 rfl (by kernel_rfl) ?_
 by_cases h5:op<5
 ·have e5:decide (op<5)=true:=by simpa using h5
  have hD:ofD op= .tup [.agg [iD 0,.is .nilFunc],bD false]:=by unfold ofD;rw[if_neg (by omega),if_neg (by omega)]
  rw[hD]
  repeat' first|refine vt rfl fun K hK=>?_;refine ZeK T (t:=239) (ps:=[(5,.tmp 5),(6,.tmp 6),(7,.tmp 7),(8,.tmp 8),(9,.tmp 9),(10,.tmp 10),(11,.tmp 11),(12,.tmp 12),(13,.tmp 13),(14,.tmp 14)]) rfl (by rw[T239];rfl) (by(simp (disch:=omega) only[go_sem,Nat.reduceBEq,Nat.reduceAdd,Nat.reduceMul]);rfl) (by rfl) (hK _ _ ?_);clear hK K;(try simp only[updO])|refine vs T rfl fun K hK=>?_;(try simp (disch:=omega) only[go_sem,Nat.reduceBEq,Nat.reduceAdd,Nat.reduceLeDiff,e5]);(first|refine hK _ _ ?_;clear hK K|intro bq hbq;(try simp only[HB]at hbq);refine hK _ _ ?_;clear hK K)|refine st rfl ?_|refine sc rfl ?_|refine nl ?_|refine gs rfl rfl ?_|exact w'N T rfl (by(simp (disch:=omega) only[hget_ne,hget_eq])<;>rfl) rfl rfl rfl (z'a _) ⟨rfl,rfl⟩
 have e5:decide (op<5)=false:=by simpa using h5
 by_cases h15:op≥15
 ·have e15:decide (op≥15)=true:=by simpa using h15
  have hD:ofD op= .tup [.agg [iD 0,.is .nilFunc],bD false]:=by unfold ofD;rw[if_neg (by omega),if_neg (by omega)]
  rw[hD]
  repeat' first|refine vt rfl fun K hK=>?_;refine ZeK T (t:=239) (ps:=[(5,.tmp 5),(6,.tmp 6),(7,.tmp 7),(8,.tmp 8),(9,.tmp 9),(10,.tmp 10),(11,.tmp 11),(12,.tmp 12),(13,.tmp 13),(14,.tmp 14)]) rfl (by rw[T239];rfl) (by(simp (disch:=omega) only[go_sem,Nat.reduceBEq,Nat.reduceAdd,Nat.reduceMul]);rfl) (by rfl) (hK _ _ ?_);clear hK K;(try simp only[updO])|refine vs T rfl fun K hK=>?_;(try simp (disch:=omega) only[go_sem,Nat.reduceBEq,Nat.reduceAdd,Nat.reduceLeDiff,e5,e15]);(first|refine hK _ _ ?_;clear hK K|intro bq hbq;(try simp only[HB]at hbq);refine hK _ _ ?_;clear hK K)|refine st rfl ?_|refine sc rfl ?_|refine nl ?_|refine gs rfl rfl ?_|exact w'N T rfl (by(simp (disch:=omega) only[hget_ne,hget_eq])<;>rfl) rfl rfl rfl (z'a _) ⟨rfl,rfl⟩
 have e15:decide (op≥15)=false:=by simpa using h15
 obtain⟨tk,f,h1,h2⟩:=ZqL op (by omega)
 rw[h2]
 simp only[opTab]at h1
 repeat' first|refine vt rfl fun K hK=>?_;refine ZeK T (t:=239) (ps:=[(5,.tmp 5),(6,.tmp 6),(7,.tmp 7),(8,.tmp 8),(9,.tmp 9),(10,.tmp 10),(11,.tmp 11),(12,.tmp 12),(13,.tmp 13),(14,.tmp 14)]) rfl (by rw[T239];rfl) (by(simp (disch:=omega) only[go_sem,Nat.reduceBEq,Nat.reduceAdd,Nat.reduceMul]);rfl) (by rfl) (hK _ _ ?_);clear hK K;(try simp only[updO])|refine vt rfl fun K hK=>Zle T rfl rfl rfl rfl (by omega) (hK _ _ ?_);(try simp only[updO])|refine vs T rfl fun K hK=>?_;(try simp (disch:=omega) only[go_sem,Nat.reduceBEq,Nat.reduceAdd,Nat.reduceLeDiff,e5,e15,h1]);(first|refine hK _ _ ?_;clear hK K|intro bq hbq;(try simp only[HB]at hbq);refine hK _ _ ?_;clear hK K|refine⟨?_,hK _ _ ?_⟩<;>clear hK K;focus(try omega))|refine st rfl ?_|refine sc rfl ?_|refine nl ?_|refine gs rfl rfl ?_|exact w'N T rfl (by(simp (disch:=omega) only[hget_ne,hget_eq])<;>rfl) rfl rfl rfl (z'a _) ⟨rfl,rfl⟩
end Go.Proofs.YthlkpnjjkgmlkaaGreat
