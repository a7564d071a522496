/- Contracts: the program's operators, and how many numbers lie there. No condition. -/
import Derived.Test.YtfneeacgkdhldaaGreatXg
import Derived.Test.YtfneeacgkdhldaaGreatK2
import Derived.Test.YtfneeacgkdhldaaGreatXk
namespace Go.Proofs.YtfneeacgkdhldaaGreat
set_option maxHeartbeats 16000000
set_option linter.unusedSimpArgs false
set_option linter.unusedVariables false
set_option maxRecDepth 20000
open Go Go.Proofs Go.Vc
attribute [local irreducible] y'5 VCg VCw VCx
theorem Zba (b:Bool):Pure Tryz.prog 124 [bD b] (iD (tI b)):=by
 refine Fun.of T [.tmp 2] Tryz.func124 rfl Tryz.ntmps124 Tryz.results124 rfl (by kernel_rfl) ?_
 cases b
 ·repeat' first|refine vs T rfl fun K hK=>?_;(try simp (disch:=omega) only[go_sem,Nat.reduceBEq]);(refine hK _ _ ?_;clear hK K)|refine st rfl ?_|refine sc rfl ?_|refine nl ?_|exact z'n T (z'a _) ⟨rfl,rfl⟩
 ·repeat' first|refine vs T rfl fun K hK=>?_;(try simp (disch:=omega) only[go_sem,Nat.reduceBEq]);(refine hK _ _ ?_;clear hK K)|refine st rfl ?_|refine sc rfl ?_|refine nl ?_|exact z'n T (z'a _) ⟨rfl,rfl⟩
theorem Zps (a b md:Int):Pure Tryz.prog 123 [iD a,iD b,iD md] (iD (tI (b == 0))):=by
 refine Fun.of T [.tmp 6] Tryz.func123 rfl Tryz.ntmps123 Tryz.results123 rfl (by kernel_rfl) ?_
 repeat' first|refine vs T rfl fun K hK=>?_;(try simp (disch:=omega) only[go_sem,Nat.reduceBEq,Nat.reduceAdd]);(first|refine hK _ _ ?_;clear hK K|refine Op1.callp rfl rfl (Zba _) rfl ?_;refine hK _ _ ?_;clear hK K)|refine st rfl ?_|refine nl ?_|exact z'n T (z'a _) ⟨rfl,rfl⟩
def fnO (op:Int):Nat:=if op=6 then 125 else if op=7 then 126 else if op=8 then 127 else if op=9 then 128 else if op=10 then 129 else if op=11 then 130
 else if op=12 then 131 else if op=13 then 132 else 133
theorem ZpU (op a b md:Int) (h:6≤op∧op≤14) (ha:0≤a∧a≤100000) (hb:0≤b∧b≤100000) (hm:0<md∧md≤100000):Pure Tryz.prog (fnO op) [iD a,iD b,iD md] (iD (x'E op a b md)):=by
 have hab:0≤a*b∧a*b≤10000000000:=⟨Int.mul_nonneg ha.1 hb.1,by
  have:=Int.mul_le_mul ha.2 hb.2 hb.1 (by decide:(0:Int)≤100000)
  omega⟩
 have w1:IntKind.i64.wrap (a+b)=a+b:=by rw[w64 (by omega)]
 have w2:IntKind.i64.wrap (a+md)=a+md:=by rw[w64 (by omega)]
 have w3:IntKind.i64.wrap (a+md-b)=a+md-b:=by rw[w64 (by omega)]
 have w4:IntKind.i64.wrap (a*b)=a*b:=by rw[w64 (by omega)]
 have hmd:md≠0:=by omega
 by_cases h6:op=6
 ·subst h6
  show Pure Tryz.prog 125 _ _
  refine Fun.of T [.tmp 6] Tryz.func125 rfl Tryz.ntmps125 Tryz.results125 rfl (by kernel_rfl) ?_
  repeat' first|refine vs T rfl fun K hK=>?_;(try simp (disch:=omega) only[go_sem,Nat.reduceBEq,Nat.reduceAdd,w1,hmd,ne_eq,not_false_eq_true]);(refine hK _ _ ?_;clear hK K)|refine st rfl ?_|refine nl ?_|exact z'n T (z'a _) ⟨rfl,rfl⟩
  all_goals first|rfl|(simp_all[x'E,tI];done)
 by_cases h7:op=7
 ·subst h7
  show Pure Tryz.prog 126 _ _
  have e:x'E 7 a b md=(a+md-b).tmod md:=by simp[x'E];congr 1;omega
  rw[e]
  refine Fun.of T [.tmp 6] Tryz.func126 rfl Tryz.ntmps126 Tryz.results126 rfl (by kernel_rfl) ?_
  repeat' first|refine vs T rfl fun K hK=>?_;(try simp (disch:=omega) only[go_sem,Nat.reduceBEq,Nat.reduceAdd,w2,w3,hmd,ne_eq,not_false_eq_true]);(refine hK _ _ ?_;clear hK K)|refine st rfl ?_|refine nl ?_|exact z'n T (z'a _) ⟨rfl,rfl⟩
  all_goals first|rfl|(simp_all[x'E,tI];done)
 by_cases h8:op=8
 ·subst h8
  show Pure Tryz.prog 127 _ _
  refine Fun.of T [.tmp 6] Tryz.func127 rfl Tryz.ntmps127 Tryz.results127 rfl (by kernel_rfl) ?_
  repeat' first|refine vs T rfl fun K hK=>?_;(try simp (disch:=omega) only[go_sem,Nat.reduceBEq,Nat.reduceAdd,w4,hmd,ne_eq,not_false_eq_true]);(refine hK _ _ ?_;clear hK K)|refine st rfl ?_|refine nl ?_|exact z'n T (z'a _) ⟨rfl,rfl⟩
  all_goals first|rfl|(simp_all[x'E,tI];done)
 by_cases h9:op=9
 ·subst h9
  show Pure Tryz.prog 128 _ _
  refine Fun.of T [.tmp 6] Tryz.func128 rfl Tryz.ntmps128 Tryz.results128 rfl (by kernel_rfl) ?_
  repeat' first|refine vs T rfl fun K hK=>?_;(try simp (disch:=omega) only[go_sem,Nat.reduceBEq,Nat.reduceAdd]);(first|refine hK _ _ ?_;clear hK K|refine Op1.callp rfl rfl (Zba _) rfl ?_;refine hK _ _ ?_;clear hK K)|refine st rfl ?_|refine nl ?_|exact z'n T (z'a _) ⟨rfl,rfl⟩
  all_goals first|rfl|(simp_all[x'E,tI];done)
 by_cases h10:op=10
 ·subst h10
  show Pure Tryz.prog 129 _ _
  refine Fun.of T [.tmp 6] Tryz.func129 rfl Tryz.ntmps129 Tryz.results129 rfl (by kernel_rfl) ?_
  repeat' first|refine vs T rfl fun K hK=>?_;(try simp (disch:=omega) only[go_sem,Nat.reduceBEq,Nat.reduceAdd]);(first|refine hK _ _ ?_;clear hK K|refine Op1.callp rfl rfl (Zba _) rfl ?_;refine hK _ _ ?_;clear hK K)|refine st rfl ?_|refine nl ?_|exact z'n T (z'a _) ⟨rfl,rfl⟩
  all_goals first|rfl|(simp_all[x'E,tI];done)
 by_cases h11:op=11
 ·subst h11
  show Pure Tryz.prog 130 _ _
  refine Fun.of T [.tmp 6] Tryz.func130 rfl Tryz.ntmps130 Tryz.results130 rfl (by kernel_rfl) ?_
  repeat' first|refine vs T rfl fun K hK=>?_;(try simp (disch:=omega) only[go_sem,Nat.reduceBEq,Nat.reduceAdd]);(first|refine hK _ _ ?_;clear hK K|refine Op1.callp rfl rfl (Zba _) rfl ?_;refine hK _ _ ?_;clear hK K)|refine st rfl ?_|refine nl ?_|exact z'n T (z'a _) ⟨rfl,rfl⟩
  all_goals first|rfl|(simp_all[x'E,tI];done)
 by_cases h12:op=12
 ·subst h12
  show Pure Tryz.prog 131 _ _
  refine Fun.of T [.tmp 6] Tryz.func131 rfl Tryz.ntmps131 Tryz.results131 rfl (by kernel_rfl) ?_
  repeat' first|refine vs T rfl fun K hK=>?_;(try simp (disch:=omega) only[go_sem,Nat.reduceBEq,Nat.reduceAdd]);(first|refine hK _ _ ?_;clear hK K|refine Op1.callp rfl rfl (Zba _) rfl ?_;refine hK _ _ ?_;clear hK K)|refine st rfl ?_|refine nl ?_|exact z'n T (z'a _) ⟨rfl,rfl⟩
  all_goals first|rfl|(simp_all[x'E,tI];done)
 by_cases h13:op=13
 ·subst h13
  show Pure Tryz.prog 132 _ _
  have e:x'E 13 a b md=tI (a*b != 0):=by
   simp only[x'E]
   simp only[show ¬((13:Int)=6) by decide,show ¬((13:Int)=7) by decide,show ¬((13:Int)=8) by decide,show ¬((13:Int)=9) by decide,show ¬((13:Int)=10) by decide,show ¬((13:Int)=11) by decide,show ¬((13:Int)=12) by decide,if_false,if_true]
   congr 1
   rw[x'Y]
   simp[Int.mul_eq_zero]
  rw[e]
  refine Fun.of T [.tmp 6] Tryz.func132 rfl Tryz.ntmps132 Tryz.results132 rfl (by kernel_rfl) ?_
  repeat' first|refine vs T rfl fun K hK=>?_;(try simp (disch:=omega) only[go_sem,Nat.reduceBEq,Nat.reduceAdd,w4]);(first|refine hK _ _ ?_;clear hK K|refine Op1.callp rfl rfl (Zba _) rfl ?_;refine hK _ _ ?_;clear hK K)|refine st rfl ?_|refine nl ?_|exact z'n T (z'a _) ⟨rfl,rfl⟩
  all_goals first|rfl|(simp_all[x'E,tI];done)
 obtain rfl:op=14:=by omega
 show Pure Tryz.prog 133 _ _
 have e:x'E 14 a b md=tI (a+b != 0):=by
  simp only[x'E]
  simp only[show ¬((14:Int)=6) by decide,show ¬((14:Int)=7) by decide,show ¬((14:Int)=8) by decide,show ¬((14:Int)=9) by decide,show ¬((14:Int)=10) by decide,show ¬((14:Int)=11) by decide,show ¬((14:Int)=12) by decide,show ¬((14:Int)=13) by decide,if_false,if_true]
  congr 1
  rw[x'Y]
  simp
  omega
 rw[e]
 refine Fun.of T [.tmp 6] Tryz.func133 rfl Tryz.ntmps133 Tryz.results133 rfl (by kernel_rfl) ?_
 repeat' first|refine vs T rfl fun K hK=>?_;(try simp (disch:=omega) only[go_sem,Nat.reduceBEq,Nat.reduceAdd,w1]);(first|refine hK _ _ ?_;clear hK K|refine Op1.callp rfl rfl (Zba _) rfl ?_;refine hK _ _ ?_;clear hK K)|refine st rfl ?_|refine nl ?_|exact z'n T (z'a _) ⟨rfl,rfl⟩
 all_goals first|rfl|(simp_all[x'E,tI];done)
abbrev fD (f:Nat):D:= .is (.func (.func f) #[] #[])
def ofD (op:Int):D:=if op=5 then .tup [.agg [iD 1,fD 123],bD true]else if 6≤op∧op≤14 then .tup [.agg [iD 2,fD (fnO op)],bD true]else .tup [.agg [iD 0,.is .nilFunc],bD false]
def opTab:List D:=[iD 0,.is .nilFunc,iD 0,.is .nilFunc,iD 0,.is .nilFunc,iD 0,.is .nilFunc,iD 0,.is .nilFunc,iD 1,fD 123,iD 2,fD 125,iD 2,fD 126,iD 2,fD 127,iD 2,fD 128,iD 2,fD 129,iD 2,fD 130,iD 2,fD 131,iD 2,fD 132,iD 2,fD 133]
theorem Zmr (op:Int) (h:5≤op∧op≤14): ∃tk f,(opTab.drop (op.toNat*2)).take 2=[iD tk,fD f]∧ofD op= .tup [.agg [iD tk,fD f],bD true]:=by
 obtain⟨k,rfl⟩: ∃k:Nat,op=(k:Int)+5:=⟨(op-5).toNat,by omega⟩
 have hk:k≤9:=by omega
 match k,hk with
 |0,_=>exact⟨_,_,rfl,rfl⟩
 |1,_=>exact⟨_,_,rfl,rfl⟩
 |2,_=>exact⟨_,_,rfl,rfl⟩
 |3,_=>exact⟨_,_,rfl,rfl⟩
 |4,_=>exact⟨_,_,rfl,rfl⟩
 |5,_=>exact⟨_,_,rfl,rfl⟩
 |6,_=>exact⟨_,_,rfl,rfl⟩
 |7,_=>exact⟨_,_,rfl,rfl⟩
 |8,_=>exact⟨_,_,rfl,rfl⟩
 |9,_=>exact⟨_,_,rfl,rfl⟩
theorem Znh (op:Int):Pure Tryz.prog 122 [iD op] (ofD op):=by
 refine Fun.of T [.cell 2 178,.tmp 3] Tryz.func122 rfl Tryz.ntmps122 Tryz.results122 rfl (by kernel_rfl) ?_
 by_cases h5:op<5
 ·have e5:decide (op<5)=true:=by simpa using h5
  have hD:ofD op= .tup [.agg [iD 0,.is .nilFunc],bD false]:=by unfold ofD;rw[if_neg (by omega),if_neg (by omega)]
  rw[hD]
  repeat' first|refine vt rfl fun K hK=>?_;refine Zfh T (t:=181) (ps:=[(5,.tmp 5),(6,.tmp 6),(7,.tmp 7),(8,.tmp 8),(9,.tmp 9),(10,.tmp 10),(11,.tmp 11),(12,.tmp 12),(13,.tmp 13),(14,.tmp 14)]) rfl (by rw[T181];rfl) (by(simp (disch:=omega) only[go_sem,Nat.reduceBEq,Nat.reduceAdd,Nat.reduceMul]);rfl) (by rfl) (hK _ _ ?_);clear hK K;(try simp only[updO])|refine vs T rfl fun K hK=>?_;(try simp (disch:=omega) only[go_sem,Nat.reduceBEq,Nat.reduceAdd,Nat.reduceLeDiff,e5]);(first|refine hK _ _ ?_;clear hK K|intro bq hbq;(try simp only[HB]at hbq);refine hK _ _ ?_;clear hK K)|refine st rfl ?_|refine sc rfl ?_|refine nl ?_|refine gs rfl rfl ?_|exact x'g T rfl (by(simp (disch:=omega) only[hget_ne,hget_eq])<;>rfl) rfl rfl rfl (z'a _) ⟨rfl,rfl⟩
 have e5:decide (op<5)=false:=by simpa using h5
 by_cases h15:op≥15
 ·have e15:decide (op≥15)=true:=by simpa using h15
  have hD:ofD op= .tup [.agg [iD 0,.is .nilFunc],bD false]:=by unfold ofD;rw[if_neg (by omega),if_neg (by omega)]
  rw[hD]
  repeat' first|refine vt rfl fun K hK=>?_;refine Zfh T (t:=181) (ps:=[(5,.tmp 5),(6,.tmp 6),(7,.tmp 7),(8,.tmp 8),(9,.tmp 9),(10,.tmp 10),(11,.tmp 11),(12,.tmp 12),(13,.tmp 13),(14,.tmp 14)]) rfl (by rw[T181];rfl) (by(simp (disch:=omega) only[go_sem,Nat.reduceBEq,Nat.reduceAdd,Nat.reduceMul]);rfl) (by rfl) (hK _ _ ?_);clear hK K;(try simp only[updO])|refine vs T rfl fun K hK=>?_;(try simp (disch:=omega) only[go_sem,Nat.reduceBEq,Nat.reduceAdd,Nat.reduceLeDiff,e5,e15]);(first|refine hK _ _ ?_;clear hK K|intro bq hbq;(try simp only[HB]at hbq);refine hK _ _ ?_;clear hK K)|refine st rfl ?_|refine sc rfl ?_|refine nl ?_|refine gs rfl rfl ?_|exact x'g T rfl (by(simp (disch:=omega) only[hget_ne,hget_eq])<;>rfl) rfl rfl rfl (z'a _) ⟨rfl,rfl⟩
 have e15:decide (op≥15)=false:=by simpa using h15
 obtain⟨tk,f,h1,h2⟩:=Zmr op (by omega)
 rw[h2]
 simp only[opTab]at h1
 repeat' first|refine vt rfl fun K hK=>?_;refine Zfh T (t:=181) (ps:=[(5,.tmp 5),(6,.tmp 6),(7,.tmp 7),(8,.tmp 8),(9,.tmp 9),(10,.tmp 10),(11,.tmp 11),(12,.tmp 12),(13,.tmp 13),(14,.tmp 14)]) rfl (by rw[T181];rfl) (by(simp (disch:=omega) only[go_sem,Nat.reduceBEq,Nat.reduceAdd,Nat.reduceMul]);rfl) (by rfl) (hK _ _ ?_);clear hK K;(try simp only[updO])|refine vt rfl fun K hK=>ZmK T rfl rfl rfl rfl (by omega) (hK _ _ ?_);(try simp only[updO])|refine vs T rfl fun K hK=>?_;(try simp (disch:=omega) only[go_sem,Nat.reduceBEq,Nat.reduceAdd,Nat.reduceLeDiff,e5,e15,h1]);(first|refine hK _ _ ?_;clear hK K|intro bq hbq;(try simp only[HB]at hbq);refine hK _ _ ?_;clear hK K|refine⟨?_,hK _ _ ?_⟩<;>clear hK K;focus(try omega))|refine st rfl ?_|refine sc rfl ?_|refine nl ?_|refine gs rfl rfl ?_|exact x'g T rfl (by(simp (disch:=omega) only[hget_ne,hget_eq])<;>rfl) rfl rfl rfl (z'a _) ⟨rfl,rfl⟩
theorem ZhU {op:Int} (h: ¬(5≤op∧op≤14)):ofD op= .tup [.agg [iD 0,.is .nilFunc],bD false]:=by unfold ofD;rw[if_neg (by omega),if_neg (by omega)]
theorem Zi9 {op:Int} (h:6≤op∧op≤14):ofD op= .tup [.agg [iD 2,fD (fnO op)],bD true]:=by unfold ofD;rw[if_neg (by omega),if_pos h]
theorem w10:IntKind.i64.wrap ((1:Int)-0)=1:=by decide
theorem w11:IntKind.i64.wrap ((1:Int)-1)=0:=by decide
theorem w12:IntKind.i64.wrap ((1:Int)-2)= -1:=by decide
theorem ZnX (l:List Opc) (hl:l.length≤1000):Pure Tryz.prog 121 [z'S l] (Zng (w'F l 0 0)):=by
 refine Fun.of T [.tmp 2,.tmp 3] Tryz.func121 rfl Tryz.ntmps121 Tryz.results121 rfl (by kernel_rfl) ?_
 repeat' first|refine vs T rfl fun K hK=>?_;(try simp (disch:=omega) only[go_sem,Nat.reduceBEq,z'K]);(refine hK _ _ ?_;clear hK K)|refine st rfl ?_|refine nl ?_
 refine VC.loop {q:Nat×Int×Int//q.1≤l.length∧(0≤q.2.1∧q.2.1≤q.1)∧(0≤q.2.2∧q.2.2≤q.1)∧w'F l 0 0=w'F (l.drop q.1) q.2.1 q.2.2} (fun q=>⟨z'J [(4,iD q.1.2.1),(5,iD q.1.2.2),(11,z'S l),(12,iD (l.length:Nat)),(13,iD (q.1.1:Nat))],[]⟩) (fun q=>l.length-q.1.1) ⟨(0,0,0),by simp⟩ ?_ ?_
 ·refine Weak.sub ?_
  simp[sub,upd]
 ·rintro⟨⟨k,n,most⟩,hk,hn,hm,hF⟩
  dsimp only at hk hn hm hF⊢
  rcases z'g k l.length with hlt|hge
  ·have hd:decide ((k:Int)<(l.length:Int))=true:=by simp;omega
   have hw:IntKind.i64.wrap ((k:Int)+1)=((k+1:Nat):Int):=by rw[w64 (by omega)];omega
   have wa:IntKind.i64.wrap (n+1)=n+1:=by rw[w64 (by omega)]
   have wz:IntKind.i64.wrap (n+0)=n:=by rw[w64 (by omega)];omega
   have ws:IntKind.i64.wrap (n+ -1)=n-1:=by rw[w64 (by omega)];omega
   obtain⟨x,hx⟩: ∃x,l[k]?=some x:=⟨_,z'b hlt⟩
   have hrow:(ZdD l)[k]?=some [iD x.1,iD x.2.1,iD x.2.2]:=by rw[Zca,hx];rfl
   have hdr:l.drop k=x::l.drop (k+1):=by rw[y'0 hlt];congr 1;exact y'k ((z'b hlt).symm.trans hx)
   rw[hdr,ZdB]at hF
   have nxt: ∀n',y'H x.1 n=some n'→0≤n'→n'≤n+1→ ∀(E:Nat→D) (H:Heap),Vc.sub E [(4,iD n'),(5,iD (max most n')),(11,z'S l),(12,iD (l.length:Nat)),(13,iD ((k+1:Nat):Int))]→
     ∃q':{q:Nat×Int×Int//q.1≤l.length∧(0≤q.2.1∧q.2.1≤q.1)∧(0≤q.2.2∧q.2.2≤q.1)∧w'F l 0 0=w'F (l.drop q.1) q.2.1 q.2.2},Weak ⟨E,H⟩ ⟨z'J [(4,iD q'.1.2.1),(5,iD q'.1.2.2),(11,z'S l),(12,iD (l.length:Nat)),(13,iD (q'.1.1:Nat))],[]⟩∧l.length-q'.1.1<l.length-k:=by
    intro n' hs h0 h1 E H hE
    rw[hs]at hF
    exact⟨⟨(k+1,n',max most n'),by simp only[];omega,by simp only[];omega,by simp only[];omega,hF⟩,Weak.subH (z'a _) hE,by simp only[];omega⟩
   have hbad:y'H x.1 n=none→w'F l 0 0=none:=fun h=>by rw[h]at hF;exact hF
   have cl:=Znh x.1
   by_cases c1:1≤x.1∧x.1≤4
   ·have a1:decide (x.1≥1)=true:=by simp;omega
    have a4:decide (x.1≤4)=true:=by simp;omega
    have n0:decide (n<0)=false:=by simp;omega
    rw[ZhU (by omega)]at cl
    repeat' first|refine vs T rfl fun K hK=>?_;(try simp (disch:=omega) only[go_sem,Nat.reduceBEq,Nat.reduceAdd,Nat.reduceLeDiff,hd,hw,wa,hrow,a1,a4,n0,w10,z'K,z'l,z'r]);(first|refine hK _ _ ?_;clear hK K|intro bq hbq;(try simp only[HB]at hbq);refine hK _ _ ?_;clear hK K|refine⟨?_,hK _ _ ?_⟩<;>clear hK K;focus(try omega)|refine Op1.callp rfl rfl (cl) rfl ?_;refine hK _ _ ?_;clear hK K|refine ZeA rfl rfl rfl ?_;refine hK _ _ ?_;clear hK K)|refine st rfl ?_|refine sc rfl ?_|refine nl ?_|refine gs rfl rfl ?_
    refine nxt (n+1) (by simp[y'H,c1]) (by omega) (by omega) _ _ ?_
    simp[sub,upd]
   by_cases c5:x.1=5
   ·have a1:decide (x.1≥1)=true:=by simp;omega
    have a4:decide (x.1≤4)=false:=by simp;omega
    have cl:Pure Tryz.prog 122 [iD x.1] (.tup [.agg [iD 1,fD 123],bD true]):=by rw[c5]at cl⊢;exact cl
    by_cases cn:1≤n
    ·have n0:decide (n<1)=false:=by simp;omega
     repeat' first|refine vs T rfl fun K hK=>?_;(try simp (disch:=omega) only[go_sem,Nat.reduceBEq,Nat.reduceAdd,Nat.reduceLeDiff,hd,hw,wz,hrow,a1,a4,n0,w11,z'K,z'l]);(first|refine hK _ _ ?_;clear hK K|intro bq hbq;(try simp only[HB]at hbq);refine hK _ _ ?_;clear hK K|refine⟨?_,hK _ _ ?_⟩<;>clear hK K;focus(try omega)|refine Op1.callp rfl rfl (cl) rfl ?_;refine hK _ _ ?_;clear hK K|refine ZeA rfl rfl rfl ?_;refine hK _ _ ?_;clear hK K)|refine st rfl ?_|refine sc rfl ?_|refine nl ?_|refine gs rfl rfl ?_
     refine nxt n (by unfold y'H;rw[if_neg c1,if_pos ⟨c5,cn⟩]) (by omega) (by omega) _ _ ?_
     simp[sub,upd]
    ·have n0:decide (n<1)=true:=by simp;omega
     have hs:y'H x.1 n=none:=by unfold y'H;rw[if_neg c1,if_neg (by omega),if_neg (by omega)]
     rw[hbad hs]
     repeat' first|refine vs T rfl fun K hK=>?_;(try simp (disch:=omega) only[go_sem,Nat.reduceBEq,Nat.reduceAdd,Nat.reduceLeDiff,hd,hrow,a1,a4,n0,z'K,z'l]);(first|refine hK _ _ ?_;clear hK K|intro bq hbq;(try simp only[HB]at hbq);refine hK _ _ ?_;clear hK K|refine⟨?_,hK _ _ ?_⟩<;>clear hK K;focus(try omega)|refine Op1.callp rfl rfl (cl) rfl ?_;refine hK _ _ ?_;clear hK K)|refine st rfl ?_|refine sc rfl ?_|refine nl ?_|refine gs rfl rfl ?_|exact y'9 T (z'a _) ⟨rfl,rfl⟩
     all_goals rfl
   by_cases c6:6≤x.1∧x.1≤14
   ·have a1:decide (x.1≥1)=true:=by simp;omega
    have a4:decide (x.1≤4)=false:=by simp;omega
    rw[Zi9 c6]at cl
    by_cases cn:2≤n
    ·have n0:decide (n<2)=false:=by simp;omega
     repeat' first|refine vs T rfl fun K hK=>?_;(try simp (disch:=omega) only[go_sem,Nat.reduceBEq,Nat.reduceAdd,Nat.reduceLeDiff,hd,hw,ws,hrow,a1,a4,n0,w12,z'K,z'l]);(first|refine hK _ _ ?_;clear hK K|intro bq hbq;(try simp only[HB]at hbq);refine hK _ _ ?_;clear hK K|refine⟨?_,hK _ _ ?_⟩<;>clear hK K;focus(try omega)|refine Op1.callp rfl rfl (cl) rfl ?_;refine hK _ _ ?_;clear hK K|refine ZeA rfl rfl rfl ?_;refine hK _ _ ?_;clear hK K)|refine st rfl ?_|refine sc rfl ?_|refine nl ?_|refine gs rfl rfl ?_
     refine nxt (n-1) (by unfold y'H;rw[if_neg c1,if_neg (by omega),if_pos ⟨c6,cn⟩]) (by omega) (by omega) _ _ ?_
     simp[sub,upd]
    ·have n0:decide (n<2)=true:=by simp;omega
     have hs:y'H x.1 n=none:=by unfold y'H;rw[if_neg c1,if_neg (by omega),if_neg (by omega)]
     rw[hbad hs]
     repeat' first|refine vs T rfl fun K hK=>?_;(try simp (disch:=omega) only[go_sem,Nat.reduceBEq,Nat.reduceAdd,Nat.reduceLeDiff,hd,hrow,a1,a4,n0,z'K,z'l]);(first|refine hK _ _ ?_;clear hK K|intro bq hbq;(try simp only[HB]at hbq);refine hK _ _ ?_;clear hK K|refine⟨?_,hK _ _ ?_⟩<;>clear hK K;focus(try omega)|refine Op1.callp rfl rfl (cl) rfl ?_;refine hK _ _ ?_;clear hK K)|refine st rfl ?_|refine sc rfl ?_|refine nl ?_|refine gs rfl rfl ?_|exact y'9 T (z'a _) ⟨rfl,rfl⟩
     all_goals rfl
   have hs:y'H x.1 n=none:=by unfold y'H;rw[if_neg c1,if_neg (by omega),if_neg (by omega)]
   rw[hbad hs]
   rw[ZhU (by omega)]at cl
   by_cases d1:x.1≥1
   ·have a1:decide (x.1≥1)=true:=by simpa using d1
    have a4:decide (x.1≤4)=false:=by simp;omega
    repeat' first|refine vs T rfl fun K hK=>?_;(try simp (disch:=omega) only[go_sem,Nat.reduceBEq,Nat.reduceAdd,Nat.reduceLeDiff,hd,hrow,a1,a4,z'K,z'r]);(first|refine hK _ _ ?_;clear hK K|intro bq hbq;(try simp only[HB]at hbq);refine hK _ _ ?_;clear hK K|refine⟨?_,hK _ _ ?_⟩<;>clear hK K;focus(try omega)|refine Op1.callp rfl rfl (cl) rfl ?_;refine hK _ _ ?_;clear hK K)|refine st rfl ?_|refine sc rfl ?_|refine nl ?_|refine gs rfl rfl ?_|exact y'9 T (z'a _) ⟨rfl,rfl⟩
    all_goals rfl
   ·have a1:decide (x.1≥1)=false:=by simpa using d1
    repeat' first|refine vs T rfl fun K hK=>?_;(try simp (disch:=omega) only[go_sem,Nat.reduceBEq,Nat.reduceAdd,Nat.reduceLeDiff,hd,hrow,a1,z'K,z'r]);(first|refine hK _ _ ?_;clear hK K|intro bq hbq;(try simp only[HB]at hbq);refine hK _ _ ?_;clear hK K|refine⟨?_,hK _ _ ?_⟩<;>clear hK K;focus(try omega)|refine Op1.callp rfl rfl (cl) rfl ?_;refine hK _ _ ?_;clear hK K)|refine st rfl ?_|refine sc rfl ?_|refine nl ?_|refine gs rfl rfl ?_|exact y'9 T (z'a _) ⟨rfl,rfl⟩
    all_goals rfl
  ·have hd:decide ((k:Int)<(l.length:Int))=false:=by simp;omega
   rw[x'R hge]at hF
   rw[hF]
   repeat' first|refine vs T rfl fun K hK=>?_;(try simp (disch:=omega) only[go_sem,Nat.reduceBEq,hd]);(refine hK _ _ ?_;clear hK K)|refine st rfl ?_|refine sc rfl ?_|refine nl ?_|exact y'9 T (z'a _) ⟨rfl,rfl⟩
   all_goals rfl
theorem Zia (l:List Opc) (hl:l.length≤1000) (rs:List Int) (hrs:rs.length≤1000) (own locs:Int):Pure Tryz.prog 119 [z'S l,z'C rs,iD own,iD locs] (bD (y'1 l rs own locs)):=by
 refine Fun.of T [.tmp 8] Tryz.func119 rfl Tryz.ntmps119 Tryz.results119 rfl (by kernel_rfl) ?_
 repeat' first|refine vs T rfl fun K hK=>?_;(try simp (disch:=omega) only[go_sem,Nat.reduceBEq,Nat.reduceAdd,z'K]);(refine hK _ _ ?_;clear hK K)|refine st rfl ?_|refine nl ?_
 refine VC.loop {k:Nat//k≤l.length∧ ∀(i:Nat) (y:Opc),i<k→l[i]?=some y→y'M rs own locs y=true} (fun p=>⟨z'J [(0,z'S l),(1,z'C rs),(2,iD own),(3,iD locs),(14,z'S l),(15,iD (l.length:Nat)),(16,iD (p.1:Nat))],[]⟩) (fun p=>l.length-p.1) ⟨0,by omega,fun i y hi=>by omega⟩ ?_ ?_
 ·refine Weak.sub ?_
  simp[sub,upd]
 ·rintro⟨k,hk,hs⟩
  dsimp only
  rcases z'g k l.length with hlt|hge
  ·have hd:decide ((k:Int)<(l.length:Int))=true:=by simp;omega
   have hw:IntKind.i64.wrap ((k:Int)+1)=((k+1:Nat):Int):=by rw[w64 (by omega)];omega
   obtain⟨x,hx⟩: ∃x,l[k]?=some x:=⟨_,z'b hlt⟩
   have hrow:(ZdD l)[k]?=some [iD x.1,iD x.2.1,iD x.2.2]:=by rw[Zca,hx];rfl
   have nxt:y'M rs own locs x=true→ ∀{H:Heap} (E:Nat→D),Vc.sub E [(0,z'S l),(1,z'C rs),(2,iD own),(3,iD locs),(14,z'S l),(15,iD (l.length:Nat)),(16,iD ((k+1:Nat):Int))]→
     ∃k':{k:Nat//k≤l.length∧ ∀(i:Nat) (y:Opc),i<k→l[i]?=some y→y'M rs own locs y=true},Weak ⟨E,H⟩ ⟨z'J [(0,z'S l),(1,z'C rs),(2,iD own),(3,iD locs),(14,z'S l),(15,iD (l.length:Nat)),(16,iD (k'.1:Nat))],[]⟩∧l.length-k'.1<l.length-k:=
    fun h H E hE=>⟨⟨k+1,by omega,Zak hs hx h⟩,Weak.subH (z'a _) hE,by simp only[];omega⟩
   have bad:y'M rs own locs x=false→y'1 l rs own locs=false:=fun h=>by
    unfold y'1
    rw[v'r hx h];rfl
   by_cases h1:x.1=1
   ·have e1:(x.1 == 1)=true:=by simpa using h1
    by_cases n0:x.2.1<0
    ·have m0:decide (x.2.1<0)=true:=by simpa using n0
     have hok:y'M rs own locs x=false:=by simp only[y'M,h1,if_true,if_false,inB];simp;omega
     rw[bad hok]
     repeat' first|refine vs T rfl fun K hK=>?_;(try simp (disch:=omega) only[go_sem,Nat.reduceBEq,Nat.reduceAdd,Nat.reduceLeDiff,hd,hrow,z'K,e1,m0]);(first|refine hK _ _ ?_;clear hK K|intro bq hbq;(try simp only[HB]at hbq);refine hK _ _ ?_;clear hK K|refine⟨?_,hK _ _ ?_⟩<;>clear hK K;focus(try omega))|refine st rfl ?_|refine sc rfl ?_|refine nl ?_|refine gs rfl rfl ?_|exact z'n T (z'a _) ⟨rfl,rfl⟩
    have m0:decide (x.2.1<0)=false:=by simpa using n0
    by_cases n1:x.2.1≥10000
    ·have m1:decide (x.2.1≥10000)=true:=by simpa using n1
     have hok:y'M rs own locs x=false:=by simp only[y'M,h1,if_true,if_false,inB];simp;omega
     rw[bad hok]
     repeat' first|refine vs T rfl fun K hK=>?_;(try simp (disch:=omega) only[go_sem,Nat.reduceBEq,Nat.reduceAdd,Nat.reduceLeDiff,hd,hrow,z'K,e1,m0,m1]);(first|refine hK _ _ ?_;clear hK K|intro bq hbq;(try simp only[HB]at hbq);refine hK _ _ ?_;clear hK K|refine⟨?_,hK _ _ ?_⟩<;>clear hK K;focus(try omega))|refine st rfl ?_|refine sc rfl ?_|refine nl ?_|refine gs rfl rfl ?_|exact z'n T (z'a _) ⟨rfl,rfl⟩
    have m1:decide (x.2.1≥10000)=false:=by simpa using n1
    have hok:y'M rs own locs x=true:=by simp only[y'M,h1,if_true,if_false,inB];simp;omega
    repeat' first|refine vs T rfl fun K hK=>?_;(try simp (disch:=omega) only[go_sem,Nat.reduceBEq,Nat.reduceAdd,Nat.reduceLeDiff,hd,hw,hrow,z'K,e1,m0,m1]);(first|refine hK _ _ ?_;clear hK K|intro bq hbq;(try simp only[HB]at hbq);refine hK _ _ ?_;clear hK K|refine⟨?_,hK _ _ ?_⟩<;>clear hK K;focus(try omega))|refine st rfl ?_|refine sc rfl ?_|refine nl ?_|refine gs rfl rfl ?_
    refine nxt hok _ ?_
    simp[sub,upd]
   have e1:(x.1 == 1)=false:=by simpa using h1
   by_cases h2:x.1=2
   ·have e2:(x.1 == 2)=true:=by simpa using h2
    by_cases n0:x.2.1<0
    ·have m0:decide (x.2.1<0)=true:=by simpa using n0
     have hok:y'M rs own locs x=false:=by simp only[y'M,h2,if_true,if_false,show ¬(2:Int)=1 by decide,inB];simp;omega
     rw[bad hok]
     repeat' first|refine vs T rfl fun K hK=>?_;(try simp (disch:=omega) only[go_sem,Nat.reduceBEq,Nat.reduceAdd,Nat.reduceLeDiff,hd,hrow,z'K,e1,e2,m0]);(first|refine hK _ _ ?_;clear hK K|intro bq hbq;(try simp only[HB]at hbq);refine hK _ _ ?_;clear hK K|refine⟨?_,hK _ _ ?_⟩<;>clear hK K;focus(try omega))|refine st rfl ?_|refine sc rfl ?_|refine nl ?_|refine gs rfl rfl ?_|exact z'n T (z'a _) ⟨rfl,rfl⟩
    have m0:decide (x.2.1<0)=false:=by simpa using n0
    by_cases n1:x.2.1≥own
    ·have m1:decide (x.2.1≥own)=true:=by simpa using n1
     have hok:y'M rs own locs x=false:=by simp only[y'M,h2,if_true,if_false,show ¬(2:Int)=1 by decide,inB];simp;omega
     rw[bad hok]
     repeat' first|refine vs T rfl fun K hK=>?_;(try simp (disch:=omega) only[go_sem,Nat.reduceBEq,Nat.reduceAdd,Nat.reduceLeDiff,hd,hrow,z'K,e1,e2,m0,m1]);(first|refine hK _ _ ?_;clear hK K|intro bq hbq;(try simp only[HB]at hbq);refine hK _ _ ?_;clear hK K|refine⟨?_,hK _ _ ?_⟩<;>clear hK K;focus(try omega))|refine st rfl ?_|refine sc rfl ?_|refine nl ?_|refine gs rfl rfl ?_|exact z'n T (z'a _) ⟨rfl,rfl⟩
    have m1:decide (x.2.1≥own)=false:=by simpa using n1
    have hok:y'M rs own locs x=true:=by simp only[y'M,h2,if_true,if_false,show ¬(2:Int)=1 by decide,inB];simp;omega
    repeat' first|refine vs T rfl fun K hK=>?_;(try simp (disch:=omega) only[go_sem,Nat.reduceBEq,Nat.reduceAdd,Nat.reduceLeDiff,hd,hw,hrow,z'K,e1,e2,m0,m1]);(first|refine hK _ _ ?_;clear hK K|intro bq hbq;(try simp only[HB]at hbq);refine hK _ _ ?_;clear hK K|refine⟨?_,hK _ _ ?_⟩<;>clear hK K;focus(try omega))|refine st rfl ?_|refine sc rfl ?_|refine nl ?_|refine gs rfl rfl ?_
    refine nxt hok _ ?_
    simp[sub,upd]
   have e2:(x.1 == 2)=false:=by simpa using h2
   by_cases h3:x.1=3
   ·have e3:(x.1 == 3)=true:=by simpa using h3
    by_cases n0:x.2.1<0
    ·have m0:decide (x.2.1<0)=true:=by simpa using n0
     have hok:y'M rs own locs x=false:=by simp only[y'M,h3,if_true,if_false,show ¬(3:Int)=1 by decide,show ¬(3:Int)=2 by decide,inB];simp;omega
     rw[bad hok]
     repeat' first|refine vs T rfl fun K hK=>?_;(try simp (disch:=omega) only[go_sem,Nat.reduceBEq,Nat.reduceAdd,Nat.reduceLeDiff,hd,hrow,z'K,e1,e2,e3,m0]);(first|refine hK _ _ ?_;clear hK K|intro bq hbq;(try simp only[HB]at hbq);refine hK _ _ ?_;clear hK K|refine⟨?_,hK _ _ ?_⟩<;>clear hK K;focus(try omega))|refine st rfl ?_|refine sc rfl ?_|refine nl ?_|refine gs rfl rfl ?_|exact z'n T (z'a _) ⟨rfl,rfl⟩
    have m0:decide (x.2.1<0)=false:=by simpa using n0
    by_cases n1:x.2.1≥locs
    ·have m1:decide (x.2.1≥locs)=true:=by simpa using n1
     have hok:y'M rs own locs x=false:=by simp only[y'M,h3,if_true,if_false,show ¬(3:Int)=1 by decide,show ¬(3:Int)=2 by decide,inB];simp;omega
     rw[bad hok]
     repeat' first|refine vs T rfl fun K hK=>?_;(try simp (disch:=omega) only[go_sem,Nat.reduceBEq,Nat.reduceAdd,Nat.reduceLeDiff,hd,hrow,z'K,e1,e2,e3,m0,m1]);(first|refine hK _ _ ?_;clear hK K|intro bq hbq;(try simp only[HB]at hbq);refine hK _ _ ?_;clear hK K|refine⟨?_,hK _ _ ?_⟩<;>clear hK K;focus(try omega))|refine st rfl ?_|refine sc rfl ?_|refine nl ?_|refine gs rfl rfl ?_|exact z'n T (z'a _) ⟨rfl,rfl⟩
    have m1:decide (x.2.1≥locs)=false:=by simpa using n1
    have hok:y'M rs own locs x=true:=by simp only[y'M,h3,if_true,if_false,show ¬(3:Int)=1 by decide,show ¬(3:Int)=2 by decide,inB];simp;omega
    repeat' first|refine vs T rfl fun K hK=>?_;(try simp (disch:=omega) only[go_sem,Nat.reduceBEq,Nat.reduceAdd,Nat.reduceLeDiff,hd,hw,hrow,z'K,e1,e2,e3,m0,m1]);(first|refine hK _ _ ?_;clear hK K|intro bq hbq;(try simp only[HB]at hbq);refine hK _ _ ?_;clear hK K|refine⟨?_,hK _ _ ?_⟩<;>clear hK K;focus(try omega))|refine st rfl ?_|refine sc rfl ?_|refine nl ?_|refine gs rfl rfl ?_
    refine nxt hok _ ?_
    simp[sub,upd]
   have e3:(x.1 == 3)=false:=by simpa using h3
   by_cases h4:x.1=4
   ·have e4:(x.1 == 4)=true:=by simpa using h4
    by_cases t0:x.2.2≥0
    case neg=>
     have f0:decide (x.2.2≥0)=false:=by simpa using t0
     have hok:y'M rs own locs x=false:=by simp only[y'M,h1,h2,h3,h4,if_true,if_false,show ¬(4:Int)=1 by decide,show ¬(4:Int)=2 by decide,show ¬(4:Int)=3 by decide,inB,f0,y'p]
     rw[bad hok]
     by_cases n0:x.2.1<0
     ·have m0:decide (x.2.1<0)=true:=by simpa using n0
      repeat' first|refine vs T rfl fun K hK=>?_;(try simp (disch:=omega) only[go_sem,Nat.reduceBEq,Nat.reduceAdd,Nat.reduceLeDiff,hd,hrow,z'K,e1,e2,e3,e4,f0,m0]);(first|refine hK _ _ ?_;clear hK K|intro bq hbq;(try simp only[HB]at hbq);refine hK _ _ ?_;clear hK K|refine⟨?_,hK _ _ ?_⟩<;>clear hK K;focus(try omega))|refine st rfl ?_|refine sc rfl ?_|refine nl ?_|refine gs rfl rfl ?_|exact z'n T (z'a _) ⟨rfl,rfl⟩
     ·have m0:decide (x.2.1<0)=false:=by simpa using n0
      have m1:decide (x.2.1≥0)=true:=by simp;omega
      repeat' first|refine vs T rfl fun K hK=>?_;(try simp (disch:=omega) only[go_sem,Nat.reduceBEq,Nat.reduceAdd,Nat.reduceLeDiff,hd,hrow,z'K,e1,e2,e3,e4,f0,m0,m1]);(first|refine hK _ _ ?_;clear hK K|intro bq hbq;(try simp only[HB]at hbq);refine hK _ _ ?_;clear hK K|refine⟨?_,hK _ _ ?_⟩<;>clear hK K;focus(try omega))|refine st rfl ?_|refine sc rfl ?_|refine nl ?_|refine gs rfl rfl ?_|exact z'n T (z'a _) ⟨rfl,rfl⟩
    have f0:decide (x.2.2≥0)=true:=by simpa using t0
    by_cases t1:x.2.2<(rs.length:Int)
    case neg=>
     have f1:decide (x.2.2<(rs.length:Int))=false:=by simpa using t1
     have hok:y'M rs own locs x=false:=by simp only[y'M,h1,h2,h3,h4,if_true,if_false,show ¬(4:Int)=1 by decide,show ¬(4:Int)=2 by decide,show ¬(4:Int)=3 by decide,inB,f0,f1,z'W,y'p]
     rw[bad hok]
     by_cases n0:x.2.1<0
     ·have m0:decide (x.2.1<0)=true:=by simpa using n0
      repeat' first|refine vs T rfl fun K hK=>?_;(try simp (disch:=omega) only[go_sem,Nat.reduceBEq,Nat.reduceAdd,Nat.reduceLeDiff,hd,hrow,z'K,z'k,e1,e2,e3,e4,f0,f1,m0]);(first|refine hK _ _ ?_;clear hK K|intro bq hbq;(try simp only[HB]at hbq);refine hK _ _ ?_;clear hK K|refine⟨?_,hK _ _ ?_⟩<;>clear hK K;focus(try omega))|refine st rfl ?_|refine sc rfl ?_|refine nl ?_|refine gs rfl rfl ?_|exact z'n T (z'a _) ⟨rfl,rfl⟩
     ·have m0:decide (x.2.1<0)=false:=by simpa using n0
      have m1:decide (x.2.1≥0)=true:=by simp;omega
      repeat' first|refine vs T rfl fun K hK=>?_;(try simp (disch:=omega) only[go_sem,Nat.reduceBEq,Nat.reduceAdd,Nat.reduceLeDiff,hd,hrow,z'K,z'k,e1,e2,e3,e4,f0,f1,m0,m1]);(first|refine hK _ _ ?_;clear hK K|intro bq hbq;(try simp only[HB]at hbq);refine hK _ _ ?_;clear hK K|refine⟨?_,hK _ _ ?_⟩<;>clear hK K;focus(try omega))|refine st rfl ?_|refine sc rfl ?_|refine nl ?_|refine gs rfl rfl ?_|exact z'n T (z'a _) ⟨rfl,rfl⟩
    have f1:decide (x.2.2<(rs.length:Int))=true:=by simpa using t1
    obtain⟨r,hr⟩: ∃r,rs[x.2.2.toNat]?=some r:=⟨_,z'b (by omega)⟩
    have hrr:(iRs rs)[x.2.2.toNat]?=some [iD r]:=by rw[y'Q,hr];rfl
    by_cases n0:x.2.1<0
    ·have m0:decide (x.2.1<0)=true:=by simpa using n0
     have hok:y'M rs own locs x=false:=by simp only[y'M,h1,h2,h3,h4,if_true,if_false,show ¬(4:Int)=1 by decide,show ¬(4:Int)=2 by decide,show ¬(4:Int)=3 by decide,inB,f0,f1,hr,z'L,z'W];simp;omega
     rw[bad hok]
     repeat' first|refine vs T rfl fun K hK=>?_;(try simp (disch:=omega) only[go_sem,Nat.reduceBEq,Nat.reduceAdd,Nat.reduceLeDiff,hd,hrow,z'K,e1,e2,e3,e4,f0,f1,hrr,z'k,m0]);(first|refine hK _ _ ?_;clear hK K|intro bq hbq;(try simp only[HB]at hbq);refine hK _ _ ?_;clear hK K|refine⟨?_,hK _ _ ?_⟩<;>clear hK K;focus(try omega))|refine st rfl ?_|refine sc rfl ?_|refine nl ?_|refine gs rfl rfl ?_|exact z'n T (z'a _) ⟨rfl,rfl⟩
    have m0:decide (x.2.1<0)=false:=by simpa using n0
    by_cases n1:x.2.1≥r
    ·have m1:decide (x.2.1≥r)=true:=by simpa using n1
     have hok:y'M rs own locs x=false:=by simp only[y'M,h1,h2,h3,h4,if_true,if_false,show ¬(4:Int)=1 by decide,show ¬(4:Int)=2 by decide,show ¬(4:Int)=3 by decide,inB,f0,f1,hr,z'L,z'W];simp;omega
     rw[bad hok]
     repeat' first|refine vs T rfl fun K hK=>?_;(try simp (disch:=omega) only[go_sem,Nat.reduceBEq,Nat.reduceAdd,Nat.reduceLeDiff,hd,hrow,z'K,e1,e2,e3,e4,f0,f1,hrr,z'k,m0,m1]);(first|refine hK _ _ ?_;clear hK K|intro bq hbq;(try simp only[HB]at hbq);refine hK _ _ ?_;clear hK K|refine⟨?_,hK _ _ ?_⟩<;>clear hK K;focus(try omega))|refine st rfl ?_|refine sc rfl ?_|refine nl ?_|refine gs rfl rfl ?_|exact z'n T (z'a _) ⟨rfl,rfl⟩
    have m1:decide (x.2.1≥r)=false:=by simpa using n1
    have hok:y'M rs own locs x=true:=by simp only[y'M,h1,h2,h3,h4,if_true,if_false,show ¬(4:Int)=1 by decide,show ¬(4:Int)=2 by decide,show ¬(4:Int)=3 by decide,inB,f0,f1,hr,z'L,z'W];simp;omega
    repeat' first|refine vs T rfl fun K hK=>?_;(try simp (disch:=omega) only[go_sem,Nat.reduceBEq,Nat.reduceAdd,Nat.reduceLeDiff,hd,hw,hrow,z'K,e1,e2,e3,e4,f0,f1,hrr,z'k,m0,m1]);(first|refine hK _ _ ?_;clear hK K|intro bq hbq;(try simp only[HB]at hbq);refine hK _ _ ?_;clear hK K|refine⟨?_,hK _ _ ?_⟩<;>clear hK K;focus(try omega))|refine st rfl ?_|refine sc rfl ?_|refine nl ?_|refine gs rfl rfl ?_
    refine nxt hok _ ?_
    simp[sub,upd]
   have e4:(x.1 == 4)=false:=by simpa using h4
   have hok:y'M rs own locs x=true:=by simp[y'M,h1,h2,h3,h4]
   repeat' first|refine vs T rfl fun K hK=>?_;(try simp (disch:=omega) only[go_sem,Nat.reduceBEq,Nat.reduceAdd,Nat.reduceLeDiff,hd,hw,hrow,z'K,e1,e2,e3,e4]);(first|refine hK _ _ ?_;clear hK K|intro bq hbq;(try simp only[HB]at hbq);refine hK _ _ ?_;clear hK K|refine⟨?_,hK _ _ ?_⟩<;>clear hK K;focus(try omega))|refine st rfl ?_|refine sc rfl ?_|refine nl ?_
   refine nxt hok _ ?_
   simp[sub,upd]
  ·have hd:decide ((k:Int)<(l.length:Int))=false:=by simp;omega
   have hA:y'1 l rs own locs=oneL (w'F l 0 0):=by
    unfold y'1
    rw[ZaT fun i y hi hy=>hs i y (by omega) hy];rfl
   rw[hA]
   have cl:=ZnX l hl
   cases hL:w'F l 0 0 with
   |none=>
    rw[hL]at cl
    have cl':Pure Tryz.prog 121 [z'S l] (.tup [iD (-1),iD (-1)]):=cl
    repeat' first|refine vs T rfl fun K hK=>?_;(try simp (disch:=omega) only[go_sem,Nat.reduceBEq,hd]);(first|refine hK _ _ ?_;clear hK K|refine Op1.callp rfl rfl (cl') rfl ?_;refine hK _ _ ?_;clear hK K)|refine st rfl ?_|refine sc rfl ?_|refine nl ?_|exact z'n T (z'a _) ⟨rfl,rfl⟩
    all_goals rfl
   |some p=>
    rw[hL]at cl
    have cl':Pure Tryz.prog 121 [z'S l] (.tup [iD p.1,iD p.2]):=cl
    repeat' first|refine vs T rfl fun K hK=>?_;(try simp (disch:=omega) only[go_sem,Nat.reduceBEq,hd]);(first|refine hK _ _ ?_;clear hK K|refine Op1.callp rfl rfl (cl') rfl ?_;refine hK _ _ ?_;clear hK K)|refine st rfl ?_|refine sc rfl ?_|refine nl ?_|exact z'n T (z'a _) ⟨rfl,rfl⟩
    all_goals rfl
def ZaU (md:Int) (ls:List (List Int)):Bool:=ls.all fun l=>y'W l md
theorem Zhq (md:Int) (ls:List (List Int)) (hls:ls.length≤1000) (hl: ∀l,l∈ls→l.length≤1000):Pure Tryz.prog 177 [iD md,.sl false 1 (y'V ls)] (bD (ZaU md ls)):=by
 refine Fun.of T [.tmp 4] Tryz.func177 rfl Tryz.ntmps177 Tryz.results177 rfl (by kernel_rfl) ?_
 repeat' first|refine vs T rfl fun K hK=>?_;(try simp (disch:=omega) only[go_sem,Nat.reduceBEq,y'm]);(refine hK _ _ ?_;clear hK K)|refine st rfl ?_|refine nl ?_
 refine VC.loop {k:Nat//k≤ls.length∧ ∀(i:Nat) (y:List Int),i<k→ls[i]?=some y→y'W y md=true} (fun p=>⟨z'J [(0,iD md),(9,.sl false 1 (y'V ls)),(10,iD (ls.length:Nat)),(11,iD (p.1:Nat))],[]⟩) (fun p=>ls.length-p.1) ⟨0,by omega,fun i y hi=>by omega⟩ ?_ ?_
 ·refine Weak.sub ?_
  simp[sub,upd]
 ·rintro⟨k,hk,hs⟩
  dsimp only
  rcases z'g k ls.length with hlt|hge
  ·have hd:decide ((k:Int)<(ls.length:Int))=true:=by simp;omega
   have hw:IntKind.i64.wrap ((k:Int)+1)=((k+1:Nat):Int):=by rw[w64 (by omega)];omega
   obtain⟨x,hx⟩: ∃x,ls[k]?=some x:=⟨_,z'b hlt⟩
   have hrow:(y'V ls)[k]?=some [z'C x]:=by rw[w'Z,hx];rfl
   have hxl:=hl x (z'h hx)
   repeat' first|refine vs T rfl fun K hK=>?_;(try simp (disch:=omega) only[go_sem,Nat.reduceBEq,hd,hrow,y'm,z'k]);(first|refine hK _ _ ?_;clear hK K|refine⟨?_,hK _ _ ?_⟩<;>clear hK K;focus(try omega))|refine st rfl ?_|refine sc rfl ?_|refine nl ?_
   refine VC.loop {j:Nat//j≤x.length∧ ∀(i:Nat) (y:Int),i<j→x[i]?=some y→inB y md=true} (fun p=>⟨z'J [(0,iD md),(9,.sl false 1 (y'V ls)),(10,iD (ls.length:Nat)),(11,iD (k:Nat)),(15,z'C x),(16,iD (x.length:Nat)),(17,iD (p.1:Nat))],[]⟩) (fun p=>x.length-p.1) ⟨0,by omega,fun i y hi=>by omega⟩ ?_ ?_
   ·refine Weak.sub ?_
    simp[sub,upd]
   ·rintro⟨j,hj,hsj⟩
    dsimp only
    rcases z'g j x.length with hlt2|hge2
    ·have hd2:decide ((j:Int)<(x.length:Int))=true:=by simp;omega
     have hw2:IntKind.i64.wrap ((j:Int)+1)=((j+1:Nat):Int):=by rw[w64 (by omega)];omega
     obtain⟨n,hn⟩: ∃n,x[j]?=some n:=⟨_,z'b hlt2⟩
     have hrn:(iRs x)[j]?=some [iD n]:=by rw[y'Q,hn];rfl
     have bad:inB n md=false→ZaU md ls=false:=fun h=>v'r (p:=fun l=>y'W l md) hx (v'r (p:=fun n=>inB n md) hn h)
     by_cases n0:n<0
     ·have m0:decide (n<0)=true:=by simpa using n0
      rw[bad (by simp[inB];omega)]
      repeat' first|refine vs T rfl fun K hK=>?_;(try simp (disch:=omega) only[go_sem,Nat.reduceBEq,hd2,hrn,z'k,m0]);(first|refine hK _ _ ?_;clear hK K|refine⟨?_,hK _ _ ?_⟩<;>clear hK K;focus(try omega))|refine st rfl ?_|refine sc rfl ?_|refine nl ?_|refine gs rfl rfl ?_|exact z'n T (z'a _) ⟨rfl,rfl⟩
     have m0:decide (n<0)=false:=by simpa using n0
     by_cases n1:n≥md
     ·have m1:decide (n≥md)=true:=by simpa using n1
      rw[bad (by simp[inB];omega)]
      repeat' first|refine vs T rfl fun K hK=>?_;(try simp (disch:=omega) only[go_sem,Nat.reduceBEq,hd2,hrn,z'k,m0,m1]);(first|refine hK _ _ ?_;clear hK K|refine⟨?_,hK _ _ ?_⟩<;>clear hK K;focus(try omega))|refine st rfl ?_|refine sc rfl ?_|refine nl ?_|refine gs rfl rfl ?_|exact z'n T (z'a _) ⟨rfl,rfl⟩
     have m1:decide (n≥md)=false:=by simpa using n1
     repeat' first|refine vs T rfl fun K hK=>?_;(try simp (disch:=omega) only[go_sem,Nat.reduceBEq,hd2,hw2,hrn,z'k,m0,m1]);(first|refine hK _ _ ?_;clear hK K|refine⟨?_,hK _ _ ?_⟩<;>clear hK K;focus(try omega))|refine st rfl ?_|refine sc rfl ?_|refine nl ?_|refine gs rfl rfl ?_
     refine⟨⟨j+1,by omega,Zak hsj hn (by simp[inB];omega)⟩,Weak.sub ?_,by simp only[];omega⟩
     simp[sub,upd]
    ·have hd2:decide ((j:Int)<(x.length:Int))=false:=by simp;omega
     have hax:y'W x md=true:=ZaT fun i y hi hy=>hsj i y (by omega) hy
     repeat' first|refine vs T rfl fun K hK=>?_;(try simp (disch:=omega) only[go_sem,Nat.reduceBEq,hd2,hw]);(refine hK _ _ ?_;clear hK K)|refine st rfl ?_|refine sc rfl ?_|refine nl ?_
     refine⟨⟨k+1,by omega,Zak hs hx hax⟩,Weak.sub ?_,by simp only[];omega⟩
     simp[sub,upd]
  ·have hd:decide ((k:Int)<(ls.length:Int))=false:=by simp;omega
   have hA:ZaU md ls=true:=ZaT fun i y hi hy=>hs i y (by omega) hy
   rw[hA]
   repeat' first|refine vs T rfl fun K hK=>?_;(try simp (disch:=omega) only[go_sem,Nat.reduceBEq,hd]);(refine hK _ _ ?_;clear hK K)|refine st rfl ?_|refine sc rfl ?_|refine nl ?_|exact z'n T (z'a _) ⟨rfl,rfl⟩
end Go.Proofs.YtfneeacgkdhldaaGreat
