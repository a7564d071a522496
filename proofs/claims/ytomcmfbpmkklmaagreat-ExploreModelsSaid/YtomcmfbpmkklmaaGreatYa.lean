/- Contracts: the program's operators, and how many numbers lie there. No condition. -/
import Derived.Test.YtomcmfbpmkklmaaGreatXg
import Derived.Test.YtomcmfbpmkklmaaGreatK2
import Derived.Test.YtomcmfbpmkklmaaGreatXk
namespace Go.Proofs.YtomcmfbpmkklmaaGreat
set_option maxHeartbeats 16000000
set_option linter.unusedSimpArgs false
set_option linter.unusedVariables false
set_option maxRecDepth 20000
open Go Go.Proofs Go.Vc
attribute [local irreducible] y'0 VCg VCw VCx
theorem Zbq (b:Bool):Pure Tryz.prog 182 [bD b] (iD (tI b)):=by
 refine Fun.of T [.tmp 2] Tryz.func182 rfl Tryz.ntmps182 Tryz.results182 rfl (by kernel_rfl) ?_
 cases b
 ·repeat' first|refine vs T rfl fun K hK=>?_;(try simp (disch:=omega) only[go_sem,Nat.reduceBEq]);(refine hK _ _ ?_;clear hK K)|refine st rfl ?_|refine sc rfl ?_|refine nl ?_|exact z'j T (z'a _) ⟨rfl,rfl⟩
 ·repeat' first|refine vs T rfl fun K hK=>?_;(try simp (disch:=omega) only[go_sem,Nat.reduceBEq]);(refine hK _ _ ?_;clear hK K)|refine st rfl ?_|refine sc rfl ?_|refine nl ?_|exact z'j T (z'a _) ⟨rfl,rfl⟩
theorem Zpy (a b md:Int):Pure Tryz.prog 181 [iD a,iD b,iD md] (iD (tI (b == 0))):=by
 refine Fun.of T [.tmp 6] Tryz.func181 rfl Tryz.ntmps181 Tryz.results181 rfl (by kernel_rfl) ?_
 repeat' first|refine vs T rfl fun K hK=>?_;(try simp (disch:=omega) only[go_sem,Nat.reduceBEq,Nat.reduceAdd]);(first|refine hK _ _ ?_;clear hK K|refine Op1.callp rfl rfl (Zbq _) rfl ?_;refine hK _ _ ?_;clear hK K)|refine st rfl ?_|refine nl ?_|exact z'j T (z'a _) ⟨rfl,rfl⟩
def fnO (op:Int):Nat:=if op=6 then 183 else if op=7 then 184 else if op=8 then 185 else if op=9 then 186 else if op=10 then 187 else if op=11 then 188
 else if op=12 then 189 else if op=13 then 190 else 191
theorem Zqa (op a b md:Int) (h:6≤op∧op≤14) (ha:0≤a∧a≤100000) (hb:0≤b∧b≤100000) (hm:0<md∧md≤100000):Pure Tryz.prog (fnO op) [iD a,iD b,iD md] (iD (x'G op a b md)):=by
 have hab:0≤a*b∧a*b≤10000000000:=⟨Int.mul_nonneg ha.1 hb.1,by
  have:=Int.mul_le_mul ha.2 hb.2 hb.1 (by decide:(0:Int)≤100000)
  omega⟩
 have w1:IntKind.i64.wrap (a+b)=a+b:=by rw[w64 (by omega)]
 have w2:IntKind.i64.wrap (a+md)=a+md:=by rw[w64 (by omega)]
 have w3:IntKind.i64.wrap (a+md-b)=a+md-b:=by rw[w64 (by omega)]
 have w4:IntKind.i64.wrap (a*b)=a*b:=by rw[w64 (by omega)]
 have hmd:md≠0:=by omega
 by_cases h6:op=6
 ·subst h6
  show Pure Tryz.prog 183 _ _
  refine Fun.of T [.tmp 6] Tryz.func183 rfl Tryz.ntmps183 Tryz.results183 rfl (by kernel_rfl) ?_
  repeat' first|refine vs T rfl fun K hK=>?_;(try simp (disch:=omega) only[go_sem,Nat.reduceBEq,Nat.reduceAdd,w1,hmd,ne_eq,not_false_eq_true]);(refine hK _ _ ?_;clear hK K)|refine st rfl ?_|refine nl ?_|exact z'j T (z'a _) ⟨rfl,rfl⟩
  all_goals first|rfl|(simp_all[x'G,tI];done)
 by_cases h7:op=7
 ·subst h7
  show Pure Tryz.prog 184 _ _
  have e:x'G 7 a b md=(a+md-b).tmod md:=by simp[x'G];congr 1;omega
  rw[e]
  refine Fun.of T [.tmp 6] Tryz.func184 rfl Tryz.ntmps184 Tryz.results184 rfl (by kernel_rfl) ?_
  repeat' first|refine vs T rfl fun K hK=>?_;(try simp (disch:=omega) only[go_sem,Nat.reduceBEq,Nat.reduceAdd,w2,w3,hmd,ne_eq,not_false_eq_true]);(refine hK _ _ ?_;clear hK K)|refine st rfl ?_|refine nl ?_|exact z'j T (z'a _) ⟨rfl,rfl⟩
  all_goals first|rfl|(simp_all[x'G,tI];done)
 by_cases h8:op=8
 ·subst h8
  show Pure Tryz.prog 185 _ _
  refine Fun.of T [.tmp 6] Tryz.func185 rfl Tryz.ntmps185 Tryz.results185 rfl (by kernel_rfl) ?_
  repeat' first|refine vs T rfl fun K hK=>?_;(try simp (disch:=omega) only[go_sem,Nat.reduceBEq,Nat.reduceAdd,w4,hmd,ne_eq,not_false_eq_true]);(refine hK _ _ ?_;clear hK K)|refine st rfl ?_|refine nl ?_|exact z'j T (z'a _) ⟨rfl,rfl⟩
  all_goals first|rfl|(simp_all[x'G,tI];done)
 by_cases h9:op=9
 ·subst h9
  show Pure Tryz.prog 186 _ _
  refine Fun.of T [.tmp 6] Tryz.func186 rfl Tryz.ntmps186 Tryz.results186 rfl (by kernel_rfl) ?_
  repeat' first|refine vs T rfl fun K hK=>?_;(try simp (disch:=omega) only[go_sem,Nat.reduceBEq,Nat.reduceAdd]);(first|refine hK _ _ ?_;clear hK K|refine Op1.callp rfl rfl (Zbq _) rfl ?_;refine hK _ _ ?_;clear hK K)|refine st rfl ?_|refine nl ?_|exact z'j T (z'a _) ⟨rfl,rfl⟩
  all_goals first|rfl|(simp_all[x'G,tI];done)
 by_cases h10:op=10
 ·subst h10
  show Pure Tryz.prog 187 _ _
  refine Fun.of T [.tmp 6] Tryz.func187 rfl Tryz.ntmps187 Tryz.results187 rfl (by kernel_rfl) ?_
  repeat' first|refine vs T rfl fun K hK=>?_;(try simp (disch:=omega) only[go_sem,Nat.reduceBEq,Nat.reduceAdd]);(first|refine hK _ _ ?_;clear hK K|refine Op1.callp rfl rfl (Zbq _) rfl ?_;refine hK _ _ ?_;clear hK K)|refine st rfl ?_|refine nl ?_|exact z'j T (z'a _) ⟨rfl,rfl⟩
  all_goals first|rfl|(simp_all[x'G,tI];done)
 by_cases h11:op=11
 ·subst h11
  show Pure Tryz.prog 188 _ _
  refine Fun.of T [.tmp 6] Tryz.func188 rfl Tryz.ntmps188 Tryz.results188 rfl (by kernel_rfl) ?_
  repeat' first|refine vs T rfl fun K hK=>?_;(try simp (disch:=omega) only[go_sem,Nat.reduceBEq,Nat.reduceAdd]);(first|refine hK _ _ ?_;clear hK K|refine Op1.callp rfl rfl (Zbq _) rfl ?_;refine hK _ _ ?_;clear hK K)|refine st rfl ?_|refine nl ?_|exact z'j T (z'a _) ⟨rfl,rfl⟩
  all_goals first|rfl|(simp_all[x'G,tI];done)
 by_cases h12:op=12
 ·subst h12
  show Pure Tryz.prog 189 _ _
  refine Fun.of T [.tmp 6] Tryz.func189 rfl Tryz.ntmps189 Tryz.results189 rfl (by kernel_rfl) ?_
  repeat' first|refine vs T rfl fun K hK=>?_;(try simp (disch:=omega) only[go_sem,Nat.reduceBEq,Nat.reduceAdd]);(first|refine hK _ _ ?_;clear hK K|refine Op1.callp rfl rfl (Zbq _) rfl ?_;refine hK _ _ ?_;clear hK K)|refine st rfl ?_|refine nl ?_|exact z'j T (z'a _) ⟨rfl,rfl⟩
  all_goals first|rfl|(simp_all[x'G,tI];done)
 by_cases h13:op=13
 ·subst h13
  show Pure Tryz.prog 190 _ _
  have e:x'G 13 a b md=tI (a*b != 0):=by
   simp only[x'G]
   simp only[show ¬((13:Int)=6) by decide,show ¬((13:Int)=7) by decide,show ¬((13:Int)=8) by decide,show ¬((13:Int)=9) by decide,show ¬((13:Int)=10) by decide,show ¬((13:Int)=11) by decide,show ¬((13:Int)=12) by decide,if_false,if_true]
   congr 1
   rw[x'l]
   simp[Int.mul_eq_zero]
  rw[e]
  refine Fun.of T [.tmp 6] Tryz.func190 rfl Tryz.ntmps190 Tryz.results190 rfl (by kernel_rfl) ?_
  repeat' first|refine vs T rfl fun K hK=>?_;(try simp (disch:=omega) only[go_sem,Nat.reduceBEq,Nat.reduceAdd,w4]);(first|refine hK _ _ ?_;clear hK K|refine Op1.callp rfl rfl (Zbq _) rfl ?_;refine hK _ _ ?_;clear hK K)|refine st rfl ?_|refine nl ?_|exact z'j T (z'a _) ⟨rfl,rfl⟩
  all_goals first|rfl|(simp_all[x'G,tI];done)
 obtain rfl:op=14:=by omega
 show Pure Tryz.prog 191 _ _
 have e:x'G 14 a b md=tI (a+b != 0):=by
  simp only[x'G]
  simp only[show ¬((14:Int)=6) by decide,show ¬((14:Int)=7) by decide,show ¬((14:Int)=8) by decide,show ¬((14:Int)=9) by decide,show ¬((14:Int)=10) by decide,show ¬((14:Int)=11) by decide,show ¬((14:Int)=12) by decide,show ¬((14:Int)=13) by decide,if_false,if_true]
  congr 1
  rw[x'l]
  simp
  omega
 rw[e]
 refine Fun.of T [.tmp 6] Tryz.func191 rfl Tryz.ntmps191 Tryz.results191 rfl (by kernel_rfl) ?_
 repeat' first|refine vs T rfl fun K hK=>?_;(try simp (disch:=omega) only[go_sem,Nat.reduceBEq,Nat.reduceAdd,w1]);(first|refine hK _ _ ?_;clear hK K|refine Op1.callp rfl rfl (Zbq _) rfl ?_;refine hK _ _ ?_;clear hK K)|refine st rfl ?_|refine nl ?_|exact z'j T (z'a _) ⟨rfl,rfl⟩
 all_goals first|rfl|(simp_all[x'G,tI];done)
abbrev fD (f:Nat):D:= .is (.func (.func f) #[] #[])
def ofD (op:Int):D:=if op=5 then .tup [.agg [iD 1,fD 181],bD true]else if 6≤op∧op≤14 then .tup [.agg [iD 2,fD (fnO op)],bD true]else .tup [.agg [iD 0,.is .nilFunc],bD false]
def opTab:List D:=[iD 0,.is .nilFunc,iD 0,.is .nilFunc,iD 0,.is .nilFunc,iD 0,.is .nilFunc,iD 0,.is .nilFunc,iD 1,fD 181,iD 2,fD 183,iD 2,fD 184,iD 2,fD 185,iD 2,fD 186,iD 2,fD 187,iD 2,fD 188,iD 2,fD 189,iD 2,fD 190,iD 2,fD 191]
theorem ZmJ (op:Int) (h:5≤op∧op≤14): ∃tk f,(opTab.drop (op.toNat*2)).take 2=[iD tk,fD f]∧ofD op= .tup [.agg [iD tk,fD f],bD true]:=by
 obtain⟨k,rfl⟩: ∃k:Nat,op=(k:Int)+5:=⟨(op-5).toNat,by omega⟩
 have hk:k≤9:=by omega
 match k,hk with
 |0,_=>exact⟨_,_,rfl,rfl⟩
 |1,_=>exact⟨_,_,rfl,rfl⟩
 |2,_=>exact⟨_,_,rfl,rfl⟩
 |3,_=>exact⟨_,_,rfl,rfl⟩
 |4,_=>exact⟨_,_,rfl,rfl⟩
 |5,_=>exact⟨_,_,rfl,rfl⟩
 |6,_=>exact⟨_,_,rfl,rfl⟩
 |7,_=>exact⟨_,_,rfl,rfl⟩
 |8,_=>exact⟨_,_,rfl,rfl⟩
 |9,_=>exact⟨_,_,rfl,rfl⟩
theorem Zm9 (op:Int):Pure Tryz.prog 180 [iD op] (ofD op):=by
 refine Fun.of T [.cell 2 217,.tmp 3] Tryz.func180 rfl Tryz.ntmps180 Tryz.results180 rfl (by kernel_rfl) ?_
 by_cases h5:op<5
 ·have e5:decide (op<5)=true:=by simpa using h5
  have hD:ofD op= .tup [.agg [iD 0,.is .nilFunc],bD false]:=by unfold ofD;rw[if_neg (by omega),if_neg (by omega)]
  rw[hD]
  repeat' first|refine vt rfl fun K hK=>?_;refine ZfP T (t:=220) (ps:=[(5,.tmp 5),(6,.tmp 6),(7,.tmp 7),(8,.tmp 8),(9,.tmp 9),(10,.tmp 10),(11,.tmp 11),(12,.tmp 12),(13,.tmp 13),(14,.tmp 14)]) rfl (by rw[T220];rfl) (by(simp (disch:=omega) only[go_sem,Nat.reduceBEq,Nat.reduceAdd,Nat.reduceMul]);rfl) (by rfl) (hK _ _ ?_);clear hK K;(try simp only[updO])|refine vs T rfl fun K hK=>?_;(try simp (disch:=omega) only[go_sem,Nat.reduceBEq,Nat.reduceAdd,Nat.reduceLeDiff,e5]);(first|refine hK _ _ ?_;clear hK K|intro bq hbq;(try simp only[HB]at hbq);refine hK _ _ ?_;clear hK K)|refine st rfl ?_|refine sc rfl ?_|refine nl ?_|refine gs rfl rfl ?_|exact y'T T rfl (by(simp (disch:=omega) only[hget_ne,hget_eq])<;>rfl) rfl rfl rfl (z'a _) ⟨rfl,rfl⟩
 have e5:decide (op<5)=false:=by simpa using h5
 by_cases h15:op≥15
 ·have e15:decide (op≥15)=true:=by simpa using h15
  have hD:ofD op= .tup [.agg [iD 0,.is .nilFunc],bD false]:=by unfold ofD;rw[if_neg (by omega),if_neg (by omega)]
  rw[hD]
  repeat' first|refine vt rfl fun K hK=>?_;refine ZfP T (t:=220) (ps:=[(5,.tmp 5),(6,.tmp 6),(7,.tmp 7),(8,.tmp 8),(9,.tmp 9),(10,.tmp 10),(11,.tmp 11),(12,.tmp 12),(13,.tmp 13),(14,.tmp 14)]) rfl (by rw[T220];rfl) (by(simp (disch:=omega) only[go_sem,Nat.reduceBEq,Nat.reduceAdd,Nat.reduceMul]);rfl) (by rfl) (hK _ _ ?_);clear hK K;(try simp only[updO])|refine vs T rfl fun K hK=>?_;(try simp (disch:=omega) only[go_sem,Nat.reduceBEq,Nat.reduceAdd,Nat.reduceLeDiff,e5,e15]);(first|refine hK _ _ ?_;clear hK K|intro bq hbq;(try simp only[HB]at hbq);refine hK _ _ ?_;clear hK K)|refine st rfl ?_|refine sc rfl ?_|refine nl ?_|refine gs rfl rfl ?_|exact y'T T rfl (by(simp (disch:=omega) only[hget_ne,hget_eq])<;>rfl) rfl rfl rfl (z'a _) ⟨rfl,rfl⟩
 have e15:decide (op≥15)=false:=by simpa using h15
 obtain⟨tk,f,h1,h2⟩:=ZmJ op (by omega)
 rw[h2]
 simp only[opTab]at h1
 repeat' first|refine vt rfl fun K hK=>?_;refine ZfP T (t:=220) (ps:=[(5,.tmp 5),(6,.tmp 6),(7,.tmp 7),(8,.tmp 8),(9,.tmp 9),(10,.tmp 10),(11,.tmp 11),(12,.tmp 12),(13,.tmp 13),(14,.tmp 14)]) rfl (by rw[T220];rfl) (by(simp (disch:=omega) only[go_sem,Nat.reduceBEq,Nat.reduceAdd,Nat.reduceMul]);rfl) (by rfl) (hK _ _ ?_);clear hK K;(try simp only[updO])|refine vt rfl fun K hK=>Zmc T rfl rfl rfl rfl (by omega) (hK _ _ ?_);(try simp only[updO])|refine vs T rfl fun K hK=>?_;(try simp (disch:=omega) only[go_sem,Nat.reduceBEq,Nat.reduceAdd,Nat.reduceLeDiff,e5,e15,h1]);(first|refine hK _ _ ?_;clear hK K|intro bq hbq;(try simp only[HB]at hbq);refine hK _ _ ?_;clear hK K|refine⟨?_,hK _ _ ?_⟩<;>clear hK K;focus(try omega))|refine st rfl ?_|refine sc rfl ?_|refine nl ?_|refine gs rfl rfl ?_|exact y'T T rfl (by(simp (disch:=omega) only[hget_ne,hget_eq])<;>rfl) rfl rfl rfl (z'a _) ⟨rfl,rfl⟩
theorem Zii {op:Int} (h: ¬(5≤op∧op≤14)):ofD op= .tup [.agg [iD 0,.is .nilFunc],bD false]:=by unfold ofD;rw[if_neg (by omega),if_neg (by omega)]
theorem Zjv {op:Int} (h:6≤op∧op≤14):ofD op= .tup [.agg [iD 2,fD (fnO op)],bD true]:=by unfold ofD;rw[if_neg (by omega),if_pos h]
theorem w10:IntKind.i64.wrap ((1:Int)-0)=1:=by decide
theorem w11:IntKind.i64.wrap ((1:Int)-1)=0:=by decide
theorem w12:IntKind.i64.wrap ((1:Int)-2)= -1:=by decide
theorem Zoq (l:List Opc) (hl:l.length≤1000):Pure Tryz.prog 179 [z'R l] (Znc (w'U l 0 0)):=by
 refine Fun.of T [.tmp 2,.tmp 3] Tryz.func179 rfl Tryz.ntmps179 Tryz.results179 rfl (by kernel_rfl) ?_
 repeat' first|refine vs T rfl fun K hK=>?_;(try simp (disch:=omega) only[go_sem,Nat.reduceBEq,z'O]);(refine hK _ _ ?_;clear hK K)|refine st rfl ?_|refine nl ?_
 refine VC.loop {q:Nat×Int×Int//q.1≤l.length∧(0≤q.2.1∧q.2.1≤q.1)∧(0≤q.2.2∧q.2.2≤q.1)∧w'U l 0 0=w'U (l.drop q.1) q.2.1 q.2.2} (fun q=>⟨z'M [(4,iD q.1.2.1),(5,iD q.1.2.2),(11,z'R l),(12,iD (l.length:Nat)),(13,iD (q.1.1:Nat))],[]⟩) (fun q=>l.length-q.1.1) ⟨(0,0,0),by simp⟩ ?_ ?_
 ·refine Weak.sub ?_
  simp[sub,upd]
 ·rintro⟨⟨k,n,most⟩,hk,hn,hm,hF⟩
  dsimp only at hk hn hm hF⊢
  rcases z'g k l.length with hlt|hge
  ·have hd:decide ((k:Int)<(l.length:Int))=true:=by simp;omega
   have hw:IntKind.i64.wrap ((k:Int)+1)=((k+1:Nat):Int):=by rw[w64 (by omega)];omega
   have wa:IntKind.i64.wrap (n+1)=n+1:=by rw[w64 (by omega)]
   have wz:IntKind.i64.wrap (n+0)=n:=by rw[w64 (by omega)];omega
   have ws:IntKind.i64.wrap (n+ -1)=n-1:=by rw[w64 (by omega)];omega
   obtain⟨x,hx⟩: ∃x,l[k]?=some x:=⟨_,z'b hlt⟩
   have hrow:(ZdW l)[k]?=some [iD x.1,iD x.2.1,iD x.2.2]:=by rw[ZcL,hx];rfl
   have hdr:l.drop k=x::l.drop (k+1):=by rw[x'c hlt];congr 1;exact y'n ((z'b hlt).symm.trans hx)
   rw[hdr,ZdJ]at hF
   have nxt: ∀n',y'D x.1 n=some n'→0≤n'→n'≤n+1→ ∀(E:Nat→D) (H:Heap),Vc.sub E [(4,iD n'),(5,iD (max most n')),(11,z'R l),(12,iD (l.length:Nat)),(13,iD ((k+1:Nat):Int))]→
     ∃q':{q:Nat×Int×Int//q.1≤l.length∧(0≤q.2.1∧q.2.1≤q.1)∧(0≤q.2.2∧q.2.2≤q.1)∧w'U l 0 0=w'U (l.drop q.1) q.2.1 q.2.2},Weak ⟨E,H⟩ ⟨z'M [(4,iD q'.1.2.1),(5,iD q'.1.2.2),(11,z'R l),(12,iD (l.length:Nat)),(13,iD (q'.1.1:Nat))],[]⟩∧l.length-q'.1.1<l.length-k:=by
    intro n' hs h0 h1 E H hE
    rw[hs]at hF
    exact⟨⟨(k+1,n',max most n'),by simp only[];omega,by simp only[];omega,by simp only[];omega,hF⟩,Weak.subH (z'a _) hE,by simp only[];omega⟩
   have hbad:y'D x.1 n=none→w'U l 0 0=none:=fun h=>by rw[h]at hF;exact hF
   have cl:=Zm9 x.1
   by_cases c1:1≤x.1∧x.1≤4
   ·have a1:decide (x.1≥1)=true:=by simp;omega
    have a4:decide (x.1≤4)=true:=by simp;omega
    have n0:decide (n<0)=false:=by simp;omega
    rw[Zii (by omega)]at cl
    repeat' first|refine vs T rfl fun K hK=>?_;(try simp (disch:=omega) only[go_sem,Nat.reduceBEq,Nat.reduceAdd,Nat.reduceLeDiff,hd,hw,wa,hrow,a1,a4,n0,w10,z'O,z'i,z'q]);(first|refine hK _ _ ?_;clear hK K|intro bq hbq;(try simp only[HB]at hbq);refine hK _ _ ?_;clear hK K|refine⟨?_,hK _ _ ?_⟩<;>clear hK K;focus(try omega)|refine Op1.callp rfl rfl (cl) rfl ?_;refine hK _ _ ?_;clear hK K|refine Ze8 rfl rfl rfl ?_;refine hK _ _ ?_;clear hK K)|refine st rfl ?_|refine sc rfl ?_|refine nl ?_|refine gs rfl rfl ?_
    refine nxt (n+1) (by simp[y'D,c1]) (by omega) (by omega) _ _ ?_
    simp[sub,upd]
   by_cases c5:x.1=5
   ·have a1:decide (x.1≥1)=true:=by simp;omega
    have a4:decide (x.1≤4)=false:=by simp;omega
    have cl:Pure Tryz.prog 180 [iD x.1] (.tup [.agg [iD 1,fD 181],bD true]):=by rw[c5]at cl⊢;exact cl
    by_cases cn:1≤n
    ·have n0:decide (n<1)=false:=by simp;omega
     repeat' first|refine vs T rfl fun K hK=>?_;(try simp (disch:=omega) only[go_sem,Nat.reduceBEq,Nat.reduceAdd,Nat.reduceLeDiff,hd,hw,wz,hrow,a1,a4,n0,w11,z'O,z'i]);(first|refine hK _ _ ?_;clear hK K|intro bq hbq;(try simp only[HB]at hbq);refine hK _ _ ?_;clear hK K|refine⟨?_,hK _ _ ?_⟩<;>clear hK K;focus(try omega)|refine Op1.callp rfl rfl (cl) rfl ?_;refine hK _ _ ?_;clear hK K|refine Ze8 rfl rfl rfl ?_;refine hK _ _ ?_;clear hK K)|refine st rfl ?_|refine sc rfl ?_|refine nl ?_|refine gs rfl rfl ?_
     refine nxt n (by unfold y'D;rw[if_neg c1,if_pos ⟨c5,cn⟩]) (by omega) (by omega) _ _ ?_
     simp[sub,upd]
    ·have n0:decide (n<1)=true:=by simp;omega
     have hs:y'D x.1 n=none:=by unfold y'D;rw[if_neg c1,if_neg (by omega),if_neg (by omega)]
     rw[hbad hs]
     repeat' first|refine vs T rfl fun K hK=>?_;(try simp (disch:=omega) only[go_sem,Nat.reduceBEq,Nat.reduceAdd,Nat.reduceLeDiff,hd,hrow,a1,a4,n0,z'O,z'i]);(first|refine hK _ _ ?_;clear hK K|intro bq hbq;(try simp only[HB]at hbq);refine hK _ _ ?_;clear hK K|refine⟨?_,hK _ _ ?_⟩<;>clear hK K;focus(try omega)|refine Op1.callp rfl rfl (cl) rfl ?_;refine hK _ _ ?_;clear hK K)|refine st rfl ?_|refine sc rfl ?_|refine nl ?_|refine gs rfl rfl ?_|exact x'E T (z'a _) ⟨rfl,rfl⟩
     all_goals rfl
   by_cases c6:6≤x.1∧x.1≤14
   ·have a1:decide (x.1≥1)=true:=by simp;omega
    have a4:decide (x.1≤4)=false:=by simp;omega
    rw[Zjv c6]at cl
    by_cases cn:2≤n
    ·have n0:decide (n<2)=false:=by simp;omega
     repeat' first|refine vs T rfl fun K hK=>?_;(try simp (disch:=omega) only[go_sem,Nat.reduceBEq,Nat.reduceAdd,Nat.reduceLeDiff,hd,hw,ws,hrow,a1,a4,n0,w12,z'O,z'i]);(first|refine hK _ _ ?_;clear hK K|intro bq hbq;(try simp only[HB]at hbq);refine hK _ _ ?_;clear hK K|refine⟨?_,hK _ _ ?_⟩<;>clear hK K;focus(try omega)|refine Op1.callp rfl rfl (cl) rfl ?_;refine hK _ _ ?_;clear hK K|refine Ze8 rfl rfl rfl ?_;refine hK _ _ ?_;clear hK K)|refine st rfl ?_|refine sc rfl ?_|refine nl ?_|refine gs rfl rfl ?_
     refine nxt (n-1) (by unfold y'D;rw[if_neg c1,if_neg (by omega),if_pos ⟨c6,cn⟩]) (by omega) (by omega) _ _ ?_
     simp[sub,upd]
    ·have n0:decide (n<2)=true:=by simp;omega
     have hs:y'D x.1 n=none:=by unfold y'D;rw[if_neg c1,if_neg (by omega),if_neg (by omega)]
     rw[hbad hs]
     repeat' first|refine vs T rfl fun K hK=>?_;(try simp (disch:=omega) only[go_sem,Nat.reduceBEq,Nat.reduceAdd,Nat.reduceLeDiff,hd,hrow,a1,a4,n0,z'O,z'i]);(first|refine hK _ _ ?_;clear hK K|intro bq hbq;(try simp only[HB]at hbq);refine hK _ _ ?_;clear hK K|refine⟨?_,hK _ _ ?_⟩<;>clear hK K;focus(try omega)|refine Op1.callp rfl rfl (cl) rfl ?_;refine hK _ _ ?_;clear hK K)|refine st rfl ?_|refine sc rfl ?_|refine nl ?_|refine gs rfl rfl ?_|exact x'E T (z'a _) ⟨rfl,rfl⟩
     all_goals rfl
   have hs:y'D x.1 n=none:=by unfold y'D;rw[if_neg c1,if_neg (by omega),if_neg (by omega)]
   rw[hbad hs]
   rw[Zii (by omega)]at cl
   by_cases d1:x.1≥1
   ·have a1:decide (x.1≥1)=true:=by simpa using d1
    have a4:decide (x.1≤4)=false:=by simp;omega
    repeat' first|refine vs T rfl fun K hK=>?_;(try simp (disch:=omega) only[go_sem,Nat.reduceBEq,Nat.reduceAdd,Nat.reduceLeDiff,hd,hrow,a1,a4,z'O,z'q]);(first|refine hK _ _ ?_;clear hK K|intro bq hbq;(try simp only[HB]at hbq);refine hK _ _ ?_;clear hK K|refine⟨?_,hK _ _ ?_⟩<;>clear hK K;focus(try omega)|refine Op1.callp rfl rfl (cl) rfl ?_;refine hK _ _ ?_;clear hK K)|refine st rfl ?_|refine sc rfl ?_|refine nl ?_|refine gs rfl rfl ?_|exact x'E T (z'a _) ⟨rfl,rfl⟩
    all_goals rfl
   ·have a1:decide (x.1≥1)=false:=by simpa using d1
    repeat' first|refine vs T rfl fun K hK=>?_;(try simp (disch:=omega) only[go_sem,Nat.reduceBEq,Nat.reduceAdd,Nat.reduceLeDiff,hd,hrow,a1,z'O,z'q]);(first|refine hK _ _ ?_;clear hK K|intro bq hbq;(try simp only[HB]at hbq);refine hK _ _ ?_;clear hK K|refine⟨?_,hK _ _ ?_⟩<;>clear hK K;focus(try omega)|refine Op1.callp rfl rfl (cl) rfl ?_;refine hK _ _ ?_;clear hK K)|refine st rfl ?_|refine sc rfl ?_|refine nl ?_|refine gs rfl rfl ?_|exact x'E T (z'a _) ⟨rfl,rfl⟩
    all_goals rfl
  ·have hd:decide ((k:Int)<(l.length:Int))=false:=by simp;omega
   rw[x'X hge]at hF
   rw[hF]
   repeat' first|refine vs T rfl fun K hK=>?_;(try simp (disch:=omega) only[go_sem,Nat.reduceBEq,hd]);(refine hK _ _ ?_;clear hK K)|refine st rfl ?_|refine sc rfl ?_|refine nl ?_|exact x'E T (z'a _) ⟨rfl,rfl⟩
   all_goals rfl
theorem Ziq (l:List Opc) (hl:l.length≤1000) (rs:List Int) (hrs:rs.length≤1000) (own locs:Int):Pure Tryz.prog 177 [z'R l,z'S rs,iD own,iD locs] (bD (y'X l rs own locs)):=by
 refine Fun.of T [.tmp 8] Tryz.func177 rfl Tryz.ntmps177 Tryz.results177 rfl (by kernel_rfl) ?_
 repeat' first|refine vs T rfl fun K hK=>?_;(try simp (disch:=omega) only[go_sem,Nat.reduceBEq,Nat.reduceAdd,z'O]);(refine hK _ _ ?_;clear hK K)|refine st rfl ?_|refine nl ?_
 refine VC.loop {k:Nat//k≤l.length∧ ∀(i:Nat) (y:Opc),i<k→l[i]?=some y→y'K rs own locs y=true} (fun p=>⟨z'M [(0,z'R l),(1,z'S rs),(2,iD own),(3,iD locs),(14,z'R l),(15,iD (l.length:Nat)),(16,iD (p.1:Nat))],[]⟩) (fun p=>l.length-p.1) ⟨0,by omega,fun i y hi=>by omega⟩ ?_ ?_
 ·refine Weak.sub ?_
  simp[sub,upd]
 ·rintro⟨k,hk,hs⟩
  dsimp only
  rcases z'g k l.length with hlt|hge
  ·have hd:decide ((k:Int)<(l.length:Int))=true:=by simp;omega
   have hw:IntKind.i64.wrap ((k:Int)+1)=((k+1:Nat):Int):=by rw[w64 (by omega)];omega
   obtain⟨x,hx⟩: ∃x,l[k]?=some x:=⟨_,z'b hlt⟩
   have hrow:(ZdW l)[k]?=some [iD x.1,iD x.2.1,iD x.2.2]:=by rw[ZcL,hx];rfl
   have nxt:y'K rs own locs x=true→ ∀{H:Heap} (E:Nat→D),Vc.sub E [(0,z'R l),(1,z'S rs),(2,iD own),(3,iD locs),(14,z'R l),(15,iD (l.length:Nat)),(16,iD ((k+1:Nat):Int))]→
     ∃k':{k:Nat//k≤l.length∧ ∀(i:Nat) (y:Opc),i<k→l[i]?=some y→y'K rs own locs y=true},Weak ⟨E,H⟩ ⟨z'M [(0,z'R l),(1,z'S rs),(2,iD own),(3,iD locs),(14,z'R l),(15,iD (l.length:Nat)),(16,iD (k'.1:Nat))],[]⟩∧l.length-k'.1<l.length-k:=
    fun h H E hE=>⟨⟨k+1,by omega,v'W hs hx h⟩,Weak.subH (z'a _) hE,by simp only[];omega⟩
   have bad:y'K rs own locs x=false→y'X l rs own locs=false:=fun h=>by
    unfold y'X
    rw[v'g hx h];rfl
   by_cases h1:x.1=1
   ·have e1:(x.1 == 1)=true:=by simpa using h1
    by_cases n0:x.2.1<0
    ·have m0:decide (x.2.1<0)=true:=by simpa using n0
     have hok:y'K rs own locs x=false:=by simp only[y'K,h1,if_true,if_false,inB];simp;omega
     rw[bad hok]
     repeat' first|refine vs T rfl fun K hK=>?_;(try simp (disch:=omega) only[go_sem,Nat.reduceBEq,Nat.reduceAdd,Nat.reduceLeDiff,hd,hrow,z'O,e1,m0]);(first|refine hK _ _ ?_;clear hK K|intro bq hbq;(try simp only[HB]at hbq);refine hK _ _ ?_;clear hK K|refine⟨?_,hK _ _ ?_⟩<;>clear hK K;focus(try omega))|refine st rfl ?_|refine sc rfl ?_|refine nl ?_|refine gs rfl rfl ?_|exact z'j T (z'a _) ⟨rfl,rfl⟩
    have m0:decide (x.2.1<0)=false:=by simpa using n0
    by_cases n1:x.2.1≥10000
    ·have m1:decide (x.2.1≥10000)=true:=by simpa using n1
     have hok:y'K rs own locs x=false:=by simp only[y'K,h1,if_true,if_false,inB];simp;omega
     rw[bad hok]
     repeat' first|refine vs T rfl fun K hK=>?_;(try simp (disch:=omega) only[go_sem,Nat.reduceBEq,Nat.reduceAdd,Nat.reduceLeDiff,hd,hrow,z'O,e1,m0,m1]);(first|refine hK _ _ ?_;clear hK K|intro bq hbq;(try simp only[HB]at hbq);refine hK _ _ ?_;clear hK K|refine⟨?_,hK _ _ ?_⟩<;>clear hK K;focus(try omega))|refine st rfl ?_|refine sc rfl ?_|refine nl ?_|refine gs rfl rfl ?_|exact z'j T (z'a _) ⟨rfl,rfl⟩
    have m1:decide (x.2.1≥10000)=false:=by simpa using n1
    have hok:y'K rs own locs x=true:=by simp only[y'K,h1,if_true,if_false,inB];simp;omega
    repeat' first|refine vs T rfl fun K hK=>?_;(try simp (disch:=omega) only[go_sem,Nat.reduceBEq,Nat.reduceAdd,Nat.reduceLeDiff,hd,hw,hrow,z'O,e1,m0,m1]);(first|refine hK _ _ ?_;clear hK K|intro bq hbq;(try simp only[HB]at hbq);refine hK _ _ ?_;clear hK K|refine⟨?_,hK _ _ ?_⟩<;>clear hK K;focus(try omega))|refine st rfl ?_|refine sc rfl ?_|refine nl ?_|refine gs rfl rfl ?_
    refine nxt hok _ ?_
    simp[sub,upd]
   have e1:(x.1 == 1)=false:=by simpa using h1
   by_cases h2:x.1=2
   ·have e2:(x.1 == 2)=true:=by simpa using h2
    by_cases n0:x.2.1<0
    ·have m0:decide (x.2.1<0)=true:=by simpa using n0
     have hok:y'K rs own locs x=false:=by simp only[y'K,h2,if_true,if_false,show ¬(2:Int)=1 by decide,inB];simp;omega
     rw[bad hok]
     repeat' first|refine vs T rfl fun K hK=>?_;(try simp (disch:=omega) only[go_sem,Nat.reduceBEq,Nat.reduceAdd,Nat.reduceLeDiff,hd,hrow,z'O,e1,e2,m0]);(first|refine hK _ _ ?_;clear hK K|intro bq hbq;(try simp only[HB]at hbq);refine hK _ _ ?_;clear hK K|refine⟨?_,hK _ _ ?_⟩<;>clear hK K;focus(try omega))|refine st rfl ?_|refine sc rfl ?_|refine nl ?_|refine gs rfl rfl ?_|exact z'j T (z'a _) ⟨rfl,rfl⟩
    have m0:decide (x.2.1<0)=false:=by simpa using n0
    by_cases n1:x.2.1≥own
    ·have m1:decide (x.2.1≥own)=true:=by simpa using n1
     have hok:y'K rs own locs x=false:=by simp only[y'K,h2,if_true,if_false,show ¬(2:Int)=1 by decide,inB];simp;omega
     rw[bad hok]
     repeat' first|refine vs T rfl fun K hK=>?_;(try simp (disch:=omega) only[go_sem,Nat.reduceBEq,Nat.reduceAdd,Nat.reduceLeDiff,hd,hrow,z'O,e1,e2,m0,m1]);(first|refine hK _ _ ?_;clear hK K|intro bq hbq;(try simp only[HB]at hbq);refine hK _ _ ?_;clear hK K|refine⟨?_,hK _ _ ?_⟩<;>clear hK K;focus(try omega))|refine st rfl ?_|refine sc rfl ?_|refine nl ?_|refine gs rfl rfl ?_|exact z'j T (z'a _) ⟨rfl,rfl⟩
    have m1:decide (x.2.1≥own)=false:=by simpa using n1
    have hok:y'K rs own locs x=true:=by simp only[y'K,h2,if_true,if_false,show ¬(2:Int)=1 by decide,inB];simp;omega
    repeat' first|refine vs T rfl fun K hK=>?_;(try simp (disch:=omega) only[go_sem,Nat.reduceBEq,Nat.reduceAdd,Nat.reduceLeDiff,hd,hw,hrow,z'O,e1,e2,m0,m1]);(first|refine hK _ _ ?_;clear hK K|intro bq hbq;(try simp only[HB]at hbq);refine hK _ _ ?_;clear hK K|refine⟨?_,hK _ _ ?_⟩<;>clear hK K;focus(try omega))|refine st rfl ?_|refine sc rfl ?_|refine nl ?_|refine gs rfl rfl ?_
    refine nxt hok _ ?_
    simp[sub,upd]
   have e2:(x.1 == 2)=false:=by simpa using h2
   by_cases h3:x.1=3
   ·have e3:(x.1 == 3)=true:=by simpa using h3
    by_cases n0:x.2.1<0
    ·have m0:decide (x.2.1<0)=true:=by simpa using n0
     have hok:y'K rs own locs x=false:=by simp only[y'K,h3,if_true,if_false,show ¬(3:Int)=1 by decide,show ¬(3:Int)=2 by decide,inB];simp;omega
     rw[bad hok]
     repeat' first|refine vs T rfl fun K hK=>?_;(try simp (disch:=omega) only[go_sem,Nat.reduceBEq,Nat.reduceAdd,Nat.reduceLeDiff,hd,hrow,z'O,e1,e2,e3,m0]);(first|refine hK _ _ ?_;clear hK K|intro bq hbq;(try simp only[HB]at hbq);refine hK _ _ ?_;clear hK K|refine⟨?_,hK _ _ ?_⟩<;>clear hK K;focus(try omega))|refine st rfl ?_|refine sc rfl ?_|refine nl ?_|refine gs rfl rfl ?_|exact z'j T (z'a _) ⟨rfl,rfl⟩
    have m0:decide (x.2.1<0)=false:=by simpa using n0
    by_cases n1:x.2.1≥locs
    ·have m1:decide (x.2.1≥locs)=true:=by simpa using n1
     have hok:y'K rs own locs x=false:=by simp only[y'K,h3,if_true,if_false,show ¬(3:Int)=1 by decide,show ¬(3:Int)=2 by decide,inB];simp;omega
     rw[bad hok]
     repeat' first|refine vs T rfl fun K hK=>?_;(try simp (disch:=omega) only[go_sem,Nat.reduceBEq,Nat.reduceAdd,Nat.reduceLeDiff,hd,hrow,z'O,e1,e2,e3,m0,m1]);(first|refine hK _ _ ?_;clear hK K|intro bq hbq;(try simp only[HB]at hbq);refine hK _ _ ?_;clear hK K|refine⟨?_,hK _ _ ?_⟩<;>clear hK K;focus(try omega))|refine st rfl ?_|refine sc rfl ?_|refine nl ?_|refine gs rfl rfl ?_|exact z'j T (z'a _) ⟨rfl,rfl⟩
    have m1:decide (x.2.1≥locs)=false:=by simpa using n1
    have hok:y'K rs own locs x=true:=by simp only[y'K,h3,if_true,if_false,show ¬(3:Int)=1 by decide,show ¬(3:Int)=2 by decide,inB];simp;omega
    repeat' first|refine vs T rfl fun K hK=>?_;(try simp (disch:=omega) only[go_sem,Nat.reduceBEq,Nat.reduceAdd,Nat.reduceLeDiff,hd,hw,hrow,z'O,e1,e2,e3,m0,m1]);(first|refine hK _ _ ?_;clear hK K|intro bq hbq;(try simp only[HB]at hbq);refine hK _ _ ?_;clear hK K|refine⟨?_,hK _ _ ?_⟩<;>clear hK K;focus(try omega))|refine st rfl ?_|refine sc rfl ?_|refine nl ?_|refine gs rfl rfl ?_
    refine nxt hok _ ?_
    simp[sub,upd]
   have e3:(x.1 == 3)=false:=by simpa using h3
   by_cases h4:x.1=4
   ·have e4:(x.1 == 4)=true:=by simpa using h4
    by_cases t0:x.2.2≥0
    case neg=>
     have f0:decide (x.2.2≥0)=false:=by simpa using t0
     have hok:y'K rs own locs x=false:=by simp only[y'K,h1,h2,h3,h4,if_true,if_false,show ¬(4:Int)=1 by decide,show ¬(4:Int)=2 by decide,show ¬(4:Int)=3 by decide,inB,f0,x'z]
     rw[bad hok]
     by_cases n0:x.2.1<0
     ·have m0:decide (x.2.1<0)=true:=by simpa using n0
      repeat' first|refine vs T rfl fun K hK=>?_;(try simp (disch:=omega) only[go_sem,Nat.reduceBEq,Nat.reduceAdd,Nat.reduceLeDiff,hd,hrow,z'O,e1,e2,e3,e4,f0,m0]);(first|refine hK _ _ ?_;clear hK K|intro bq hbq;(try simp only[HB]at hbq);refine hK _ _ ?_;clear hK K|refine⟨?_,hK _ _ ?_⟩<;>clear hK K;focus(try omega))|refine st rfl ?_|refine sc rfl ?_|refine nl ?_|refine gs rfl rfl ?_|exact z'j T (z'a _) ⟨rfl,rfl⟩
     ·have m0:decide (x.2.1<0)=false:=by simpa using n0
      have m1:decide (x.2.1≥0)=true:=by simp;omega
      repeat' first|refine vs T rfl fun K hK=>?_;(try simp (disch:=omega) only[go_sem,Nat.reduceBEq,Nat.reduceAdd,Nat.reduceLeDiff,hd,hrow,z'O,e1,e2,e3,e4,f0,m0,m1]);(first|refine hK _ _ ?_;clear hK K|intro bq hbq;(try simp only[HB]at hbq);refine hK _ _ ?_;clear hK K|refine⟨?_,hK _ _ ?_⟩<;>clear hK K;focus(try omega))|refine st rfl ?_|refine sc rfl ?_|refine nl ?_|refine gs rfl rfl ?_|exact z'j T (z'a _) ⟨rfl,rfl⟩
    have f0:decide (x.2.2≥0)=true:=by simpa using t0
    by_cases t1:x.2.2<(rs.length:Int)
    case neg=>
     have f1:decide (x.2.2<(rs.length:Int))=false:=by simpa using t1
     have hok:y'K rs own locs x=false:=by simp only[y'K,h1,h2,h3,h4,if_true,if_false,show ¬(4:Int)=1 by decide,show ¬(4:Int)=2 by decide,show ¬(4:Int)=3 by decide,inB,f0,f1,y'Z,x'z]
     rw[bad hok]
     by_cases n0:x.2.1<0
     ·have m0:decide (x.2.1<0)=true:=by simpa using n0
      repeat' first|refine vs T rfl fun K hK=>?_;(try simp (disch:=omega) only[go_sem,Nat.reduceBEq,Nat.reduceAdd,Nat.reduceLeDiff,hd,hrow,z'O,z'l,e1,e2,e3,e4,f0,f1,m0]);(first|refine hK _ _ ?_;clear hK K|intro bq hbq;(try simp only[HB]at hbq);refine hK _ _ ?_;clear hK K|refine⟨?_,hK _ _ ?_⟩<;>clear hK K;focus(try omega))|refine st rfl ?_|refine sc rfl ?_|refine nl ?_|refine gs rfl rfl ?_|exact z'j T (z'a _) ⟨rfl,rfl⟩
     ·have m0:decide (x.2.1<0)=false:=by simpa using n0
      have m1:decide (x.2.1≥0)=true:=by simp;omega
      repeat' first|refine vs T rfl fun K hK=>?_;(try simp (disch:=omega) only[go_sem,Nat.reduceBEq,Nat.reduceAdd,Nat.reduceLeDiff,hd,hrow,z'O,z'l,e1,e2,e3,e4,f0,f1,m0,m1]);(first|refine hK _ _ ?_;clear hK K|intro bq hbq;(try simp only[HB]at hbq);refine hK _ _ ?_;clear hK K|refine⟨?_,hK _ _ ?_⟩<;>clear hK K;focus(try omega))|refine st rfl ?_|refine sc rfl ?_|refine nl ?_|refine gs rfl rfl ?_|exact z'j T (z'a _) ⟨rfl,rfl⟩
    have f1:decide (x.2.2<(rs.length:Int))=true:=by simpa using t1
    obtain⟨r,hr⟩: ∃r,rs[x.2.2.toNat]?=some r:=⟨_,z'b (by omega)⟩
    have hrr:(iRs rs)[x.2.2.toNat]?=some [iD r]:=by rw[y'y,hr];rfl
    by_cases n0:x.2.1<0
    ·have m0:decide (x.2.1<0)=true:=by simpa using n0
     have hok:y'K rs own locs x=false:=by simp only[y'K,h1,h2,h3,h4,if_true,if_false,show ¬(4:Int)=1 by decide,show ¬(4:Int)=2 by decide,show ¬(4:Int)=3 by decide,inB,f0,f1,hr,z'I,y'Z];simp;omega
     rw[bad hok]
     repeat' first|refine vs T rfl fun K hK=>?_;(try simp (disch:=omega) only[go_sem,Nat.reduceBEq,Nat.reduceAdd,Nat.reduceLeDiff,hd,hrow,z'O,e1,e2,e3,e4,f0,f1,hrr,z'l,m0]);(first|refine hK _ _ ?_;clear hK K|intro bq hbq;(try simp only[HB]at hbq);refine hK _ _ ?_;clear hK K|refine⟨?_,hK _ _ ?_⟩<;>clear hK K;focus(try omega))|refine st rfl ?_|refine sc rfl ?_|refine nl ?_|refine gs rfl rfl ?_|exact z'j T (z'a _) ⟨rfl,rfl⟩
    have m0:decide (x.2.1<0)=false:=by simpa using n0
    by_cases n1:x.2.1≥r
    ·have m1:decide (x.2.1≥r)=true:=by simpa using n1
     have hok:y'K rs own locs x=false:=by simp only[y'K,h1,h2,h3,h4,if_true,if_false,show ¬(4:Int)=1 by decide,show ¬(4:Int)=2 by decide,show ¬(4:Int)=3 by decide,inB,f0,f1,hr,z'I,y'Z];simp;omega
     rw[bad hok]
     repeat' first|refine vs T rfl fun K hK=>?_;(try simp (disch:=omega) only[go_sem,Nat.reduceBEq,Nat.reduceAdd,Nat.reduceLeDiff,hd,hrow,z'O,e1,e2,e3,e4,f0,f1,hrr,z'l,m0,m1]);(first|refine hK _ _ ?_;clear hK K|intro bq hbq;(try simp only[HB]at hbq);refine hK _ _ ?_;clear hK K|refine⟨?_,hK _ _ ?_⟩<;>clear hK K;focus(try omega))|refine st rfl ?_|refine sc rfl ?_|refine nl ?_|refine gs rfl rfl ?_|exact z'j T (z'a _) ⟨rfl,rfl⟩
    have m1:decide (x.2.1≥r)=false:=by simpa using n1
    have hok:y'K rs own locs x=true:=by simp only[y'K,h1,h2,h3,h4,if_true,if_false,show ¬(4:Int)=1 by decide,show ¬(4:Int)=2 by decide,show ¬(4:Int)=3 by decide,inB,f0,f1,hr,z'I,y'Z];simp;omega
    repeat' first|refine vs T rfl fun K hK=>?_;(try simp (disch:=omega) only[go_sem,Nat.reduceBEq,Nat.reduceAdd,Nat.reduceLeDiff,hd,hw,hrow,z'O,e1,e2,e3,e4,f0,f1,hrr,z'l,m0,m1]);(first|refine hK _ _ ?_;clear hK K|intro bq hbq;(try simp only[HB]at hbq);refine hK _ _ ?_;clear hK K|refine⟨?_,hK _ _ ?_⟩<;>clear hK K;focus(try omega))|refine st rfl ?_|refine sc rfl ?_|refine nl ?_|refine gs rfl rfl ?_
    refine nxt hok _ ?_
    simp[sub,upd]
   have e4:(x.1 == 4)=false:=by simpa using h4
   have hok:y'K rs own locs x=true:=by simp[y'K,h1,h2,h3,h4]
   repeat' first|refine vs T rfl fun K hK=>?_;(try simp (disch:=omega) only[go_sem,Nat.reduceBEq,Nat.reduceAdd,Nat.reduceLeDiff,hd,hw,hrow,z'O,e1,e2,e3,e4]);(first|refine hK _ _ ?_;clear hK K|intro bq hbq;(try simp only[HB]at hbq);refine hK _ _ ?_;clear hK K|refine⟨?_,hK _ _ ?_⟩<;>clear hK K;focus(try omega))|refine st rfl ?_|refine sc rfl ?_|refine nl ?_
   refine nxt hok _ ?_
   simp[sub,upd]
  ·have hd:decide ((k:Int)<(l.length:Int))=false:=by simp;omega
   have hA:y'X l rs own locs=oneL (w'U l 0 0):=by
    unfold y'X
    rw[ZaC fun i y hi hy=>hs i y (by omega) hy];rfl
   rw[hA]
   have cl:=Zoq l hl
   cases hL:w'U l 0 0 with
   |none=>
    rw[hL]at cl
    have cl':Pure Tryz.prog 179 [z'R l] (.tup [iD (-1),iD (-1)]):=cl
    repeat' first|refine vs T rfl fun K hK=>?_;(try simp (disch:=omega) only[go_sem,Nat.reduceBEq,hd]);(first|refine hK _ _ ?_;clear hK K|refine Op1.callp rfl rfl (cl') rfl ?_;refine hK _ _ ?_;clear hK K)|refine st rfl ?_|refine sc rfl ?_|refine nl ?_|exact z'j T (z'a _) ⟨rfl,rfl⟩
    all_goals rfl
   |some p=>
    rw[hL]at cl
    have cl':Pure Tryz.prog 179 [z'R l] (.tup [iD p.1,iD p.2]):=cl
    repeat' first|refine vs T rfl fun K hK=>?_;(try simp (disch:=omega) only[go_sem,Nat.reduceBEq,hd]);(first|refine hK _ _ ?_;clear hK K|refine Op1.callp rfl rfl (cl') rfl ?_;refine hK _ _ ?_;clear hK K)|refine st rfl ?_|refine sc rfl ?_|refine nl ?_|exact z'j T (z'a _) ⟨rfl,rfl⟩
    all_goals rfl
def Zbg (md:Int) (ls:List (List Int)):Bool:=ls.all fun l=>y'z l md
theorem ZiK (md:Int) (ls:List (List Int)) (hls:ls.length≤1000) (hl: ∀l,l∈ls→l.length≤1000):Pure Tryz.prog 235 [iD md,.sl false 1 (x'j ls)] (bD (Zbg md ls)):=by
 refine Fun.of T [.tmp 4] Tryz.func235 rfl Tryz.ntmps235 Tryz.results235 rfl (by kernel_rfl) ?_
 repeat' first|refine vs T rfl fun K hK=>?_;(try simp (disch:=omega) only[go_sem,Nat.reduceBEq,z'W]);(refine hK _ _ ?_;clear hK K)|refine st rfl ?_|refine nl ?_
 refine VC.loop {k:Nat//k≤ls.length∧ ∀(i:Nat) (y:List Int),i<k→ls[i]?=some y→y'z y md=true} (fun p=>⟨z'M [(0,iD md),(9,.sl false 1 (x'j ls)),(10,iD (ls.length:Nat)),(11,iD (p.1:Nat))],[]⟩) (fun p=>ls.length-p.1) ⟨0,by omega,fun i y hi=>by omega⟩ ?_ ?_
 ·refine Weak.sub ?_
  simp[sub,upd]
 ·rintro⟨k,hk,hs⟩
  dsimp only
  rcases z'g k ls.length with hlt|hge
  ·have hd:decide ((k:Int)<(ls.length:Int))=true:=by simp;omega
   have hw:IntKind.i64.wrap ((k:Int)+1)=((k+1:Nat):Int):=by rw[w64 (by omega)];omega
   obtain⟨x,hx⟩: ∃x,ls[k]?=some x:=⟨_,z'b hlt⟩
   have hrow:(x'j ls)[k]?=some [z'S x]:=by rw[w'j,hx];rfl
   have hxl:=hl x (z'f hx)
   repeat' first|refine vs T rfl fun K hK=>?_;(try simp (disch:=omega) only[go_sem,Nat.reduceBEq,hd,hrow,z'W,z'l]);(first|refine hK _ _ ?_;clear hK K|refine⟨?_,hK _ _ ?_⟩<;>clear hK K;focus(try omega))|refine st rfl ?_|refine sc rfl ?_|refine nl ?_
   refine VC.loop {j:Nat//j≤x.length∧ ∀(i:Nat) (y:Int),i<j→x[i]?=some y→inB y md=true} (fun p=>⟨z'M [(0,iD md),(9,.sl false 1 (x'j ls)),(10,iD (ls.length:Nat)),(11,iD (k:Nat)),(15,z'S x),(16,iD (x.length:Nat)),(17,iD (p.1:Nat))],[]⟩) (fun p=>x.length-p.1) ⟨0,by omega,fun i y hi=>by omega⟩ ?_ ?_
   ·refine Weak.sub ?_
    simp[sub,upd]
   ·rintro⟨j,hj,hsj⟩
    dsimp only
    rcases z'g j x.length with hlt2|hge2
    ·have hd2:decide ((j:Int)<(x.length:Int))=true:=by simp;omega
     have hw2:IntKind.i64.wrap ((j:Int)+1)=((j+1:Nat):Int):=by rw[w64 (by omega)];omega
     obtain⟨n,hn⟩: ∃n,x[j]?=some n:=⟨_,z'b hlt2⟩
     have hrn:(iRs x)[j]?=some [iD n]:=by rw[y'y,hn];rfl
     have bad:inB n md=false→Zbg md ls=false:=fun h=>v'g (p:=fun l=>y'z l md) hx (v'g (p:=fun n=>inB n md) hn h)
     by_cases n0:n<0
     ·have m0:decide (n<0)=true:=by simpa using n0
      rw[bad (by simp[inB];omega)]
      repeat' first|refine vs T rfl fun K hK=>?_;(try simp (disch:=omega) only[go_sem,Nat.reduceBEq,hd2,hrn,z'l,m0]);(first|refine hK _ _ ?_;clear hK K|refine⟨?_,hK _ _ ?_⟩<;>clear hK K;focus(try omega))|refine st rfl ?_|refine sc rfl ?_|refine nl ?_|refine gs rfl rfl ?_|exact z'j T (z'a _) ⟨rfl,rfl⟩
     have m0:decide (n<0)=false:=by simpa using n0
     by_cases n1:n≥md
     ·have m1:decide (n≥md)=true:=by simpa using n1
      rw[bad (by simp[inB];omega)]
      repeat' first|refine vs T rfl fun K hK=>?_;(try simp (disch:=omega) only[go_sem,Nat.reduceBEq,hd2,hrn,z'l,m0,m1]);(first|refine hK _ _ ?_;clear hK K|refine⟨?_,hK _ _ ?_⟩<;>clear hK K;focus(try omega))|refine st rfl ?_|refine sc rfl ?_|refine nl ?_|refine gs rfl rfl ?_|exact z'j T (z'a _) ⟨rfl,rfl⟩
     have m1:decide (n≥md)=false:=by simpa using n1
     repeat' first|refine vs T rfl fun K hK=>?_;(try simp (disch:=omega) only[go_sem,Nat.reduceBEq,hd2,hw2,hrn,z'l,m0,m1]);(first|refine hK _ _ ?_;clear hK K|refine⟨?_,hK _ _ ?_⟩<;>clear hK K;focus(try omega))|refine st rfl ?_|refine sc rfl ?_|refine nl ?_|refine gs rfl rfl ?_
     refine⟨⟨j+1,by omega,v'W hsj hn (by simp[inB];omega)⟩,Weak.sub ?_,by simp only[];omega⟩
     simp[sub,upd]
    ·have hd2:decide ((j:Int)<(x.length:Int))=false:=by simp;omega
     have hax:y'z x md=true:=ZaC fun i y hi hy=>hsj i y (by omega) hy
     repeat' first|refine vs T rfl fun K hK=>?_;(try simp (disch:=omega) only[go_sem,Nat.reduceBEq,hd2,hw]);(refine hK _ _ ?_;clear hK K)|refine st rfl ?_|refine sc rfl ?_|refine nl ?_
     refine⟨⟨k+1,by omega,v'W hs hx hax⟩,Weak.sub ?_,by simp only[];omega⟩
     simp[sub,upd]
  ·have hd:decide ((k:Int)<(ls.length:Int))=false:=by simp;omega
   have hA:Zbg md ls=true:=ZaC fun i y hi hy=>hs i y (by omega) hy
   rw[hA]
   repeat' first|refine vs T rfl fun K hK=>?_;(try simp (disch:=omega) only[go_sem,Nat.reduceBEq,hd]);(refine hK _ _ ?_;clear hK K)|refine st rfl ?_|refine sc rfl ?_|refine nl ?_|exact z'j T (z'a _) ⟨rfl,rfl⟩
end Go.Proofs.YtomcmfbpmkklmaaGreat
