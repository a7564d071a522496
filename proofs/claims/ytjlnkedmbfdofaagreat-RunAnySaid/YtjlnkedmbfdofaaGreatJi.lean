/- Calls of functions that take blocks of one's own, wherever they stand. No condition. -/
import Derived.Test.YtjlnkedmbfdofaaGreatWa
import Derived.Test.YtjlnkedmbfdofaaGreatJh
namespace Go.Vc
set_option maxHeartbeats 16000000
set_option linter.unusedSimpArgs false
set_option linter.unusedVariables false
open Go
inductive Pick:Heap→Heap→Heap→Prop where
 |nil {H:Heap}:Pick [] H H
 |take {x:Nat×HC} {Hp H Hr:Heap}:Pick Hp H Hr→Pick (x::Hp) (x::H) Hr
 |skip {x:Nat×HC} {Hp H Hr:Heap}:Pick Hp H Hr→Pick Hp (x::H) (x::Hr)
theorem Pick.perm {Hp H Hr:Heap} (h:Pick Hp H Hr):H.Perm (Hp++Hr):=by
 induction h with
 |nil=>exact y'f _
 |take _ ih=>exact List.Perm.cons _ ih
 |skip _ ih=>exact(List.Perm.cons _ ih).trans List.perm_middle.symm
theorem VCo.nodup {P:Program} {n:Nat} {ops:Array Oper} {l:List Oper} {s:St} {Q:Exit→St→Prop} (h:s.heap.blocks.Nodup→VCo P n ops l s Q):VCo P n ops l s Q:=fun x a w hn hs=>h hs.inv.nodup x a w hn hs
end Go.Vc
/- Contracts: what goes wrong in a run, as an error. No condition. -/
namespace Go.Proofs.YtjlnkedmbfdofaaGreat
set_option maxHeartbeats 16000000
set_option linter.unusedSimpArgs false
set_option linter.unusedVariables false
set_option maxRecDepth 20000
open Go Go.Proofs Go.Vc
attribute [local irreducible] z'Z VCg VCw VCx
theorem Zle:Vc.Pure Tryz.prog 13 [iD 0] (sD ⟨#[48]⟩):=Fun.reckonF T uow y'z (by kernel_rfl) (args:=[.int .i64 0]) (g:= .str [48]) 20000 (by kernel_rfl) (by kernel_rfl) rfl rfl
theorem ZnF:Vc.Pure Tryz.prog 13 [iD 2] (sD ⟨#[50]⟩):=Fun.reckonF T uow y'z (by kernel_rfl) (args:=[.int .i64 2]) (g:= .str [50]) 20000 (by kernel_rfl) (by kernel_rfl) rfl rfl
theorem ZnX:Vc.Pure Tryz.prog 292 [iD 5] (sD ⟨#[53]⟩):=Fun.reckonF T uow y'z (by kernel_rfl) (args:=[.int .i64 5]) (g:= .str [53]) 20000 (by kernel_rfl) (by kernel_rfl) rfl rfl
theorem Zm8:Vc.Pure Tryz.prog 292 [iD 11] (sD ⟨#[49,49]⟩):=Fun.reckonF T uow y'z (by kernel_rfl) (args:=[.int .i64 11]) (g:= .str [49,49]) 20000 (by kernel_rfl) (by kernel_rfl) rfl rfl
theorem Zlh (b:Nat) (s s1 s2:ByteArray) (n a:Int) (ha:0≤a) (hs:s.size≤1000) (h1:s1.size≤1000) (h2:s2.size≤1000) (c1:Vc.Pure Tryz.prog 292 [iD n] (sD s1)) (c2:Vc.Pure Tryz.prog 13 [iD a] (sD s2)):Fun Tryz.prog 293 [ptE b] (y'9 b s n a) false (fun d H'=>d=sD (s++⟨#[32]⟩++s1++⟨#[32,97,116,32]⟩++s2)∧H'=y'9 b s n a):=by
 have e1:decide (a<0)=false:=decide_eq_false (by omega)
 refine Fun.of T [.tmp 2] Tryz.func293 rfl Tryz.ntmps293 Tryz.results293 rfl (by kernel_rfl) ?_
 repeat' first|refine dr (id:=3) T 17 (by kernel_rfl) ?_|refine gn ?_|apply VCg.step T rfl rfl;focus((try simp (disch:=omega) only[go_sem,Nat.reduceBEq,Za6]);(first|exact rfl|refine⟨?_,rfl⟩|refine Op1.callp rfl rfl (c1) rfl ?_;exact⟨rfl,rfl⟩|refine Op1.callp rfl rfl (c2) rfl ?_;exact⟨rfl,rfl⟩))|refine vs T rfl fun K hK=>?_;(try simp (disch:=omega) only[go_sem,Nat.reduceBEq,Za6,e1]);(first|refine hK _ _ ?_;clear hK K|refine⟨?_,hK _ _ ?_⟩<;>clear hK K)|refine st rfl ?_|refine sc rfl ?_|refine nl ?_
 any_goals(simp only[List.size_toArray,z'A,x'c];omega)
 refine x'7 T (z'V _) ?_
 exact⟨rfl,rfl⟩
theorem ZnI (b:Nat) (s:ByteArray) (n a:Int) (ha:a<0):Fun Tryz.prog 293 [ptE b] (y'9 b s n a) false (fun d H'=>d=sD s∧H'=y'9 b s n a):=by
 have e1:decide (a<0)=true:=decide_eq_true ha
 refine Fun.of T [.tmp 2] Tryz.func293 rfl Tryz.ntmps293 Tryz.results293 rfl (by kernel_rfl) ?_
 repeat' first|refine vs T rfl fun K hK=>?_;(try simp (disch:=omega) only[go_sem,Nat.reduceBEq,Za6,e1]);(refine hK _ _ ?_;clear hK K)|refine st rfl ?_|refine sc rfl ?_|refine nl ?_
 refine x'7 T (z'V _) ?_
 exact⟨rfl,rfl⟩
theorem Zk6 (s:ByteArray) (a:Int):Vc.Pure Tryz.prog 16 [sD s,iD 0,iD a] (.is .nilIface):=by
 refine Fun.of T [.tmp 6] Tryz.func16 rfl Tryz.ntmps16 Tryz.results16 rfl (by kernel_rfl) ?_
 repeat' first|refine vs T rfl fun K hK=>?_;(try simp (disch:=omega) only[go_sem,Nat.reduceBEq,Nat.reduceAdd,beq_self_eq_true]);(refine hK _ _ ?_;clear hK K)|refine st rfl ?_|refine sc rfl ?_|refine nl ?_|exact x'7 T (z'T _) ⟨rfl,rfl⟩
theorem Zk7 (s:ByteArray) (n a:Int) (hn:n≠0):Fun Tryz.prog 16 [sD s,iD n,iD a] [] false (fun d H'=> ∃b:Nat,True∧d= .ifc 87 (ptE b)∧H'=y'9 b s n a):=by
 have e1:(n == 0)=false:=beq_eq_false_iff_ne.2 hn
 refine Fun.of T [.tmp 6] Tryz.func16 rfl Tryz.ntmps16 Tryz.results16 rfl (by kernel_rfl) ?_
 repeat' first|refine vs T rfl fun K hK=>?_;(try simp (disch:=omega) only[go_sem,Nat.reduceBEq,Nat.reduceAdd,e1]);(first|refine hK _ _ ?_;clear hK K|intro bq hbq;(try simp only[HB]at hbq);refine hK _ _ ?_;clear hK K|refine⟨?_,hK _ _ ?_⟩<;>clear hK K)|refine st rfl ?_|refine sc rfl ?_|refine nl ?_
 ·exact⟨_,Tryz.underlying87,fun ms h=>by cases h⟩
 refine x'7 T (z'V _) ?_
 exact⟨bq,trivial,rfl,rfl⟩
abbrev lkZ:List D:=[iD 0,iD 0,iD 0,iD 0,iD 0,.gs none 0,.gs none 0,.gs none 0,iD 0,.gs none 0,.gs none 0,.gs none 0,iD 0,iD 0]
theorem ZmW:Fun Tryz.prog 10 [sD ⟨#[]⟩,sD ⟨#[120]⟩] [] false (fun d H'=> ∃b:Nat,True∧d= .tup [.agg lkZ,.ifc 87 (ptE b)]∧H'=y'9 b ⟨#[101,114,114,111,114,32,111,112,116,105,111,110]⟩ 19 (-1)):=by
 have hE:=Tryz.underlying42
 have w1:=Zk7 ⟨#[101,114,114,111,114,32,111,112,116,105,111,110]⟩ 19 (-1) (by decide)
 refine Fun.of T [.cell 4 40,.tmp 5] Tryz.func10 rfl Tryz.ntmps10 Tryz.results10 rfl (by kernel_rfl) ?_
 repeat' first|refine vs T rfl fun K hK=>?_;(try simp (disch:=omega) only[go_sem,Nat.reduceBEq,Nat.reduceAdd,Nat.reduceLeDiff,Zlc]);(first|refine hK _ _ ?_;clear hK K|intro bq hbq;(try simp only[HB]at hbq);refine hK _ _ ?_;clear hK K|refine Op1.callp rfl rfl (ZoD) rfl ?_;refine hK _ _ ?_;clear hK K|skip)|refine st rfl ?_|refine nl ?_
 refine Op1.callG (caps:= #[]) (Hp:=[]) rfl rfl rfl w1 (y'f _) (fun d H' h=>?_)
 obtain⟨b, -,rfl,rfl⟩:=h
 refine hK _ _ ?_
 clear hK K
 refine vo (VCo.nodup fun hn=>ov ?_)
 simp only[y'9,y'w,z'L,Heap.blocks,z'g,y'o,y'm,z'p,z'I,or_false,not_or]at hn⊢
 obtain⟨⟨n1,n2,n3⟩,_⟩:=hn
 repeat' first|refine vt rfl fun K hK=>?_;refine w'4 rfl rfl rfl hE rfl ?_;refine hK _ _ ?_;clear hK K;(try simp only[updO])|refine vs T rfl fun K hK=>?_;(try simp (disch:=omega) only[go_sem,Nat.reduceBEq,Nat.reduceAdd,Nat.reduceLeDiff]);(refine hK _ _ ?_;clear hK K)|refine st rfl ?_|refine sc rfl ?_|refine nl ?_
 refine ZfG T rfl (by(try simp (disch:=omega) only[Zan,v'E]);rfl) rfl rfl rfl (List.Sublist.cons_cons _ (z'T _)) ?_
 exact⟨b,trivial,rfl,rfl⟩
theorem ZmU:Fun Tryz.prog 10 [sD ⟨#[120]⟩,sD ⟨#[115,99,32,49,32,119,101,97,107,32,57]⟩] [] false (fun d H'=> ∃b:Nat,True∧d= .tup [.agg lkZ,.ifc 87 (ptE b)]∧H'=y'9 b ⟨#[101,114,114,111,114,32,112,97,114,115,101]⟩ 5 0):=by
 have hE:=Tryz.underlying42
 have w0:=Zk6 ⟨#[101,114,114,111,114,32,111,112,116,105,111,110]⟩ (-1)
 have w1:=Zk7 ⟨#[101,114,114,111,114,32,112,97,114,115,101]⟩ 5 0 (by decide)
 refine Fun.of T [.cell 4 40,.tmp 5] Tryz.func10 rfl Tryz.ntmps10 Tryz.results10 rfl (by kernel_rfl) ?_
 repeat' first|refine vt rfl fun K hK=>?_;refine ZhS rfl rfl rfl hE rfl ?_;refine hK _ _ ?_;clear hK K;(try simp only[updO])|refine vs T rfl fun K hK=>?_;(try simp (disch:=omega) only[go_sem,Nat.reduceBEq,Nat.reduceAdd,Nat.reduceLeDiff,Zii,Zk9]);(first|refine hK _ _ ?_;clear hK K|intro bq hbq;(try simp only[HB]at hbq);refine hK _ _ ?_;clear hK K|refine Op1.callp rfl rfl (u_8) rfl ?_;refine hK _ _ ?_;clear hK K|refine Op1.callp rfl rfl (w0) rfl ?_;refine hK _ _ ?_;clear hK K|refine Op1.callp rfl rfl (u_9) rfl ?_;refine hK _ _ ?_;clear hK K|skip)|refine st rfl ?_|refine sc rfl ?_|refine nl ?_
 refine Op1.callG (caps:= #[]) (Hp:=[]) rfl rfl rfl w1 (y'f _) (fun d H' h=>?_)
 obtain⟨b, -,rfl,rfl⟩:=h
 refine hK _ _ ?_
 clear hK K
 refine vo (VCo.nodup fun hn=>ov ?_)
 simp only[y'9,y'w,z'L,Heap.blocks,z'g,y'o,y'm,z'p,z'I,or_false,not_or]at hn⊢
 obtain⟨⟨n1,n2,n3,n4⟩,_⟩:=hn
 repeat' first|refine vt rfl fun K hK=>?_;refine w'4 rfl rfl rfl hE rfl ?_;refine hK _ _ ?_;clear hK K;(try simp only[updO])|refine vs T rfl fun K hK=>?_;(try simp (disch:=omega) only[go_sem,Nat.reduceBEq,Nat.reduceAdd,Nat.reduceLeDiff]);(refine hK _ _ ?_;clear hK K)|refine st rfl ?_|refine sc rfl ?_|refine nl ?_
 refine ZfG T rfl (by(try simp (disch:=omega) only[Zan,v'E]);rfl) rfl rfl rfl (List.Sublist.cons_cons _ (z'T _)) ?_
 exact⟨b,trivial,rfl,rfl⟩
theorem ZmV:Fun Tryz.prog 10 [Zij,sD ⟨#[115,99,32,49,32,119,101,97,107,32,57]⟩] [] false (fun d H'=> ∃b:Nat,True∧d= .tup [.agg lkZ,.ifc 87 (ptE b)]∧H'=y'9 b ⟨#[101,114,114,111,114,32,102,111,114,109]⟩ 11 0):=by
 have hE:=Tryz.underlying42
 have w0:=Zk6 ⟨#[101,114,114,111,114,32,111,112,116,105,111,110]⟩ (-1)
 have w2:=Zk6 ⟨#[101,114,114,111,114,32,112,97,114,115,101]⟩ 0
 have w1:=Zk7 ⟨#[101,114,114,111,114,32,102,111,114,109]⟩ 11 0 (by decide)
 refine Fun.of T [.cell 4 40,.tmp 5] Tryz.func10 rfl Tryz.ntmps10 Tryz.results10 rfl (by kernel_rfl) ?_
 repeat' first|refine vt rfl fun K hK=>?_;refine ZhS rfl rfl rfl hE rfl ?_;refine hK _ _ ?_;clear hK K;(try simp only[updO])|refine vs T rfl fun K hK=>?_;(try simp (disch:=omega) only[go_sem,Nat.reduceBEq,Nat.reduceAdd,Nat.reduceLeDiff,Zii,Zla,Zlb]);(first|refine hK _ _ ?_;clear hK K|intro bq hbq;(try simp only[HB]at hbq);refine hK _ _ ?_;clear hK K|refine Op1.callp rfl rfl (u_8) rfl ?_;refine hK _ _ ?_;clear hK K|refine Op1.callp rfl rfl (w0) rfl ?_;refine hK _ _ ?_;clear hK K|refine Op1.callp rfl rfl (ZoB) rfl ?_;refine hK _ _ ?_;clear hK K|refine Op1.callp rfl rfl (w2) rfl ?_;refine hK _ _ ?_;clear hK K|refine Op1.callp rfl rfl (ZoC) rfl ?_;refine hK _ _ ?_;clear hK K|skip)|refine st rfl ?_|refine sc rfl ?_|refine nl ?_
 refine Op1.callG (caps:= #[]) (Hp:=[]) rfl rfl rfl w1 (y'f _) (fun d H' h=>?_)
 obtain⟨b, -,rfl,rfl⟩:=h
 refine hK _ _ ?_
 clear hK K
 refine vo (VCo.nodup fun hn=>ov ?_)
 simp only[y'9,y'w,z'L,Heap.blocks,z'g,y'o,y'm,z'p,z'I,or_false,not_or]at hn⊢
 obtain⟨⟨n1,n2,n3,n4,n5⟩,_⟩:=hn
 repeat' first|refine vt rfl fun K hK=>?_;refine w'4 rfl rfl rfl hE rfl ?_;refine hK _ _ ?_;clear hK K;(try simp only[updO])|refine vs T rfl fun K hK=>?_;(try simp (disch:=omega) only[go_sem,Nat.reduceBEq,Nat.reduceAdd,Nat.reduceLeDiff]);(refine hK _ _ ?_;clear hK K)|refine st rfl ?_|refine sc rfl ?_|refine nl ?_
 refine ZfG T rfl (by(try simp (disch:=omega) only[Zan,v'E]);rfl) rfl rfl rfl (List.Sublist.cons_cons _ (z'T _)) ?_
 exact⟨b,trivial,rfl,rfl⟩
end Go.Proofs.YtjlnkedmbfdofaaGreat
