/- law31: what must come of fixed calls. No condition. -/
import Derived.Test.YthlkpnjjkgmlkaaGreatOi
import Derived.Test.YthlkpnjjkgmlkaaGreatPb
import Derived.Test.YthlkpnjjkgmlkaaGreatPc
import Derived.Test.YthlkpnjjkgmlkaaGreatCo
import Derived.Test.YthlkpnjjkgmlkaaGreatYr
namespace Go.Proofs.YthlkpnjjkgmlkaaGreat
set_option maxHeartbeats 16000000
set_option linter.unusedSimpArgs false
set_option linter.unusedVariables false
set_option maxRecDepth 20000
open Go Go.Proofs Go.Vc
attribute [local irreducible] x'c VCg VCw VCx
def ZtY (n:Int):Ins:=⟨4,0,0,[(1,n,0)],[],false,0⟩
def U31:Un:=⟨2,[0],[0,0],[[ZtY 1,⟨22,0,0,[],[],false,0⟩],[ZtY 0,⟨22,0,0,[],[],false,0⟩]]⟩
theorem Zrz:OkU U31:=Zpa (by kernel_rfl)
def S31 (m:Int):Spc Cf:=spS U31 m 1 99
def s31 (n:UInt8):ByteArray:=⟨#[116,48,58,48,59,32,116,49,58,48,59,32,109,58,32,n]⟩
def L31:List ByteArray:=[s31 48,s31 49]
theorem ZrH:spR U31 2 1 99=spA (S31 2)∧spR U31 1 1 99=spA (S31 1):=⟨by kernel_rfl,by kernel_rfl⟩
theorem ZtI:ofF U31 (S31 2).cf=L31∧ofF U31 (S31 1).cf=L31:=⟨by kernel_rfl,by kernel_rfl⟩
theorem ZuF:((S31 2).cf.all ZhN&&(S31 1).cf.all ZhN)=true:=by kernel_rfl
theorem ZuL:Wk (.tup [.agg (unC U31),iD 0,iD 0]) Ztj:=by
 refine⟨_,rfl,Zgg (Zt4 ?_) (Zgg Zn9 (Zgg Zn9 ZpG))⟩
 repeat' first|exact Zn9|exact Zt5|exact ZpG|exact Zs3|apply Zuu|apply Zgg|apply Zrl
theorem Zo3:Pure Tryz.prog 14 [Zh4] (.tup [.agg (unC U31),iD 0,iD 0]):=Pure.wk p_1 ZuL
theorem Zub (m:Int) (h:m=2∨m=1):Pure Tryz.prog 142 [.agg (unC U31),iD m,iD 1,iD 99] (.tup [.agg (spA (S31 m)),iD 0]):=by
 rcases h with rfl|rfl
 ·have:=Zoi U31 Zrz 2 1 99 (by kernel_rfl) (by kernel_rfl) (by decide)
  rwa [ZrH.1,show Zj9 U31 2 1 99=0 from by kernel_rfl]at this
 ·have:=Zoi U31 Zrz 1 1 99 (by kernel_rfl) (by kernel_rfl) (by decide)
  rwa [ZrH.2,show Zj9 U31 1 1 99=0 from by kernel_rfl]at this
theorem Zsr (m:Int) (h:m=2∨m=1):Pure Tryz.prog 49 [.agg (unC U31),.agg (spA (S31 m))] (tlD L31):=by
 have hk:=Bool.and_eq_true_iff.1 ZuF
 rcases h with rfl|rfl
 ·have:=Zjd U31 (S31 2).cf (Zir (S31 2)) (S31 2).pa (S31 2).ag (by decide) (z'x (by kernel_rfl)) (fun c hc=>Zi9 (z'o.1 hk.1 c hc))
  rwa [ZtI.1]at this
 ·have:=Zjd U31 (S31 1).cf (Zir (S31 1)) (S31 1).pa (S31 1).ag (by decide) (z'x (by kernel_rfl)) (fun c hc=>Zi9 (z'o.1 hk.2 c hc))
  rwa [ZtI.2]at this
theorem Znd (m:Int) (h:m=2∨m=1):Pure Tryz.prog 90 [Zh4,.agg [iD m,iD 1,iD 1,iD 99]] (.tup [tlD L31,iD 0]):=by
 have c1:=Zo3
 have c2:=Zub m h
 have c3:=Zsr m h
 refine Fun.of T [.tmp 4,.tmp 5] Tryz.func90 rfl Tryz.ntmps90 Tryz.results90 rfl (by kernel_rfl) ?_
 repeat' first|refine vb (t:=26) rfl rfl rfl rfl ?_|refine vb (t:=138) rfl rfl rfl rfl ?_|refine vs T rfl fun K hK=>?_;(try simp (disch:=omega) only[go_sem,Nat.reduceBEq,Nat.reduceAdd,Nat.reduceLeDiff]);(first|refine hK _ _ ?_;clear hK K|intro bq hbq;(try simp only[HB]at hbq);refine hK _ _ ?_;clear hK K|refine Op1.callp rfl rfl (c1) rfl ?_;refine hK _ _ ?_;clear hK K|refine Op1.callp rfl rfl (c2) rfl ?_;refine hK _ _ ?_;clear hK K|refine Op1.callp rfl rfl (c3) rfl ?_;refine hK _ _ ?_;clear hK K)|refine st rfl ?_|refine sc rfl ?_|refine nl ?_|refine gs rfl rfl ?_|exact w'd T (z'a _) ⟨rfl,rfl⟩
theorem Zua:Pure Tryz.prog 90 [Zh4,.agg [iD 2,iD 1,iD 0,iD 99]] (.tup [.gs none 0,iD 19]):=by
 have c1:=Zo3
 refine Fun.of T [.tmp 4,.tmp 5] Tryz.func90 rfl Tryz.ntmps90 Tryz.results90 rfl (by kernel_rfl) ?_
 repeat' first|refine vb (t:=26) rfl rfl rfl rfl ?_|refine vb (t:=138) rfl rfl rfl rfl ?_|refine vs T rfl fun K hK=>?_;(try simp (disch:=omega) only[go_sem,Nat.reduceBEq,Nat.reduceAdd,Nat.reduceLeDiff]);(first|refine hK _ _ ?_;clear hK K|intro bq hbq;(try simp only[HB]at hbq);refine hK _ _ ?_;clear hK K|refine Op1.callp rfl rfl (c1) rfl ?_;refine hK _ _ ?_;clear hK K)|refine st rfl ?_|refine sc rfl ?_|refine nl ?_|refine gs rfl rfl ?_|exact w'd T (z'a _) ⟨rfl,rfl⟩
theorem Zun:Pure Tryz.prog 91 [Zh4,.agg [iD 2,iD 1,iD 1,iD 99]] (.tup [bD true,iD 0]):=by
 have c1:=Znd 2 (.inl rfl)
 have c2:=Znd 1 (.inr rfl)
 have c3:=Za8 L31 L31 (by decide) (by decide)
 rw[show decide (y'O L31 L31=[])=true from by kernel_rfl]at c3
 refine Fun.of T [.tmp 4,.tmp 5] Tryz.func91 rfl Tryz.ntmps91 Tryz.results91 rfl (by kernel_rfl) ?_
 repeat' first|refine vb (t:=26) rfl rfl rfl rfl ?_|refine vb (t:=138) rfl rfl rfl rfl ?_|refine vs T rfl fun K hK=>?_;(try simp (disch:=omega) only[go_sem,Nat.reduceBEq,Nat.reduceAdd,Nat.reduceLeDiff]);(first|refine hK _ _ ?_;clear hK K|intro bq hbq;(try simp only[HB]at hbq);refine hK _ _ ?_;clear hK K|refine Op1.callp rfl rfl (c1) rfl ?_;refine hK _ _ ?_;clear hK K|refine Op1.callp rfl rfl (c2) rfl ?_;refine hK _ _ ?_;clear hK K|refine Op1.callp rfl rfl (c3) rfl ?_;refine hK _ _ ?_;clear hK K)|refine st rfl ?_|refine sc rfl ?_|refine nl ?_|refine gs rfl rfl ?_|exact w'd T (z'a _) ⟨rfl,rfl⟩
theorem ZnM:Pure Tryz.prog 40 [] (bD true):=by
 have c0:=p_0
 have c1:=Znd 2 (.inl rfl)
 have c2:=Zua
 have c3:=Zun
 have c4:Pure Tryz.prog 45 [tlD L31,.sl true 1 [[sD (s31 48)],[sD (s31 49)]]] (bD true):=by
  have:=Zfz L31 L31 (by decide) (by decide)
  rw[show decide (L31=L31)=true from decide_eq_true rfl]at this
  exact Fun.argsW this (z'4 (Fz.refl _ _) (z'4 ZjB v'o))
 have c5:Pure Tryz.prog 43 [tlD [s31 48],tlD L31] (bD true):=by
  have:=Za8 [s31 48] L31 (by decide) (by decide)
  rwa [show decide (y'O L31 [s31 48]=[])=true from by kernel_rfl]at this
 have c6:Pure Tryz.prog 43 [tlD L31,tlD [s31 48]] (bD false):=by
  have:=Za8 L31 [s31 48] (by decide) (by decide)
  rwa [show decide (y'O [s31 48] L31=[])=false from by kernel_rfl]at this
 have c7:Pure Tryz.prog 42 [tlD [s31 48],tlD L31] (tlD [s31 49]):=by
  have:=Zix [s31 48] L31 (by decide) (by decide)
  rwa [show y'O [s31 48] L31=[s31 49] from by kernel_rfl]at this
 have c8:Pure Tryz.prog 45 [tlD [s31 49],tlD [s31 49]] (bD true):=by
  have:=Zfz [s31 49] [s31 49] (by decide) (by decide)
  rwa [show decide ([s31 49]=[s31 49])=true from decide_eq_true rfl]at this
 refine Fun.of T [.tmp 0] Tryz.func40 rfl Tryz.ntmps40 Tryz.results40 rfl (by kernel_rfl) ?_
 repeat' first|refine dr (id:=6) T 38 (by kernel_rfl) ?_|refine gn ?_|(first|apply VCg.step T rfl rfl|apply exF);focus((try simp (disch:=omega) only[go_sem,Nat.reduceBEq,Nat.reduceAdd,Nat.reduceMul,Nat.reduceLeDiff,Int.reduceToNat,z'O]);(first|exact rfl|refine⟨?_,rfl⟩|refine Op1.callp rfl rfl (c4) rfl ?_;exact⟨rfl,rfl⟩|refine Op1.callp rfl rfl (c5) rfl ?_;exact⟨rfl,rfl⟩|refine Op1.callp rfl rfl (c6) rfl ?_;exact⟨rfl,rfl⟩|refine Op1.callp rfl rfl (c7) rfl ?_;exact⟨rfl,rfl⟩))|refine VCg.gstep T rfl rfl rfl rfl ?_;try simp only[GB]|refine vs T rfl fun K hK=>?_;(try simp (disch:=omega) only[go_sem,Nat.reduceBEq,Nat.reduceAdd,Nat.reduceLeDiff]);(first|refine hK _ _ ?_;clear hK K|intro bq hbq;(try simp only[HB]at hbq);refine hK _ _ ?_;clear hK K|refine Op1.callp rfl rfl (c0) rfl ?_;refine hK _ _ ?_;clear hK K|refine Op1.callp rfl rfl (c1) rfl ?_;refine hK _ _ ?_;clear hK K|refine Op1.callp rfl rfl (c2) rfl ?_;refine hK _ _ ?_;clear hK K|refine Op1.callp rfl rfl (c3) rfl ?_;refine hK _ _ ?_;clear hK K|refine Op1.callp rfl rfl (c8) rfl ?_;refine hK _ _ ?_;clear hK K)|refine st rfl ?_|refine nl ?_|refine gs rfl rfl ?_|exact z'A T (z'a _) ⟨rfl,rfl⟩
 all_goals exact⟨by decide,by decide⟩
theorem Zo4 (a b:List ByteArray):y'O b (y'O a b)=[]:=by
 rw[y'O,x'k]
 intro x hx
 have:=(x'R.1 hx).1
 rw[ZbQ.2 this]
 simp
theorem ZkR (a b:List ByteArray) (hsa: ∀x,x∈a→x.size≤9223372036854775807) (hsb: ∀x,x∈b→x.size≤9223372036854775807):Pure Tryz.prog 10 [tlD a,tlD b] (bD true):=by
 have k0:=ZnM
 refine Fun.of T [.tmp 4] Tryz.func10 rfl Tryz.ntmps10 Tryz.results10 rfl (by kernel_rfl) ?_
 by_cases h:a.length≤60∧b.length≤60
 case neg=>
  repeat' first|refine vs T rfl fun K hK=>?_;(try simp (disch:=omega) only[go_sem,Nat.reduceBEq,x'x]);(first|refine hK _ _ ?_;clear hK K|refine Op1.callp rfl rfl (k0) rfl ?_;refine hK _ _ ?_;clear hK K)|refine st rfl ?_|refine sc rfl ?_|refine nl ?_|refine gs rfl rfl ?_|exact z'A T (z'a _) ⟨rfl,rfl⟩|with_reducible refine z'B (fun hc=>?_) (fun hc=>?_)<;>(try simp only[decide_eq_true_eq,decide_eq_false_iff_not,gt_iff_lt,z'F]at hc)<;>(try(exfalso;omega))
 obtain⟨ha,hb⟩:=h
 have c1:=Zix a b (by omega) (by omega)
 have c2:=Za8 a b (by omega) (by omega)
 have c3:=Zl1 a b (by omega) (by omega)
 have c4:=Zi7 a b (by omega) (by omega)
 have hml:=Ziw a b
 have c5:=Zfz (y'O a b) (y'O a b) (by omega) (by omega)
 rw[show decide (y'O a b=y'O a b)=true from decide_eq_true rfl]at c5
 have c6:=Za8 (y'O a b) b (by omega) (by omega)
 rw[Zo4,show decide (([]:List ByteArray)=[])=true from decide_eq_true rfl]at c6
 have c7:=Za8 b a (by omega) (by omega)
 have hgo:((decide (y'O b a=[])) == (decide (y'O b a=[])))=true:=beq_self_eq_true _
 have hend:((((y'O a b).length:Int) == 0) == (decide (y'O a b=[])))=true:=by
  cases hm:y'O a b<;>simp
  omega
 repeat' first|refine vs T rfl fun K hK=>?_;(try simp (disch:=omega) only[go_sem,Nat.reduceBEq,x'x]);(refine hK _ _ ?_;clear hK K)|refine st rfl ?_|refine sc rfl ?_|refine nl ?_|refine gs rfl rfl ?_|with_reducible refine z'B (fun hc=>?_) (fun hc=>?_)<;>(try simp only[decide_eq_true_eq,decide_eq_false_iff_not,gt_iff_lt,z'F]at hc)<;>(try(exfalso;omega))
 refine VC.loop {k:Nat//1≤k∧k≤61} (fun p=>⟨y'd [(0,tlD a),(1,tlD b),(5,iD (p.1:Nat))],[]⟩) (fun p=>61-p.1) ⟨1,by decide⟩ ?_ ?_
 ·refine Weak.sub ?_
  simp[sub,upd]
 ·rintro⟨k,hk1,hk2⟩
  dsimp only at hk1 hk2⊢
  rcases z'j k a.length with hlt|hge
  ·have c8:=Zi4 (a.getD (k-1) emp) (a.getD k emp) (hsa _ (w'R (by omega))) (hsa _ (w'R hlt))
   cases hB:bL (a.getD (k-1) emp) (a.getD k emp)with
   |true=>
    rw[hB]at c8
    repeat' first|refine dr (id:=6) T 9 (by kernel_rfl) ?_|refine gn ?_|(first|apply VCg.step T rfl rfl|apply exF);focus((try simp (disch:=omega) only[go_sem,Nat.reduceBEq,Zbo,w64,ZhZ,z'q]);(first|exact rfl|refine⟨?_,rfl⟩;try omega))|refine vs T rfl fun K hK=>?_;(try simp (disch:=omega) only[go_sem,Nat.reduceBEq,x'x,w64,z'E]);(first|refine hK _ _ ?_;clear hK K|refine Op1.callp rfl rfl (c8) rfl ?_;refine hK _ _ ?_;clear hK K)|refine st rfl ?_|refine sc rfl ?_|refine nl ?_|with_reducible refine z'B (fun hc=>?_) (fun hc=>?_)<;>(try simp only[decide_eq_true_eq,decide_eq_false_iff_not,z'F]at hc)<;>(try(exfalso;omega))
    refine⟨⟨k+1,by omega,by omega⟩,Weak.sub ?_,by simp only[];omega⟩
    simp[sub,upd]
   |false=>
    rw[hB]at c8
    repeat' first|refine dr (id:=6) T 9 (by kernel_rfl) ?_|refine gn ?_|(apply VCg.step T rfl rfl);focus((try simp (disch:=omega) only[go_sem,Nat.reduceBEq,Zbo,w64,ZhZ,z'q]);(first|exact rfl|refine⟨?_,rfl⟩;try omega))|refine vs T rfl fun K hK=>?_;(try simp (disch:=omega) only[go_sem,Nat.reduceBEq,x'x,z'O]);(first|refine hK _ _ ?_;clear hK K|refine Op1.callp rfl rfl (k0) rfl ?_;refine hK _ _ ?_;clear hK K|refine Op1.callp rfl rfl (c8) rfl ?_;refine hK _ _ ?_;clear hK K)|refine st rfl ?_|refine sc rfl ?_|refine nl ?_|exact z'A T (z'a _) ⟨rfl,rfl⟩|with_reducible refine z'B (fun hc=>?_) (fun hc=>?_)<;>(try simp only[decide_eq_true_eq,decide_eq_false_iff_not,z'F]at hc)<;>(try(exfalso;omega))
  ·repeat' first|refine vs T rfl fun K hK=>?_;(try simp (disch:=omega) only[go_sem,Nat.reduceBEq,x'x]);(refine hK _ _ ?_;clear hK K)|refine st rfl ?_|refine sc rfl ?_|refine nl ?_|with_reducible refine z'B (fun hc=>?_) (fun hc=>?_)<;>(try simp only[decide_eq_true_eq,decide_eq_false_iff_not,z'F]at hc)<;>(try(exfalso;omega))
   refine VC.loop {k:Nat//1≤k∧k≤61} (fun p=>⟨y'd [(0,tlD a),(1,tlD b),(6,iD (p.1:Nat))],[]⟩) (fun p=>61-p.1) ⟨1,by decide⟩ ?_ ?_
   ·refine Weak.sub ?_
    simp[sub,upd]
   rintro⟨j,hj1,hj2⟩
   dsimp only at hj1 hj2⊢
   rcases z'j j b.length with hjt|hjge
   ·have c8:=Zi4 (b.getD (j-1) emp) (b.getD j emp) (hsb _ (w'R (by omega))) (hsb _ (w'R hjt))
    cases hB:bL (b.getD (j-1) emp) (b.getD j emp)with
    |true=>
     rw[hB]at c8
     repeat' first|refine dr (id:=11) T 9 (by kernel_rfl) ?_|refine gn ?_|(first|apply VCg.step T rfl rfl|apply exF);focus((try simp (disch:=omega) only[go_sem,Nat.reduceBEq,Zbo,w64,ZhZ,z'q]);(first|exact rfl|refine⟨?_,rfl⟩;try omega))|refine vs T rfl fun K hK=>?_;(try simp (disch:=omega) only[go_sem,Nat.reduceBEq,x'x,w64,z'E]);(first|refine hK _ _ ?_;clear hK K|refine Op1.callp rfl rfl (c8) rfl ?_;refine hK _ _ ?_;clear hK K)|refine st rfl ?_|refine sc rfl ?_|refine nl ?_|with_reducible refine z'B (fun hc=>?_) (fun hc=>?_)<;>(try simp only[decide_eq_true_eq,decide_eq_false_iff_not,z'F]at hc)<;>(try(exfalso;omega))
     refine⟨⟨j+1,by omega,by omega⟩,Weak.sub ?_,by simp only[];omega⟩
     simp[sub,upd]
    |false=>
     rw[hB]at c8
     repeat' first|refine dr (id:=11) T 9 (by kernel_rfl) ?_|refine gn ?_|(apply VCg.step T rfl rfl);focus((try simp (disch:=omega) only[go_sem,Nat.reduceBEq,Zbo,w64,ZhZ,z'q]);(first|exact rfl|refine⟨?_,rfl⟩;try omega))|refine vs T rfl fun K hK=>?_;(try simp (disch:=omega) only[go_sem,Nat.reduceBEq,x'x,z'O]);(first|refine hK _ _ ?_;clear hK K|refine Op1.callp rfl rfl (k0) rfl ?_;refine hK _ _ ?_;clear hK K|refine Op1.callp rfl rfl (c8) rfl ?_;refine hK _ _ ?_;clear hK K)|refine st rfl ?_|refine sc rfl ?_|refine nl ?_|exact z'A T (z'a _) ⟨rfl,rfl⟩|with_reducible refine z'B (fun hc=>?_) (fun hc=>?_)<;>(try simp only[decide_eq_true_eq,decide_eq_false_iff_not,z'F]at hc)<;>(try(exfalso;omega))
   ·repeat' first|refine vs T rfl fun K hK=>?_;(try simp (disch:=omega) only[go_sem,Nat.reduceBEq,x'x,hgo,hend]);(first|refine hK _ _ ?_;clear hK K|refine Op1.callp rfl rfl (k0) rfl ?_;refine hK _ _ ?_;clear hK K|refine Op1.callp rfl rfl (c1) rfl ?_;refine hK _ _ ?_;clear hK K|refine Op1.callp rfl rfl (c2) rfl ?_;refine hK _ _ ?_;clear hK K|refine Op1.callp rfl rfl (c3) rfl ?_;refine hK _ _ ?_;clear hK K|refine Op1.callp rfl rfl (c4) rfl ?_;refine hK _ _ ?_;clear hK K|refine Op1.callp rfl rfl (c5) rfl ?_;refine hK _ _ ?_;clear hK K|refine Op1.callp rfl rfl (c6) rfl ?_;refine hK _ _ ?_;clear hK K|refine Op1.callp rfl rfl (c7) rfl ?_;refine hK _ _ ?_;clear hK K)|refine st rfl ?_|refine sc rfl ?_|refine nl ?_|refine gs rfl rfl ?_|exact z'A T (z'a _) ⟨rfl,rfl⟩|with_reducible refine z'B (fun hc=>?_) (fun hc=>?_)<;>(try simp only[decide_eq_true_eq,decide_eq_false_iff_not,z'F]at hc)<;>(try(exfalso;omega))
    all_goals trace_state
end Go.Proofs.YthlkpnjjkgmlkaaGreat
