/- Contracts: names. No condition. -/
import Derived.Test.YthlkpnjjkgmlkaaGreatLd
namespace Go.Proofs.YthlkpnjjkgmlkaaGreat
set_option maxHeartbeats 16000000
set_option linter.unusedSimpArgs false
set_option linter.unusedVariables false
set_option maxRecDepth 20000
open Go Go.Proofs Go.Vc
attribute [local irreducible] x'r VCg VCw VCx
theorem Zm9 (n:Int):Pure Tryz.prog 224 [.is (.int .i32 n)] (bD (ltB n)):=by
 refine Fun.of T [.tmp 2] Tryz.func224 rfl Tryz.ntmps224 Tryz.results224 rfl (by kernel_rfl) ?_
 repeat' first|refine mq0 ?_|refine gu rfl rfl ?_|refine z'r T (z'a _) ?_;(try simp only[upd,Nat.reduceBEq,cond_true,cond_false,and_true])|with_reducible refine z'j (fun hc=>?_) (fun hc=>?_)<;>(try simp only[decide_eq_true_eq,decide_eq_false_iff_not,ge_iff_le,y'j]at hc)<;>(try(exfalso;omega))|fail
 all_goals(congr 2;rw[z'9];simp only[ltB,z'1,z'd,decide_eq_true_eq,beq_iff_eq,true_iff];omega)
theorem ZoC (n:Int):Pure Tryz.prog 225 [.is (.int .i32 n)] (bD (dgB n)):=by
 refine Fun.of T [.tmp 2] Tryz.func225 rfl Tryz.ntmps225 Tryz.results225 rfl (by kernel_rfl) ?_
 repeat' first|refine mq0 ?_|refine z'r T (z'a _) ?_;(try simp only[upd,Nat.reduceBEq,cond_true,cond_false,and_true])|with_reducible refine z'j (fun hc=>?_) (fun hc=>?_)<;>(try simp only[decide_eq_true_eq,decide_eq_false_iff_not,ge_iff_le,y'j]at hc)|fail
 all_goals(congr 2;rw[z'9];simp only[dgB,z'd,decide_eq_true_eq,y'x,true_iff,false_iff];omega)
theorem Zlg (s:ByteArray):Pure Tryz.prog 226 [sD s] (bD (kwB s)):=by
 refine Fun.of T [.tmp 2] Tryz.func226 rfl Tryz.ntmps226 Tryz.results226 rfl (by kernel_rfl) ?_
 by_cases h0:s=⟨#[109,111,100]⟩
 ·have d0:=decide_eq_true h0
  rw[show kwB s=true by rw[h0];rfl]
  clear h0
  repeat' first|refine mq1 @d0 ?_|exact z'r T (z'a _) ⟨rfl,rfl⟩|fail
 have d0:=decide_eq_false h0
 by_cases h1:s=⟨#[108,111,99]⟩
 ·have d1:=decide_eq_true h1
  rw[show kwB s=true by rw[h1];rfl]
  clear h1
  repeat' first|refine mq1 (mqt2 @d0 @d1) ?_|exact z'r T (z'a _) ⟨rfl,rfl⟩|fail
 have d1:=decide_eq_false h1
 by_cases h2:s=⟨#[116,104,114,101,97,100]⟩
 ·have d2:=decide_eq_true h2
  rw[show kwB s=true by rw[h2];rfl]
  clear h2
  repeat' first|refine mq1 (mqt3 @d0 @d1 @d2) ?_|exact z'r T (z'a _) ⟨rfl,rfl⟩|fail
 have d2:=decide_eq_false h2
 by_cases h3:s=⟨#[114,101,103]⟩
 ·have d3:=decide_eq_true h3
  rw[show kwB s=true by rw[h3];rfl]
  clear h3
  repeat' first|refine mq1 (mqt4 @d0 @d1 @d2 @d3) ?_|exact z'r T (z'a _) ⟨rfl,rfl⟩|fail
 have d3:=decide_eq_false h3
 by_cases h4:s=⟨#[102,111,114,97,108,108]⟩
 ·have d4:=decide_eq_true h4
  rw[show kwB s=true by rw[h4];rfl]
  clear h4
  repeat' first|refine mq1 (mqt5 @d0 @d1 @d2 @d3 @d4) ?_|exact z'r T (z'a _) ⟨rfl,rfl⟩|fail
 have d4:=decide_eq_false h4
 by_cases h5:s=⟨#[101,120,105,115,116,115]⟩
 ·have d5:=decide_eq_true h5
  rw[show kwB s=true by rw[h5];rfl]
  clear h5
  repeat' first|refine mq1 (mqt6 @d0 @d1 @d2 @d3 @d4 @d5) ?_|exact z'r T (z'a _) ⟨rfl,rfl⟩|fail
 have d5:=decide_eq_false h5
 by_cases h6:s=⟨#[97,108,119,97,121,115]⟩
 ·have d6:=decide_eq_true h6
  rw[show kwB s=true by rw[h6];rfl]
  clear h6
  repeat' first|refine mq1 (mqt7 @d0 @d1 @d2 @d3 @d4 @d5 @d6) ?_|exact z'r T (z'a _) ⟨rfl,rfl⟩|fail
 have d6:=decide_eq_false h6
 by_cases h7:s=⟨#[115,107,105,112]⟩
 ·have d7:=decide_eq_true h7
  rw[show kwB s=true by rw[h7];rfl]
  clear h7
  repeat' first|refine mq1 (mqt8 @d0 @d1 @d2 @d3 @d4 @d5 @d6 @d7) ?_|exact z'r T (z'a _) ⟨rfl,rfl⟩|fail
 have d7:=decide_eq_false h7
 by_cases h8:s=⟨#[115,101,116]⟩
 ·have d8:=decide_eq_true h8
  rw[show kwB s=true by rw[h8];rfl]
  clear h8
  repeat' first|refine mq1 (mqt9 @d0 @d1 @d2 @d3 @d4 @d5 @d6 @d7 @d8) ?_|exact z'r T (z'a _) ⟨rfl,rfl⟩|fail
 have d8:=decide_eq_false h8
 by_cases h9:s=⟨#[108,111,97,100]⟩
 ·have d9:=decide_eq_true h9
  rw[show kwB s=true by rw[h9];rfl]
  clear h9
  repeat' first|refine mq1 (mqt10 @d0 @d1 @d2 @d3 @d4 @d5 @d6 @d7 @d8 @d9) ?_|exact z'r T (z'a _) ⟨rfl,rfl⟩|fail
 have d9:=decide_eq_false h9
 by_cases h10:s=⟨#[115,116,111,114,101]⟩
 ·have d10:=decide_eq_true h10
  rw[show kwB s=true by rw[h10];rfl]
  clear h10
  repeat' first|refine mq1 (mqt11 @d0 @d1 @d2 @d3 @d4 @d5 @d6 @d7 @d8 @d9 @d10) ?_|exact z'r T (z'a _) ⟨rfl,rfl⟩|fail
 have d10:=decide_eq_false h10
 by_cases h11:s=⟨#[99,97,115]⟩
 ·have d11:=decide_eq_true h11
  rw[show kwB s=true by rw[h11];rfl]
  clear h11
  repeat' first|refine mq1 (mqt12 @d0 @d1 @d2 @d3 @d4 @d5 @d6 @d7 @d8 @d9 @d10 @d11) ?_|exact z'r T (z'a _) ⟨rfl,rfl⟩|fail
 have d11:=decide_eq_false h11
 by_cases h12:s=⟨#[102,97,100,100]⟩
 ·have d12:=decide_eq_true h12
  rw[show kwB s=true by rw[h12];rfl]
  clear h12
  repeat' first|refine mq1 (mqt13 @d0 @d1 @d2 @d3 @d4 @d5 @d6 @d7 @d8 @d9 @d10 @d11 @d12) ?_|exact z'r T (z'a _) ⟨rfl,rfl⟩|fail
 have d12:=decide_eq_false h12
 by_cases h13:s=⟨#[120,99,104,103]⟩
 ·have d13:=decide_eq_true h13
  rw[show kwB s=true by rw[h13];rfl]
  clear h13
  repeat' first|refine mq1 (mqt14 @d0 @d1 @d2 @d3 @d4 @d5 @d6 @d7 @d8 @d9 @d10 @d11 @d12 @d13) ?_|exact z'r T (z'a _) ⟨rfl,rfl⟩|fail
 have d13:=decide_eq_false h13
 by_cases h14:s=⟨#[102,101,110,99,101]⟩
 ·have d14:=decide_eq_true h14
  rw[show kwB s=true by rw[h14];rfl]
  clear h14
  repeat' first|refine mq1 (mqt15 @d0 @d1 @d2 @d3 @d4 @d5 @d6 @d7 @d8 @d9 @d10 @d11 @d12 @d13 @d14) ?_|exact z'r T (z'a _) ⟨rfl,rfl⟩|fail
 have d14:=decide_eq_false h14
 by_cases h15:s=⟨#[97,119,97,105,116]⟩
 ·have d15:=decide_eq_true h15
  rw[show kwB s=true by rw[h15];rfl]
  clear h15
  repeat' first|refine mq1 (mqt16 @d0 @d1 @d2 @d3 @d4 @d5 @d6 @d7 @d8 @d9 @d10 @d11 @d12 @d13 @d14 @d15) ?_|exact z'r T (z'a _) ⟨rfl,rfl⟩|fail
 have d15:=decide_eq_false h15
 by_cases h16:s=⟨#[105,102]⟩
 ·have d16:=decide_eq_true h16
  rw[show kwB s=true by rw[h16];rfl]
  clear h16
  repeat' first|refine mq1 (mqt17 @d0 @d1 @d2 @d3 @d4 @d5 @d6 @d7 @d8 @d9 @d10 @d11 @d12 @d13 @d14 @d15 @d16) ?_|exact z'r T (z'a _) ⟨rfl,rfl⟩|fail
 have d16:=decide_eq_false h16
 by_cases h17:s=⟨#[101,108,115,101]⟩
 ·have d17:=decide_eq_true h17
  rw[show kwB s=true by rw[h17];rfl]
  clear h17
  repeat' first|refine mq1 (mqt18 @d0 @d1 @d2 @d3 @d4 @d5 @d6 @d7 @d8 @d9 @d10 @d11 @d12 @d13 @d14 @d15 @d16 @d17) ?_|exact z'r T (z'a _) ⟨rfl,rfl⟩|fail
 have d17:=decide_eq_false h17
 by_cases h18:s=⟨#[119,104,105,108,101]⟩
 ·have d18:=decide_eq_true h18
  rw[show kwB s=true by rw[h18];rfl]
  clear h18
  repeat' first|refine mq1 (mqt19 @d0 @d1 @d2 @d3 @d4 @d5 @d6 @d7 @d8 @d9 @d10 @d11 @d12 @d13 @d14 @d15 @d16 @d17 @d18) ?_|exact z'r T (z'a _) ⟨rfl,rfl⟩|fail
 have d18:=decide_eq_false h18
 by_cases h19:s=⟨#[108,111,111,112]⟩
 ·have d19:=decide_eq_true h19
  rw[show kwB s=true by rw[h19];rfl]
  clear h19
  repeat' first|refine vs T rfl fun K hK=>?_;(try simp (disch:=omega) only[go_sem,Nat.reduceBEq,d0,d1,d2,d3,d4,d5,d6,d7,d8,d9,d10,d11,d12,d13,d14,d15,d16,d17,d18,d19]);(refine hK _ _ ?_;clear hK K)|refine st rfl ?_|refine sc rfl ?_|refine nl ?_|exact z'r T (z'a _) ⟨rfl,rfl⟩
 have d19:=decide_eq_false h19
 by_cases h20:s=⟨#[98,114,101,97,107]⟩
 ·have d20:=decide_eq_true h20
  rw[show kwB s=true by rw[h20];rfl]
  clear h20
  repeat' first|refine vs T rfl fun K hK=>?_;(try simp (disch:=omega) only[go_sem,Nat.reduceBEq,d0,d1,d2,d3,d4,d5,d6,d7,d8,d9,d10,d11,d12,d13,d14,d15,d16,d17,d18,d19,d20]);(refine hK _ _ ?_;clear hK K)|refine st rfl ?_|refine sc rfl ?_|refine nl ?_|exact z'r T (z'a _) ⟨rfl,rfl⟩
 have d20:=decide_eq_false h20
 rw[show kwB s=false by unfold kwB;rw[List.any_eq_false];intro x hx;simp only[kws,z'v,y'P,or_false]at hx;rw[decide_eq_true_eq];rintro rfl;simp only[h0,h1,h2,h3,h4,h5,h6,h7,h8,h9,h10,h11,h12,h13,h14,h15,h16,h17,h18,h19,h20,or_self]at hx]
 repeat' first|refine vs T rfl fun K hK=>?_;(try simp (disch:=omega) only[go_sem,Nat.reduceBEq,d0,d1,d2,d3,d4,d5,d6,d7,d8,d9,d10,d11,d12,d13,d14,d15,d16,d17,d18,d19,d20]);(refine hK _ _ ?_;clear hK K)|refine st rfl ?_|refine sc rfl ?_|refine nl ?_|exact z'r T (z'a _) ⟨rfl,rfl⟩
theorem ZlF {s:ByteArray} {k:Nat} (h:k<s.size):((s.get! k).toNat:Int)=byT s k:=by
 have h1:k<s.data.toList.length:=by rw[z'6];exact h
 have h2:s.data.toList[k]?=some (s.data.toList[k]):=z'k h1
 have h':s.data[k]?=some (s.data.toList[k]):=by simp
 show((s.data[k]!).toNat:Int)=_
 rw[getElem!_def,h',byT,z'f,h2];rfl
theorem ZnE {s:ByteArray} {k:Nat} (h:k<s.size) (hc:byT s k<128):(((Utf8.decode s k).1:Nat):Int)=byT s k∧(Utf8.decode s k).2=1:=by
 have h1:=ZlF h
 unfold Utf8.decode
 simp only[x'W]
 rw[if_pos (by omega)]
 exact⟨h1,rfl⟩
theorem ZnF {s:ByteArray} {k:Nat} (h:k<s.size) (hc:128≤byT s k):128≤(Utf8.decode s k).1:=by
 have h1:=ZlF h
 have hr:128≤Utf8.runeError:=by decide
 unfold Utf8.decode
 simp only[x'W]
 rw[if_neg (by omega)]
 split
 ·split
  ·rename_i hh;exact hh
  ·exact hr
 ·split
  ·split
   ·rename_i hh;have h2:=of_decide_eq_true (Bool.and_eq_true_iff.1 hh).1;dsimp only;omega
   ·exact hr
  ·split
   ·split
    ·rename_i hh;have h2:=of_decide_eq_true (Bool.and_eq_true_iff.1 hh).1;dsimp only;omega
    ·exact hr
   ·exact hr
theorem ZqI {n:Int} (h:128≤n):ltB n=false∧dgB n=false:=by
 simp only[ltB,dgB,Bool.or_eq_false_iff,v'i,decide_eq_false_iff_not];omega
theorem ZbK (s:ByteArray):Pure Tryz.prog 155 [sD s] (bD (nmB s)):=by
 have c2:=Zlg s
 refine Fun.of T [.tmp 2] Tryz.func155 rfl Tryz.ntmps155 Tryz.results155 rfl (by kernel_rfl) ?_
 repeat' first|refine mq0 ?_|refine mqn fun bq hbq=>?_|fail
 refine VC.loop {k:Nat//k≤s.size∧(∀i,i<k→(ltB (byT s i)||dgB (byT s i))=true)∧(0<k→ltB (byT s 0)=true)} (fun p=>⟨z'0 [(0,sD s),(6,.is (.pointer (some ⟨bq,0,none⟩)))],[(bq,.iter s p.1)]⟩) (fun p=>s.size-p.1) ⟨0,by omega,fun i hi=>by omega,by omega⟩ ?_ ?_
 ·refine Weak.sub ?_
  simp[sub,upd,Heap.blocks]
 rintro⟨k,hk,hs2,h0⟩
 dsimp only at hk hs2 h0⊢
 rcases z'g k s.size with hlt|hge
 ·have hb:Nat.blt k s.size=true:=by simpa using hlt
  have no:(ltB (byT s k)||dgB (byT s k))=false∨(k=0∧ltB (byT s k)=false)→nmB s=false:=fun h=>by
   rcases h with h|⟨rfl,h⟩
   ·have:((List.range s.size).all fun k=>ltB (byT s k)||dgB (byT s k))=false:=by
     rw[w'A]
     exact⟨k,z'Q.2 hlt,by simp[h]⟩
    simp[nmB,this]
   ·simp[nmB,h]
  have hre:ltB ((Utf8.decode s k).1:Nat)=ltB (byT s k)∧dgB ((Utf8.decode s k).1:Nat)=dgB (byT s k)∧((ltB (byT s k)||dgB (byT s k))=true→(Utf8.decode s k).2=1):=by
   rcases w'7 (byT s k) 128 with h7|h7
   ·obtain⟨a1,a2⟩:=ZnE hlt h7
    rw[a1];exact⟨rfl,rfl,fun _=>a2⟩
   ·have a1:=ZnF hlt h7
    have a2:=ZqI h7
    have a3:=ZqI (n:=((Utf8.decode s k).1:Nat)) (by omega)
    exact⟨a3.1.trans a2.1.symm,a3.2.trans a2.2.symm,fun h=>by rw[a2.1,a2.2]at h;cases h⟩
  have d1:=Zm9 ((Utf8.decode s k).1:Nat)
  have d2:=ZoC ((Utf8.decode s k).1:Nat)
  rw[hre.1]at d1
  rw[hre.2.1]at d2
  have nxt:(ltB (byT s k)||dgB (byT s k))=true→(k=0→ltB (byT s k)=true)→ ∀(E:Nat→D),Vc.sub E [(0,sD s),(6,.is (.pointer (some ⟨bq,0,none⟩)))]→
    ∃k':{k:Nat//k≤s.size∧(∀i,i<k→(ltB (byT s i)||dgB (byT s i))=true)∧(0<k→ltB (byT s 0)=true)},Weak ⟨E,[(bq,.iter s (k+(Utf8.decode s k).2))]⟩ ⟨z'0 [(0,sD s),(6,.is (.pointer (some ⟨bq,0,none⟩)))],[(bq,.iter s k'.1)]⟩∧s.size-k'.1<s.size-k:=
   fun h h' E hE=>⟨⟨k+1,by omega,y'r hs2 h,fun _=>(x'P k).elim (fun e=>by subst e;exact h' rfl) (fun hp=>h0 hp)⟩,by rw[hre.2.2 h];exact Weak.sub hE,by dsimp only;omega⟩
  cases f1:ltB (byT s k)with
  |true=>
   rw[f1]at d1
   repeat' first|refine mq2 @hb d1 ?_|refine gu rfl rfl ?_|fail
   refine nxt (by rw[f1];rfl) (fun _=>f1) _ ?_
   simp[sub,upd]
  |false=>
   rw[f1]at d1
   rcases x'P k with hk0|hk0
   ·have hd:decide ((k:Int)=0)=true:=decide_eq_true (by omega)
    rw[no (.inr ⟨hk0,f1⟩)]
    repeat' first|refine mq2 @hb d1 ?_|exact z'r T (z'a _) ⟨rfl,rfl⟩|with_reducible refine z'j (fun hc=>?_) (fun hc=>?_)<;>(try simp only[beq_iff_eq,beq_eq_false_iff_ne,ne_eq]at hc)<;>(try(exfalso;omega))|fail
   ·have hd:decide ((k:Int)=0)=false:=decide_eq_false (by omega)
    cases f2:dgB (byT s k)with
    |true=>
     rw[f2]at d2
     repeat' first|refine mq2 @hb (mqt2 d1 d2) ?_|with_reducible refine z'j (fun hc=>?_) (fun hc=>?_)<;>(try simp only[beq_iff_eq,beq_eq_false_iff_ne,ne_eq]at hc)<;>(try(exfalso;omega))|fail
     refine nxt (by rw[f2,Bool.or_true]) (fun h=>by omega) _ ?_
     simp[sub,upd]
    |false=>
     rw[f2]at d2
     rw[no (.inl (by rw[f1,f2];rfl))]
     repeat' first|refine mq2 @hb (mqt2 d1 d2) ?_|exact z'r T (z'a _) ⟨rfl,rfl⟩|with_reducible refine z'j (fun hc=>?_) (fun hc=>?_)<;>(try simp only[beq_iff_eq,beq_eq_false_iff_ne,ne_eq]at hc)<;>(try(exfalso;omega))|fail
 ·have hb:Nat.blt k s.size=false:=by rw[Bool.eq_false_iff];simp;omega
  obtain rfl:k=s.size:=by omega
  have hn:nmB s=(decide (1≤s.size)&&(decide (s.size≤16)&& !kwB s)):=by
   unfold nmB
   have ha:((List.range s.size).all fun k=>ltB (byT s k)||dgB (byT s k))=true:=by
    rw[z'l];exact fun i hi=>hs2 i (z'Q.1 hi)
   rw[ha,x'8]
   rcases x'P s.size with h|h
   ·rw[show decide (1≤s.size)=false from decide_eq_false (by omega)];rfl
   ·rw[h0 h];rfl
  have he:(s=e0)↔s.size=0:=by
   constructor
   ·intro h;rw[h];rfl
   ·intro h;exact ByteArray.ext (Array.eq_empty_of_size_eq_zero h)
  rw[hn]
  cases hkw:kwB s with
  |false=>
   rw[hkw]at c2
   repeat' first|refine mq2 @hb c2 ?_|refine z'r T (z'a _) ?_;(try simp only[upd,Nat.reduceBEq,cond_true,cond_false,and_true,z'P])|with_reducible refine z'j (fun hc=>?_) (fun hc=>?_)<;>(try simp only[decide_eq_true_eq,decide_eq_false_iff_not,z'y,z'G,y'j]at hc)|fail
   all_goals
    by_cases hz:s.size=0
    ·have h3:=he.2 hz
     first
      |contradiction
      |(rw[hz];rfl)
    ·have h3:=mt he.1 hz
     first
      |contradiction
      |(congr 2;rw[z'9];simp only[x'8,w'm,z'd,decide_eq_true_eq,y'x,true_iff,false_iff,iff_self,not_false_eq_true];try omega)
  |true=>
   rw[hkw]at c2
   repeat' first|refine mq2 @hb c2 ?_|refine z'r T (z'a _) ?_;(try simp only[upd,Nat.reduceBEq,cond_true,cond_false,and_true,z'H])|with_reducible refine z'j (fun hc=>?_) (fun hc=>?_)<;>(try simp only[decide_eq_true_eq,decide_eq_false_iff_not,z'y,z'G,y'j]at hc)|fail
   all_goals
    by_cases hz:s.size=0
    ·have h3:=he.2 hz
     first
      |contradiction
      |(rw[hz];rfl)
    ·have h3:=mt he.1 hz
     first
      |contradiction
      |(congr 2;rw[z'9];simp only[x'8,w'm,z'd,decide_eq_true_eq,y'x,true_iff,false_iff,iff_self,not_false_eq_true];try omega)
end Go.Proofs.YthlkpnjjkgmlkaaGreat
