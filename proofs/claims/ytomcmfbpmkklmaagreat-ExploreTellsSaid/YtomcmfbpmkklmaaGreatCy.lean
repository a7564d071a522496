/- The law ExploreTells. No condition. -/
import Derived.Test.YtomcmfbpmkklmaaGreatCx
namespace Go.Proofs.YtomcmfbpmkklmaaGreat
set_option maxHeartbeats 16000000
set_option linter.unusedSimpArgs false
set_option linter.unusedVariables false
set_option maxRecDepth 20000
open Go Go.Proofs Go.Vc
attribute [local irreducible] y'0 VCg VCw VCx
theorem Zqc {l:List (List Bool)} {i:Nat} (h:i<l.length):(Zan l)[i]?=some [v'Q (l.getD i [])]:=by
 simp[Zan,z'd,h]
theorem Zj5 (u:Un) (m r b:Int) (d:Cf):Pure Tryz.prog 8 [.agg (Zef u m r b),.agg (cfC d)] (bD true):=by
 have cl:=ZbL u m r b
 have cd:=ZkF d
 have ck:=ZbJ
 refine Fun.of T [.tmp 4] Tryz.func8 rfl Tryz.ntmps8 Tryz.results8 rfl (by kernel_rfl) ?_
 cases hL:w'Z u&&decide (b≤150)with
 |false=>
  rw[hL]at cl
  repeat' first|refine vb (t:=27) rfl rfl rfl rfl ?_|refine vb (t:=43) rfl rfl rfl rfl ?_|refine vs T rfl fun K hK=>?_;(try simp (disch:=omega) only[go_sem,Nat.reduceBEq,Nat.reduceAdd,Nat.reduceLeDiff,z'q]);(first|refine hK _ _ ?_;clear hK K|refine Op1.callp rfl rfl (cl) rfl ?_;refine hK _ _ ?_;clear hK K|refine Op1.callp rfl rfl (ck) rfl ?_;refine hK _ _ ?_;clear hK K)|refine st rfl ?_|refine sc rfl ?_|refine nl ?_|refine gs rfl rfl ?_|exact z'j T (z'a _) ⟨rfl,rfl⟩
 |true=>
 rw[hL]at cl
 simp only[z'h,decide_eq_true_eq]at hL
 cases hD:ZaB d with
 |false=>
  rw[hD]at cd
  repeat' first|refine vb (t:=27) rfl rfl rfl rfl ?_|refine vb (t:=43) rfl rfl rfl rfl ?_|refine vs T rfl fun K hK=>?_;(try simp (disch:=omega) only[go_sem,Nat.reduceBEq,Nat.reduceAdd,Nat.reduceLeDiff,z'q,z'i]);(first|refine hK _ _ ?_;clear hK K|refine Op1.callp rfl rfl (cl) rfl ?_;refine hK _ _ ?_;clear hK K|refine Op1.callp rfl rfl (cd) rfl ?_;refine hK _ _ ?_;clear hK K|refine Op1.callp rfl rfl (ck) rfl ?_;refine hK _ _ ?_;clear hK K)|refine st rfl ?_|refine sc rfl ?_|refine nl ?_|refine gs rfl rfl ?_|exact z'j T (z'a _) ⟨rfl,rfl⟩
 |true=>
 rw[hD]at cd
 have hd:=Zhn hD
 have hu:=ZaT hL.1
 have c1:=Zhg u hu m r b (by omega)
 by_cases he:x'b u m r b=0
 case neg=>
  have e1:(x'b u m r b != 0)=true:=by simp[he]
  obtain⟨C,g,P,B,hx⟩:=ZiH u m r b
  rw[hx]at c1
  generalize x'b u m r b=e at*
  repeat' first|refine vb (t:=27) rfl rfl rfl rfl ?_|refine vb (t:=43) rfl rfl rfl rfl ?_|refine vs T rfl fun K hK=>?_;(try simp (disch:=omega) only[go_sem,Nat.reduceBEq,Nat.reduceAdd,Nat.reduceLeDiff,z'i,e1]);(first|refine hK _ _ ?_;clear hK K|intro bq hbq;(try simp only[HB]at hbq);refine hK _ _ ?_;clear hK K|refine Op1.callp rfl rfl (cl) rfl ?_;refine hK _ _ ?_;clear hK K|refine Op1.callp rfl rfl (cd) rfl ?_;refine hK _ _ ?_;clear hK K|refine Op1.callp rfl rfl (ck) rfl ?_;refine hK _ _ ?_;clear hK K|refine Op1.callp rfl rfl (c1) rfl ?_;refine hK _ _ ?_;clear hK K)|refine st rfl ?_|refine sc rfl ?_|refine nl ?_|refine gs rfl rfl ?_|exact z'j T (z'a _) ⟨rfl,rfl⟩
 obtain⟨S,hU,hA,hS,hsp⟩:=Zds he
 rw[he,hsp]at c1
 have hA':=hA
 simp only[w'i,z'h,decide_eq_true_eq]at hA'
 have hT:=ZgN hS hA'.2.2.1 (by omega)
 have hrt:=Zfd hS hA'.2.2.1 (v'l hu hU hA'.1 hA'.2.1)
 have hok: ∀c,c∈S.cf→OkC c:=fun c hc=>(hrt c hc).okC
 have c2:=Zfl u hu m r S.cf (v'z S) S.pa S.ag hT.len hrt
 have c3:=Zjc u hu m r S.cf (v'z S) S.pa S.ag hT.len hrt
 have c4:=ZfM S.cf (v'z S) S.pa S.ag hT.len hok d hd
 have c5:=Zev S.cf (v'z S) S.pa S.ag hT.len hok d hd
 have c6:=Zhv u hu S.cf (v'z S) S.pa S.ag hT.len hok
 have c7:=Zkg u hu S.cf (v'z S) S.pa S.ag hT.len hok
 have c8:=Ziv u m r S.cf (v'z S) S.pa S.ag hT.len hrt
 have c9:=ZkQ u m r S.cf (v'z S) S.pa S.ag hT.len hrt
 have hlen:=hT.len
 have i1:=Zbb (plK (x'8 u) S.cf S.cf.length) (plK (x'8 u) S.cf S.cf.length) (y'H (Zb6 _ _ _) hlen) (y'H (Zb6 _ _ _) hlen)
 have i2:=Zbb (plK (fun c=>v'R u c m r) S.cf S.cf.length) (plK (fun c=>v'R u c m r) S.cf S.cf.length) (y'H (Zb6 _ _ _) hlen) (y'H (Zb6 _ _ _) hlen)
 rw[decide_eq_true rfl]at i1 i2
 have hrl:(S.cf.map (enR u m r)).length=S.cf.length:=z'p ..
 have hel: ∀i,((S.cf.map (enR u m r)).getD i []).length≤1000000:=fun i=>by
  by_cases hi:i<S.cf.length
  ·have e:(S.cf.map (enR u m r)).getD i []=enR u m r S.cf[i]:=by simp[z'd,hi]
   rw[e,ZgL]
   have:=v'J u m
   have:=hu
   have q:=v'J u m
   omega
  ·simp[z'd,z'x (show S.cf.length≤i by omega)]
 generalize hR:S.cf.map (enR u m r)=R at*
 generalize plK (x'8 u) S.cf S.cf.length=p1 at*
 generalize plK (fun c=>v'R u c m r) S.cf S.cf.length=p2 at*
 generalize plI (w'u S.cf d)=p3 at*
 repeat' first|refine vb (t:=27) rfl rfl rfl rfl ?_|refine vb (t:=43) rfl rfl rfl rfl ?_|refine vs T rfl fun K hK=>?_;(try simp (disch:=omega) only[go_sem,Nat.reduceBEq,Nat.reduceAdd,Nat.reduceLeDiff,z'i,bne_self_eq_false,Zba]);(first|refine hK _ _ ?_;clear hK K|intro bq hbq;(try simp only[HB]at hbq);refine hK _ _ ?_;clear hK K|refine Op1.callp rfl rfl (cl) rfl ?_;refine hK _ _ ?_;clear hK K|refine Op1.callp rfl rfl (cd) rfl ?_;refine hK _ _ ?_;clear hK K|refine Op1.callp rfl rfl (c1) rfl ?_;refine hK _ _ ?_;clear hK K|refine Op1.callp rfl rfl (c2) rfl ?_;refine hK _ _ ?_;clear hK K|refine Op1.callp rfl rfl (c3) rfl ?_;refine hK _ _ ?_;clear hK K)|refine st rfl ?_|refine sc rfl ?_|refine nl ?_|refine gs rfl rfl ?_
 refine VC.loop {k:Nat//k≤R.length} (fun q=>⟨z'M [(2,.pt (Zef u m r b)),(3,.pt (cfC d)),(5,pD bq),(7,.sl false 1 (Zan R)),(8,.sl false 1 (Zan R)),(9,iD (q.1:Nat))],[(bq,.cells 34 6 (spA S))]⟩) (fun q=>R.length-q.1) ⟨0,by omega⟩ ?_ ?_
 ·refine z'G rfl ?_
  simp[sub,upd]
 rintro⟨k,hk⟩
 dsimp only at hk⊢
 rcases z'g k R.length with hlt|hge
 ·have cb:=ZmW (R.getD k []) (R.getD k []) (hel k) (hel k)
  rw[decide_eq_true rfl]at cb
  repeat' first|refine dr (id:=13) T 8 (by kernel_rfl) ?_|refine gn ?_|(first|apply VCg.step T rfl rfl|apply exF);focus((try simp (disch:=omega) only[go_sem,Nat.reduceBEq,Zqc,Zba,z'o]);(first|exact rfl|refine⟨?_,rfl⟩;try omega))|refine vs T rfl fun K hK=>?_;(try simp (disch:=omega) only[go_sem,Nat.reduceBEq,Zba,w64,z'i]);(first|refine hK _ _ ?_;clear hK K|refine Op1.callp rfl rfl (cb) rfl ?_;refine hK _ _ ?_;clear hK K)|refine st rfl ?_|refine sc rfl ?_|refine nl ?_|with_reducible refine z's (fun hc=>?_) (fun hc=>?_)<;>(try simp only[decide_eq_true_eq,decide_eq_false_iff_not,z'u]at hc)<;>(try(exfalso;omega))
  refine⟨⟨k+1,by omega⟩,z'G rfl ?_,by dsimp only;omega⟩
  simp[sub,upd]
 obtain rfl:k=R.length:=by omega
 repeat' first|refine dr (id:=15) T 34 (by kernel_rfl) ?_|refine gn ?_|(first|apply VCg.step T rfl rfl|apply exF);focus((try simp (disch:=omega) only[go_sem,Nat.reduceBEq,Nat.reduceAdd,Nat.reduceLeDiff,beq_self_eq_true]);(first|exact rfl|refine Op1.callp rfl rfl (c4) rfl ?_;exact⟨rfl,rfl⟩|refine Op1.callp rfl rfl (c5) rfl ?_;exact⟨rfl,rfl⟩|refine Op1.callp rfl rfl (c6) rfl ?_;exact⟨rfl,rfl⟩|refine Op1.callp rfl rfl (c7) rfl ?_;exact⟨rfl,rfl⟩|refine Op1.callp rfl rfl (c8) rfl ?_;exact⟨rfl,rfl⟩|refine Op1.callp rfl rfl (i1) rfl ?_;exact⟨rfl,rfl⟩))|refine VCg.gstep T rfl rfl rfl rfl ?_;try simp only[GB]|refine vs T rfl fun K hK=>?_;(try simp (disch:=omega) only[go_sem,Nat.reduceBEq,Zba,beq_self_eq_true]);(first|refine hK _ _ ?_;clear hK K|refine Op1.callp rfl rfl (ck) rfl ?_;refine hK _ _ ?_;clear hK K|refine Op1.callp rfl rfl (c9) rfl ?_;refine hK _ _ ?_;clear hK K|refine Op1.callp rfl rfl (i2) rfl ?_;refine hK _ _ ?_;clear hK K)|refine st rfl ?_|refine sc rfl ?_|refine nl ?_|refine gs rfl rfl ?_|with_reducible refine z's (fun hc=>?_) (fun hc=>?_)<;>(try simp only[decide_eq_true_eq,decide_eq_false_iff_not,z'u]at hc)<;>(try(exfalso;omega))
 exact z'j T (z'a _) ⟨rfl,rfl⟩
end Go.Proofs.YtomcmfbpmkklmaaGreat
