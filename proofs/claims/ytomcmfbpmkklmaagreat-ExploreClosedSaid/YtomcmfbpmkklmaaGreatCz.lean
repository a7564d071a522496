/- The law ExploreClosed. No condition. -/
import Derived.Test.YtomcmfbpmkklmaaGreatCy
namespace Go.Proofs.YtomcmfbpmkklmaaGreat
set_option maxHeartbeats 16000000
set_option linter.unusedSimpArgs false
set_option linter.unusedVariables false
set_option maxRecDepth 20000
open Go Go.Proofs Go.Vc
attribute [local irreducible] y'0 VCg VCw VCx
theorem Zgq {α:Type} [DecidableEq α] {mv:α→List Int} {ac:α→Int→α} {cf:List α} {k:Nat} {c:α} (hc:cf[k]?=some c): ∀n,(w'D mv ac cf n).filter (fun(e:Nat×Int×Nat)=>e.1 == k)=if k<n then(mv c).map fun a=>(k,a,cf.idxOf (ac c a))else[]
 |0=>rfl
 |n+1=>by
  have e:w'D mv ac cf (n+1)=w'D mv ac cf n++(match cf[n]? with|some c=>(mv c).map fun a=>(n,a,cf.idxOf (ac c a))|none=>[]):=by
   unfold w'D
   rw[y'p,w'd]
   simp
   cases cf[n]?<;>rfl
  rw[e,y'r,Zgq hc n]
  by_cases h:n=k
  ·subst h
   rw[hc,if_neg (by omega),if_pos (by omega),z'N,w'8.2]
   intro x hx
   obtain⟨a,_,rfl⟩:=z'y.1 hx
   simp
  ·have q:(match cf[n]? with|some c=>(mv c).map fun a=>(n,a,cf.idxOf (ac c a))|none=>([]:List (Nat×Int×Nat))).filter (fun(e:Nat×Int×Nat)=>e.1 == k)=[]:=by
    rw[x'W]
    intro x hx
    cases hn:cf[n]? with
    |none=>rw[hn]at hx;simp at hx
    |some d=>
     rw[hn]at hx
     obtain⟨a,_,rfl⟩:=z'y.1 hx
     simpa using h
   rw[q,z'r]
   by_cases h2:k<n
   ·rw[if_pos h2,if_pos (by omega)]
   ·rw[if_neg h2,if_neg (by omega)]
theorem Zqb {u:Un} {m r b:Int} {S:Spc Cf} (h:w'h u m r b=some S) (hb:1≤b) {k:Nat} {c:Cf} (hk:S.cf[k]?=some c):ZeV (v'z S) (k:Int)=(y'6 u c m r).map fun a=>((k:Int),a,((S.cf.idxOf (actM u c m r a):Nat):Int)):=by
 obtain⟨I,he,hm⟩:=v'O h (by omega)
 have hn:=Zgp h hb
 have hpl:=(z'c.1 hk).1
 have hrow:ZeV (v'z S) (k:Int)=v'h (edS S) k:=by
  unfold ZeV
  rw[hn,show(decide ((0:Int)≤(k:Int))&&decide ((k:Int)<(S.cf.length:Int)))=true by simp;omega]
  simp only[z'o]
  exact Zj7 _ _ hpl
 rw[hrow]
 have e1:v'h (edS S) k=(S.ed.filter (fun(e:Nat×Int×Nat)=>e.1 == k)).map fun e=>((e.1:Int),e.2.1,(e.2.2:Int)):=by
  unfold v'h edS
  rw[List.filter_map]
  congr 1
  refine List.filter_congr fun e _=>?_
  rw[x'l]
  simp
  omega
 rw[e1,he,Zgq hk,if_pos hpl,List.map_map]
 rfl
theorem Zoy {l:List Cf} (hn:l.Nodup) {k:Nat} {c:Cf} (h:l[k]?=some c):w'u l c=some k:=by
 refine Zit h fun i hi he=>?_
 have h1:=ZhA hn h
 have h2:=ZhA hn he
 omega
theorem ZkU (u:Un) (m r b:Int):Pure Tryz.prog 9 [.agg (Zef u m r b)] (bD true):=by
 have cl:=ZbL u m r b
 have ck:=ZbJ
 refine Fun.of T [.tmp 2] Tryz.func9 rfl Tryz.ntmps9 Tryz.results9 rfl (by kernel_rfl) ?_
 cases hL:w'Z u&&decide (b≤150)with
 |false=>
  rw[hL]at cl
  repeat' first|refine vb (t:=27) rfl rfl rfl rfl ?_|refine vs T rfl fun K hK=>?_;(try simp (disch:=omega) only[go_sem,Nat.reduceBEq,Nat.reduceAdd,Nat.reduceLeDiff,z'q]);(first|refine hK _ _ ?_;clear hK K|refine Op1.callp rfl rfl (cl) rfl ?_;refine hK _ _ ?_;clear hK K|refine Op1.callp rfl rfl (ck) rfl ?_;refine hK _ _ ?_;clear hK K)|refine st rfl ?_|refine sc rfl ?_|refine nl ?_|exact z'j T (z'a _) ⟨rfl,rfl⟩
 |true=>
 rw[hL]at cl
 simp only[z'h,decide_eq_true_eq]at hL
 have hu:=ZaT hL.1
 have c1:=ZaM u hu m r b (by omega)
 by_cases he:x'b u m r b=0
 case neg=>
  have e1:(x'b u m r b != 0)=true:=by simp[he]
  rw[ZeC he]at c1
  generalize x'b u m r b=e at*
  repeat' first|refine vb (t:=27) rfl rfl rfl rfl ?_|refine vs T rfl fun K hK=>?_;(try simp (disch:=omega) only[go_sem,Nat.reduceBEq,Nat.reduceAdd,Nat.reduceLeDiff,z'i,e1]);(first|refine hK _ _ ?_;clear hK K|intro bq hbq;(try simp only[HB]at hbq);refine hK _ _ ?_;clear hK K|refine Op1.callp rfl rfl (cl) rfl ?_;refine hK _ _ ?_;clear hK K|refine Op1.callp rfl rfl (ck) rfl ?_;refine hK _ _ ?_;clear hK K|refine Op1.callp rfl rfl (c1) rfl ?_;refine hK _ _ ?_;clear hK K)|refine st rfl ?_|refine sc rfl ?_|refine nl ?_|refine gs rfl rfl ?_|exact z'j T (z'a _) ⟨rfl,rfl⟩
 obtain⟨S,hU,hA,hS,hsp⟩:=Zds he
 rw[he,hsp]at c1
 have hA':=hA
 simp only[w'i,z'h,decide_eq_true_eq]at hA'
 have hb:=hA'.2.2.1
 have hT:=ZgN hS hb (by omega)
 have hrt:=Zfd hS hb (v'l hu hU hA'.1 hA'.2.1)
 have hok: ∀c,c∈S.cf→OkC c:=fun c hc=>(hrt c hc).okC
 have hgo:=Zix hS hb (by omega)
 have hgr:Gr (v'z S):=Zhw (Zfe hS hb)
 obtain⟨I,hE,hM⟩:=v'O (show Zc1 _ _ _ _=some S from hS) (by omega)
 have hlen:=hT.len
 have hbud:=(ZaL (show Zc1 _ _ _ _=some S from hS) (by omega)).2.1
 have hout:=fun k c (h:S.cf[k]?=some c)=>Zqb hS hb h
 have g1:=ZdY (v'z S) hgo
 rw[Zas.2 hgr]at g1
 have g2:=Zgm (v'z S) hgo
 rw[Zgp hS hb]at g2
 rw[show spA S=spC S.cf (v'z S) S.pa S.ag from rfl]at c1
 generalize v'z S=G at hout hgo g1 g2 c1
 have d1:decide ((S.cf.length:Int)>b)=false:=decide_eq_false (by omega)
 have p1:=hT.pl
 have p2:=hT.bl
 repeat' first|refine vb (t:=27) rfl rfl rfl rfl ?_|refine dr (id:=6) T 37 (by kernel_rfl) ?_|refine gn ?_|(first|apply VCg.step T rfl rfl|apply exF);focus((try simp (disch:=omega) only[go_sem,Nat.reduceBEq,Nat.reduceAdd,Nat.reduceLeDiff,z'i,bne_self_eq_false,y'M,z'l,p1,p2]);(first|exact rfl|refine Op1.callp rfl rfl (g1) rfl ?_;exact⟨rfl,rfl⟩|refine Op1.callp rfl rfl (g2) rfl ?_;exact⟨rfl,rfl⟩))|refine VCg.gstep T rfl rfl rfl rfl ?_;try simp only[GB]|refine vs T rfl fun K hK=>?_;(try simp (disch:=omega) only[go_sem,Nat.reduceBEq,Nat.reduceAdd,Nat.reduceLeDiff,z'i,bne_self_eq_false,d1]);(first|refine hK _ _ ?_;clear hK K|intro bq hbq;(try simp only[HB]at hbq);refine hK _ _ ?_;clear hK K|refine Op1.callp rfl rfl (cl) rfl ?_;refine hK _ _ ?_;clear hK K|refine Op1.callp rfl rfl (c1) rfl ?_;refine hK _ _ ?_;clear hK K)|refine st rfl ?_|refine sc rfl ?_|refine nl ?_|refine gs rfl rfl ?_
 refine VC.loop {k:Nat//k≤S.cf.length} (fun q=>⟨z'M [(1,.pt (Zef u m r b)),(3,pD bq),(5,iD (q.1:Nat))],[(bq,.cells 34 6 (spC S.cf G S.pa S.ag))]⟩) (fun q=>S.cf.length-q.1) ⟨0,by omega⟩ ?_ ?_
 ·refine z'G rfl ?_
  simp[sub,upd]
 rintro⟨k,hk⟩
 dsimp only at hk⊢
 rcases z'g k S.cf.length with hlt|hge
 case inr=>
  obtain rfl:k=S.cf.length:=by omega
  repeat' first|refine vs T rfl fun K hK=>?_;(try simp (disch:=omega) only[go_sem,Nat.reduceBEq,y'M]);(first|refine hK _ _ ?_;clear hK K|refine Op1.callp rfl rfl (ck) rfl ?_;refine hK _ _ ?_;clear hK K)|refine st rfl ?_|refine sc rfl ?_|refine nl ?_|with_reducible refine z's (fun hc=>?_) (fun hc=>?_)<;>(try simp only[decide_eq_true_eq,decide_eq_false_iff_not,z'u]at hc)<;>(try(exfalso;omega))
  exact z'j T (z'a _) ⟨rfl,rfl⟩
 obtain⟨c,hc⟩: ∃c,S.cf[k]?=some c:=⟨_,z'b hlt⟩
 have hx:S.cf.getD k default=c:=by rw[z'd,hc];rfl
 have hcm:=z'f hc
 have hR:=hrt c hcm
 have k1:=Zkm u hu c hR.okC m r
 rw[hR.rt]at k1
 have k2:=Zev S.cf G S.pa S.ag hT.len hok c hR.okC
 rw[show plI (w'u S.cf c)=(k:Int) by rw[Zoy I.nd hc];rfl]at k2
 have k3:=Zmt G hgo (k:Int)
 rw[hout k c hc]at k3
 have k4:=ZeG hR
 have hml:=Zcu (u:=u) (c:=c) (m:=m) (r:=r)
 have hMc:=hM k c hc
 have hen:=fun a (h:a∈y'6 u c m r)=>ZlX h
 generalize y'6 u c m r=M at*
 generalize hO:M.map (fun a=>((k:Int),a,((S.cf.idxOf (actM u c m r a):Nat):Int)))=O at*
 have hol:O.length=M.length:=by rw[←hO,z'p]
 repeat' first|refine dr (id:=11) T 22 (by kernel_rfl) ?_|refine dr (id:=14) T 11 (by kernel_rfl) ?_|refine gn ?_|(first|apply VCg.step T rfl rfl|apply exF);focus((try simp (disch:=omega) only[go_sem,Nat.reduceBEq,Nat.reduceAdd,Nat.reduceLeDiff,v'M,hx,z'o,z'i]);(first|exact rfl|refine⟨?_,rfl⟩;try omega|refine Op1.callp rfl rfl (k1) rfl ?_;exact⟨rfl,rfl⟩|refine Op1.callp rfl rfl (k2) rfl ?_;exact⟨rfl,rfl⟩))|refine VCg.gstep T rfl rfl rfl rfl ?_;try simp only[GB]|refine vs T rfl fun K hK=>?_;(try simp (disch:=omega) only[go_sem,Nat.reduceBEq,Nat.reduceAdd,Nat.reduceLeDiff,y'M,z'l,w'7,hol,bne_self_eq_false]);(first|refine hK _ _ ?_;clear hK K|refine Op1.callp rfl rfl (k3) rfl ?_;refine hK _ _ ?_;clear hK K|refine Op1.callp rfl rfl (k4) rfl ?_;refine hK _ _ ?_;clear hK K)|refine st rfl ?_|refine sc rfl ?_|refine nl ?_|refine gs rfl rfl ?_|with_reducible refine z's (fun hc=>?_) (fun hc=>?_)<;>(try simp only[decide_eq_true_eq,decide_eq_false_iff_not,z'u]at hc)<;>(try(exfalso;omega))
 refine VC.loop {j:Nat//j≤M.length} (fun q=>⟨z'M [(1,.pt (Zef u m r b)),(3,pD bq),(5,iD (k:Nat)),(6,v'p O),(7,z'S M),(8,iD (q.1:Nat))],[(bq,.cells 34 6 (spC S.cf G S.pa S.ag))]⟩) (fun q=>M.length-q.1) ⟨0,by omega⟩ ?_ ?_
 ·refine z'G rfl ?_
  simp[sub,upd]
 rintro⟨j,hj⟩
 dsimp only at hj⊢
 rcases z'g j M.length with hjl|hge
 ·have hmem:=w'w (d:=(0:Int)) hjl
  have hOj:O.getD j (0,0,0)=((k:Int),M.getD j 0,((S.cf.idxOf (actM u c m r (M.getD j 0)):Nat):Int)):=by
   rw[←hO]
   simp[z'd,hjl]
  have hin:=hMc (M.getD j 0) hmem
  have he2:=hen (M.getD j 0) hmem
  have k5:=ZiB hR (M.getD j 0)
  rw[he2]at k5
  generalize hma:M.getD j 0=a at*
  have hix:S.cf.getD (S.cf.idxOf (actM u c m r a)) default=actM u c m r a:=by
   have h1:=List.idxOf_lt_length_of_mem hin
   simp[z'd,h1]
  have hil:=List.idxOf_lt_length_of_mem hin
  have hO2:=hok _ hin
  have k6:=ZfZ (actM u c m r a) (actM u c m r a) hO2 hO2
  rw[ZbS]at k6
  generalize S.cf.idxOf (actM u c m r a)=x at*
  generalize actM u c m r a=c2 at*
  repeat' first|refine dr (id:=21) T 25 (by kernel_rfl) ?_|apply VC.drawM (id:=20) T 22 20 21 (s:=9) (ty:=43) rfl rfl rfl (by kernel_rfl) (by kernel_rfl) (by kernel_rfl) (by kernel_rfl)|refine VCm.nil T ?_;simp only[w'b,WB,Nat.reduceAdd];try(refine fun(bq:Nat) hbq=>?_;(try simp only[HB]at hbq))|apply VCm.step T (by rfl) (by rfl) rfl rfl;focus((try simp (disch:=omega) only[go_sem,Nat.reduceBEq,Nat.reduceAdd,Nat.reduceLeDiff,v'M,Zci,edR,hOj,hx,hol,z'o]);(first|exact rfl|refine⟨?_,rfl⟩;try omega|refine Op1.callp rfl rfl (k5) rfl ?_;exact⟨rfl,rfl⟩))|apply VCm.alloc T;(case h1=>rfl);(case hg=>rfl);(case hop=>rfl);(case hd=>rfl);(case hk=>rfl);(case hz=>rfl)|apply VCm.store T;(case h1=>rfl);(case h2=>rfl);(case hg=>rfl);(case hd=>rfl);(case hc=>(intro b hb;(try simp (disch:=omega) only[go_sem,Nat.reduceBEq,Nat.reduceAdd,Nat.reduceLeDiff]);exact rfl));(case hz=>(rfl))|refine gn ?_|(first|apply VCg.step T rfl rfl|apply exF);focus((try simp (disch:=omega) only[go_sem,Nat.reduceBEq,Nat.reduceAdd,Nat.reduceLeDiff,v'M,Zci,x'7,edR,hOj,hma,hix,hol,z'o,bne_self_eq_false,z'i]);(first|exact rfl|refine⟨?_,rfl⟩;try omega))|refine VCg.gstep T rfl rfl rfl rfl ?_;try simp only[GB]|refine vs T rfl fun K hK=>?_;(try simp (disch:=omega) only[go_sem,Nat.reduceBEq,w'7,hol,w64,z'i]);(first|refine hK _ _ ?_;clear hK K|refine Op1.callp rfl rfl (k6) rfl ?_;refine hK _ _ ?_;clear hK K)|refine st rfl ?_|refine sc rfl ?_|refine nl ?_|refine gs rfl rfl ?_|refine ov ?_|with_reducible refine z's (fun hc=>?_) (fun hc=>?_)<;>(try simp only[decide_eq_true_eq,decide_eq_false_iff_not,z'u]at hc)<;>(try(exfalso;omega))
  refine⟨⟨j+1,hjl⟩,y'S rfl ?_,by dsimp only;omega⟩
  simp[sub,upd]
 obtain rfl:j=M.length:=by omega
 have w1:(k:Int)=0→S.pa.getD 0 0= -1∧S.ag.getD 0 0= -1:=fun _=>by
  have h1:=I.first
  simp[z'd,h1.2.1,h1.2.2]
 have w2:(k:Int)>0→0≤S.pa.getD k 0∧S.pa.getD k 0<k:=fun h0=>by
  obtain⟨p,a,c',h1,h2,_⟩:=I.by_ k (by omega) hlt
  rw[z'd,h2]
  simp
  omega
 have z1:S.pa.length=S.cf.length:=I.pal
 have z2:S.ag.length=S.cf.length:=I.agl
 generalize S.pa=P at*
 generalize S.ag=B at*
 repeat' first|refine vs T rfl fun K hK=>?_;(try simp (disch:=omega) only[go_sem,Nat.reduceBEq,Int.reduceToNat,x'7,w'7,hol,z1,z2,z'o,w64]);(first|refine hK _ _ ?_;clear hK K|refine⟨?_,hK _ _ ?_⟩<;>clear hK K;focus(try omega))|refine st rfl ?_|refine sc rfl ?_|refine nl ?_|refine gs rfl rfl ?_|refine gu rfl rfl ?_|with_reducible refine z's (fun hc=>?_) (fun hc=>?_)<;>(try simp only[decide_eq_true_eq,decide_eq_false_iff_not,beq_iff_eq,beq_eq_false_iff_ne,bne_iff_ne,bne_eq_false_iff_eq,ne_eq,ge_iff_le,gt_iff_lt,x'd,z'u]at hc)<;>(try(exfalso;omega))
 all_goals(refine⟨⟨k+1,hlt⟩,z'G rfl ?_,by dsimp only;omega⟩;simp[sub,upd])
end Go.Proofs.YtomcmfbpmkklmaaGreat
