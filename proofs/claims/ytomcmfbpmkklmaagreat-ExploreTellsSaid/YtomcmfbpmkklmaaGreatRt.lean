/- The walk of MachineRuns. No condition. -/
import Derived.Test.YtomcmfbpmkklmaaGreatRj
import Derived.Test.YtomcmfbpmkklmaaGreatZq
import Derived.Test.YtomcmfbpmkklmaaGreatZf
import Derived.Test.YtomcmfbpmkklmaaGreatZi
import Derived.Test.YtomcmfbpmkklmaaGreatZm
namespace Go.Proofs.YtomcmfbpmkklmaaGreat
set_option maxHeartbeats 16000000
set_option linter.unusedSimpArgs false
set_option linter.unusedVariables false
set_option maxRecDepth 20000
open Go Go.Proofs Go.Vc
theorem v'l {u:Un} (hu:OkU u) (hU:z'8 u=true) {m r:Int} (hm:1≤m∧m≤3) (hr:1≤r∧r≤4):Rt u (y'E u) m r:=by
 have hU':=hU
 simp only[z'8,w'e,z'h,decide_eq_true_eq,z'B]at hU'
 obtain⟨⟨⟨⟨⟨⟨⟨a1,a2⟩,a3⟩,a4⟩,a5⟩,a6⟩,a7⟩,a8⟩:=hU'
 have hnil:y'Q m r u.md u.init.length []=true:=v'n.2 ⟨by simp only[Zai,z'h,decide_eq_true_eq];omega,{el:=fun e he=>(by cases he),p3:=fun _=>⟨trivial,fun l=>(by show((0:Nat):Int)≤r;omega)⟩,p2:=fun _=>(by show((0:Nat):Int)≤r;omega),p1:=fun _=>rfl}⟩
 refine ZkE hu (w'n.2 ⟨hU,⟨by simp[y'E],by simp[y'E],by simp[y'E],rfl⟩,a3,fun t ht=>?_,hnil⟩)
 obtain⟨n,hn⟩: ∃n,u.regs[t]?=some n:=⟨_,z'b ht⟩
 have hn0:=Zec hU hn
 have h8:=a8 t (z'K.2 ht)
 simp only[v'P,z'h,decide_eq_true_eq]at h8
 refine v'D.2 ⟨?_,⟨?_,?_⟩,?_⟩
 ·have:(y'E u).pc.getD t 0=0:=by simp[y'E,z'd,ht]
  rw[this]
  omega
 ·simp[y'E,z'd,hn]
  omega
 ·have:(y'E u).regs.getD t []=List.replicate n.toNat 0:=by simp[y'E,z'd,hn]
  rw[this,y'z,z'B]
  intro x hx
  rw[List.eq_of_mem_replicate hx]
  exact y'7.2 ⟨by omega,by omega⟩
 ·have:(y'E u).bufs.getD t []=[]:=by simp[y'E,z'd,ht]
  rw[this]
  exact hnil
theorem Rt.actM {u:Un} {c:Cf} {m r:Int} (h:Rt u c m r) (a:Int):Rt u (actM u c m r a) m r:=by
 unfold Go.Proofs.YtomcmfbpmkklmaaGreat.actM
 split
 ·rename_i ag _
  cases ag with
  |th t=>exact h.act (t:Nat)
  |fl t l=>exact h.flush (t:Nat) l
 ·exact h
theorem Zn5 {u:Un} {c:Cf} {m r a:Int} (h:enM u c m r a=false):actM u c m r a=c:=by
 unfold enM at h
 unfold actM
 split
 ·rename_i ag ho
  rw[ho]at h
  cases ag with
  |th t=>exact Ze4 h
  |fl t l=>
   have h:x'n c m (t:Nat) l=false:=h
   show w'Q c m (t:Nat) l=c
   unfold w'Q
   rw[h]
 ·rfl
def agF (u:Un) (m:Int) (i:Nat):Ag:=if i<u.regs.length then .th i else if m=2 then .fl (i-u.regs.length) (-1)else .fl ((i-u.regs.length)/u.init.length) (((i-u.regs.length) % u.init.length:Nat):Int)
theorem Zj8 {u:Un} {m:Int} {i:Nat} (h:i<(y'N u m).length):(y'N u m)[i]?=some (agF u m i)∧(u.regs.length≤i→m=2∨(m=3∧i-u.regs.length<u.regs.length*u.init.length))∧z'8 u=true:=by
 have hUm:z'8 u=true∧1≤m∧m≤3:=by
  by_cases h':z'8 u=true∧1≤m∧m≤3
  ·exact h'
  ·rw[Zg3 h']at h;simp at h
 obtain⟨hU,hm1,hm3⟩:=hUm
 unfold agF
 rcases z'g i u.regs.length with h3|h3
 ·refine⟨?_,fun h=>by omega,hU⟩
  rw[if_pos h3,y'N,if_pos ⟨hU,hm1,hm3⟩]
  exact Zpi h3 _
 rw[if_neg (by omega)]
 rcases(show m=1∨m=2∨m=3 by omega)with rfl|rfl|rfl
 ·rw[Zjy hU]at h;omega
 ·refine⟨?_,fun _=> .inl rfl,hU⟩
  rw[ZjC hU]at h
  rw[if_pos rfl,Zlg hU,Zh5 h3,z'4,List.getElem?_range (by omega)]
  rfl
 ·rw[ZjW hU]at h
  have hc:i-u.regs.length<u.regs.length*u.init.length:=by omega
  have hL:0<u.init.length:=by
   rcases x'S u.init.length with h|h
   ·rw[h,Nat.mul_zero]at hc;omega
   ·exact h
  refine⟨?_,fun _=> .inr ⟨rfl,hc⟩,hU⟩
  rw[if_neg (by decide),Zla hU,Zh5 h3]
  exact ZjB (fun t l=>Ag.fl t (l:Int)) hL _ _ hc
attribute [local irreducible] y'0 VCg VCw VCx
theorem ZmF (u:Un) (c:Cf) (hc:OkC c) (m r:Int) {i:Nat} {x:Ins} {row:List Int} {b:List En} {p:Nat} (h:Zbn u c i x row b p) (hE:enT u c m r (i:Nat)=true):
  Pure Tryz.prog 102 [.agg (unC u),.agg (cfC c),iD m,iD r,iD (i:Nat)] (.tup [.agg (cfC (y'B u (setP c i ((p+1:Nat):Int)) m i x row b)),bD true]):=by
 by_cases h20:x.op=20
 ·exact ZnY u c hc m r h hE h20
 by_cases h21:x.op=21
 ·by_cases h0:z'1 u row x.e=0
  ·exact ZmI u c hc m r h hE h21 h0
  ·exact Zme u c hc m r h hE h21 h0
 by_cases h2:x.op=2
 ·exact Zpd u c hc m r h hE h2
 by_cases h3:x.op=3
 ·exact ZpN u c hc m r h hE h3
 by_cases h4:x.op=4
 ·by_cases hm:m=1
  ·exact Zox u c hc m r h hE h4 hm
  ·exact ZnF u c hc m r h hE h4 hm
 by_cases h5:x.op=5
 ·by_cases h0:y'm c x=z'1 u row x.e
  ·exact ZnM u c hc m r h hE h5 h0
  ·exact Zov u c hc m r h hE h5 h0
 by_cases h6:x.op=6
 ·exact Zpc u c hc m r h hE h6
 by_cases h7:x.op=7
 ·exact ZpL u c hc m r h hE h7
 exact Zn1 u c hc m r h hE h20 h21 h2 h3 h4 h5 h6 h7
theorem ZhH (u:Un) (c:Cf) (hc:OkC c) (m r t:Int) (hE:Pure Tryz.prog 125 [.agg (unC u),.agg (cfC c),iD m,iD r,iD t] (bD false)):
  Pure Tryz.prog 102 [.agg (unC u),.agg (cfC c),iD m,iD r,iD t] (.tup [.agg (cfC c),bD false]):=by
 have cc:=Zhf c hc
 refine Fun.of T [.cell 10 43,.tmp 11] Tryz.func102 rfl Tryz.ntmps102 Tryz.results102 rfl (by kernel_rfl) ?_
 repeat' first|refine vb (t:=25) rfl rfl rfl rfl ?_|refine vs T rfl fun K hK=>?_;(try simp (disch:=omega) only[go_sem,Nat.reduceBEq,Nat.reduceAdd,Nat.reduceLeDiff,z'q]);(first|refine hK _ _ ?_;clear hK K|intro bq hbq;(try simp only[HB]at hbq);refine hK _ _ ?_;clear hK K|refine Op1.callp rfl rfl (cc) rfl ?_;refine hK _ _ ?_;clear hK K|refine Op1.callp rfl rfl (hE) rfl ?_;refine hK _ _ ?_;clear hK K)|refine st rfl ?_|refine sc rfl ?_|refine nl ?_|exact y'T T rfl (by(simp (disch:=omega) only[hget_ne,hget_eq])<;>rfl) rfl rfl rfl (z'a _) ⟨rfl,rfl⟩
theorem ZnJ {u:Un} {c:Cf} {m r:Int} (h:Rt u c m r) (t:Int):Pure Tryz.prog 102 [.agg (unC u),.agg (cfC c),iD m,iD r,iD t] (.tup [.agg (cfC (v'C u c m r t)),bD (enT u c m r t)]):=by
 by_cases ht:t<0∨t≥c.pc.length
 ·have hn:=Zdv (u:=u) (m:=m) (r:=r) ht
  rw[Ze4 hn,hn]
  refine ZhH u c h.okC m r t ?_
  have:=Zfj u c m r t ht
  rwa [hn]at this
 obtain⟨i,rfl⟩: ∃i:Nat,t=(i:Int):=⟨t.toNat,by omega⟩
 obtain⟨x,row,b,p,ha⟩:=h.at (i:=i) (by omega)
 rw[ZcM ha]
 cases hE:enT u c m r (i:Nat)with
 |true=>exact ZmF u c h.okC m r ha hE
 |false=>
  refine ZhH u c h.okC m r _ ?_
  have:=x'9 u c h.okC m r ha.thr
  rwa [hE]at this
theorem ZpF {u:Un} {c:Cf} {m r:Int} (h:Rt u c m r) (t:Int):Pure Tryz.prog 125 [.agg (unC u),.agg (cfC c),iD m,iD r,iD t] (bD (enT u c m r t)):=by
 by_cases ht:t<0∨t≥c.pc.length
 ·exact Zfj u c m r t ht
 obtain⟨i,rfl⟩: ∃i:Nat,t=(i:Int):=⟨t.toNat,by omega⟩
 obtain⟨x,row,b,p,ha⟩:=h.at (i:=i) (by omega)
 exact x'9 u c h.okC m r ha.thr
section
variable {u : Un} {c : Cf} {m r : Int}
theorem Zfc {k:Nat} (h:k<(y'N u m).length):Zaq u m (k:Nat)=some (agF u m k):=by
 have:=(Zj8 h).1
 simp[Zaq,this]
theorem Zg1 {a:Int} (h:a<0∨a≥((y'N u m).length:Int)):Zaq u m a=none:=by
 unfold Zaq
 split
 ·rename_i h0
  have:=of_decide_eq_true h0
  exact z'x (by omega)
 ·rfl
theorem Zlu {k:Nat} (h:k<u.regs.length):agF u m k= .th k:=if_pos h
theorem Znm {k:Nat} (h:u.regs.length≤k) (h2:m=2):agF u m k= .fl (k-u.regs.length) (-1):=by unfold agF;rw[if_neg (by omega),if_pos h2]
theorem Znd {k:Nat} (h:u.regs.length≤k) (h2: ¬m=2):agF u m k= .fl ((k-u.regs.length)/u.init.length) (((k-u.regs.length) % u.init.length:Nat):Int):=by unfold agF;rw[if_neg (by omega),if_neg h2]
structure FlN (u:Un) (i:Nat):Prop where
 sub:IntKind.i64.wrap ((i:Int)-(u.regs.length:Int))=((i-u.regs.length:Nat):Int)
 quo:IntKind.i64.wrap (((i-u.regs.length:Nat):Int).tdiv (u.init.length:Int))=(((i-u.regs.length)/u.init.length:Nat):Int)
 rem:(((i-u.regs.length:Nat):Int).tmod (u.init.length:Int))=(((i-u.regs.length) % u.init.length:Nat):Int)
 nz:(u.init.length:Int)≠0
theorem flN {i:Nat} (h:i<(y'N u m).length) (h3:u.regs.length≤i) (m2: ¬m=2):FlN u i:=by
 obtain⟨_,h2,hU⟩:=Zj8 h
 obtain⟨_,hc⟩:=(h2 h3).resolve_left m2
 have hl:=v'J u m
 have hL:0<u.init.length:=by
  rcases x'S u.init.length with h|h
  ·rw[h,Nat.mul_zero]at hc;omega
  ·exact h
 refine⟨by rw[w64 (by omega)];omega,?_,?_,by omega⟩
 ·rw[Zp3 (n:=((i-u.regs.length:Nat):Int)) (k:=(u.init.length:Int)) (by omega) (by omega) (by omega)]
  exact(Int.natCast_ediv _ _).symm
 ·rw[ZnI (n:=((i-u.regs.length:Nat):Int)) (k:=(u.init.length:Int)) (by omega)]
  exact(Int.natCast_emod _ _).symm
theorem ZgQ (h:Rt u c m r) (a:Int):Pure Tryz.prog 89 [.agg (unC u),.agg (cfC c),iD m,iD r,iD a] (bD (enM u c m r a)):=by
 have ca:=ZdK u h.okU m
 have hl:=v'J u m
 refine Fun.of T [.tmp 10] Tryz.func89 rfl Tryz.ntmps89 Tryz.results89 rfl (by kernel_rfl) ?_
 by_cases h1:a<0
 ·have e1:decide (a<0)=true:=by simpa using h1
  rw[show enM u c m r a=false by simp[enM,Zg1 (.inl h1)]]
  repeat' first|refine vb rfl rfl rfl rfl ?_|refine vs T rfl fun K hK=>?_;(try simp (disch:=omega) only[go_sem,Nat.reduceBEq,Nat.reduceAdd,e1,z'l]);(refine hK _ _ ?_;clear hK K)|refine st rfl ?_|refine sc rfl ?_|refine nl ?_|refine gs rfl rfl ?_|exact z'j T (z'a _) ⟨rfl,rfl⟩
 have e1:decide (a<0)=false:=by simpa using h1
 by_cases h2:a≥((y'N u m).length:Int)
 ·have e2:decide (a≥((y'N u m).length:Int))=true:=by simpa using h2
  rw[show enM u c m r a=false by simp[enM,Zg1 (.inr h2)]]
  repeat' first|refine vb rfl rfl rfl rfl ?_|refine vs T rfl fun K hK=>?_;(try simp (disch:=omega) only[go_sem,Nat.reduceBEq,Nat.reduceAdd,Nat.reduceLeDiff,e1,e2,z'l]);(first|refine hK _ _ ?_;clear hK K|refine Op1.callp rfl rfl (ca) rfl ?_;refine hK _ _ ?_;clear hK K)|refine st rfl ?_|refine sc rfl ?_|refine nl ?_|refine gs rfl rfl ?_|exact z'j T (z'a _) ⟨rfl,rfl⟩
 have e2:decide (a≥((y'N u m).length:Int))=false:=by simpa using h2
 obtain⟨i,rfl⟩: ∃i:Nat,a=(i:Int):=⟨a.toNat,by omega⟩
 have hi:i<(y'N u m).length:=by omega
 rw[show enM u c m r (i:Nat)=ZaN u c m r (agF u m i) by simp[enM,Zfc hi]]
 by_cases h3:i<u.regs.length
 ·have e3:decide ((i:Int)<(u.regs.length:Int))=true:=decide_eq_true (by omega)
  have c1:=ZpF h (i:Nat)
  rw[Zlu h3]
  repeat' first|refine vb rfl rfl rfl rfl ?_|refine vs T rfl fun K hK=>?_;(try simp (disch:=omega) only[go_sem,Nat.reduceBEq,Nat.reduceAdd,Nat.reduceLeDiff,e1,e2,e3,z'l]);(first|refine hK _ _ ?_;clear hK K|refine Op1.callp rfl rfl (ca) rfl ?_;refine hK _ _ ?_;clear hK K|refine Op1.callp rfl rfl (c1) rfl ?_;refine hK _ _ ?_;clear hK K)|refine st rfl ?_|refine sc rfl ?_|refine nl ?_|refine gs rfl rfl ?_|exact z'j T (z'a _) ⟨rfl,rfl⟩
  all_goals rfl
 have e3:decide ((i:Int)<(u.regs.length:Int))=false:=decide_eq_false (by omega)
 by_cases m2:m=2
 ·have f2:(m == 2)=true:=by simpa using m2
  have hw:IntKind.i64.wrap ((i:Int)-(u.regs.length:Int))=((i-u.regs.length:Nat):Int):=by rw[w64 (by omega)];omega
  have c1:=Zdk c h.okC.buf m ((i-u.regs.length:Nat):Int) (-1)
  rw[Znm (by omega) m2]
  repeat' first|refine vb rfl rfl rfl rfl ?_|refine vs T rfl fun K hK=>?_;(try simp (disch:=omega) only[go_sem,Nat.reduceBEq,Nat.reduceAdd,Nat.reduceLeDiff,e1,e2,e3,hw,f2,z'l]);(first|refine hK _ _ ?_;clear hK K|refine Op1.callp rfl rfl (ca) rfl ?_;refine hK _ _ ?_;clear hK K|refine Op1.callp rfl rfl (c1) rfl ?_;refine hK _ _ ?_;clear hK K)|refine st rfl ?_|refine sc rfl ?_|refine nl ?_|refine gs rfl rfl ?_|exact z'j T (z'a _) ⟨rfl,rfl⟩
  all_goals rfl
 have f2:(m == 2)=false:=by simpa using m2
 obtain⟨hw,hq,hr,hnz⟩:=flN hi (by omega) m2
 have c1:=Zdk c h.okC.buf m (((i-u.regs.length)/u.init.length:Nat):Int) (((i-u.regs.length) % u.init.length:Nat):Int)
 rw[Znd (by omega) m2]
 repeat' first|refine vb rfl rfl rfl rfl ?_|refine dr (id:=8) T 16 (by kernel_rfl) ?_|refine gn ?_|(apply VCg.step T rfl rfl);focus((try simp (disch:=omega) only[go_sem,Nat.reduceBEq,Nat.reduceAdd,Nat.reduceLeDiff,hw,hq,hr,z'l]);(first|exact rfl|refine⟨?_,rfl⟩;try omega))|refine vs T rfl fun K hK=>?_;(try simp (disch:=omega) only[go_sem,Nat.reduceBEq,Nat.reduceAdd,Nat.reduceLeDiff,e1,e2,e3,f2,z'l]);(first|refine hK _ _ ?_;clear hK K|refine Op1.callp rfl rfl (ca) rfl ?_;refine hK _ _ ?_;clear hK K|refine Op1.callp rfl rfl (c1) rfl ?_;refine hK _ _ ?_;clear hK K)|refine st rfl ?_|refine sc rfl ?_|refine nl ?_|refine gs rfl rfl ?_|exact z'j T (z'a _) ⟨rfl,rfl⟩
 all_goals rfl
theorem ZiB (h:Rt u c m r) (a:Int):Pure Tryz.prog 53 [.agg (unC u),.agg (cfC c),iD m,iD r,iD a] (.tup [.agg (cfC (actM u c m r a)),bD (enM u c m r a)]):=by
 have ce:=ZgQ h a
 have hl:=v'J u m
 refine Fun.of T [.cell 10 43,.tmp 11] Tryz.func53 rfl Tryz.ntmps53 Tryz.results53 rfl (by kernel_rfl) ?_
 cases hE:enM u c m r a with
 |false=>
  rw[hE]at ce
  have cc:=Zhf c h.okC
  rw[Zn5 hE]
  repeat' first|refine vb rfl rfl rfl rfl ?_|refine vs T rfl fun K hK=>?_;(try simp (disch:=omega) only[go_sem,Nat.reduceBEq,Nat.reduceAdd,Nat.reduceLeDiff,z'l,z'q]);(first|refine hK _ _ ?_;clear hK K|intro bq hbq;(try simp only[HB]at hbq);refine hK _ _ ?_;clear hK K|refine Op1.callp rfl rfl (ce) rfl ?_;refine hK _ _ ?_;clear hK K|refine Op1.callp rfl rfl (cc) rfl ?_;refine hK _ _ ?_;clear hK K)|refine st rfl ?_|refine sc rfl ?_|refine nl ?_|exact y'T T rfl (by(simp (disch:=omega) only[hget_eq])<;>rfl) rfl rfl rfl (z'a _) ⟨rfl,rfl⟩
 |true=>
 rw[hE]at ce
 have h12: ¬(a<0∨a≥((y'N u m).length:Int)):=fun h'=>by simp[enM,Zg1 h']at hE
 obtain⟨i,rfl⟩: ∃i:Nat,a=(i:Int):=⟨a.toNat,by omega⟩
 have hi:i<(y'N u m).length:=by omega
 have hC:ZaN u c m r (agF u m i)=true:=by simpa[enM,Zfc hi]using hE
 rw[show actM u c m r (i:Nat)=ZfN u c m r (agF u m i) by simp[actM,Zfc hi]]
 by_cases h3:i<u.regs.length
 ·have e3:decide ((i:Int)<(u.regs.length:Int))=true:=decide_eq_true (by omega)
  have c1:=ZnJ h (i:Nat)
  rw[Zlu h3]at hC⊢
  have hC:enT u c m r (i:Nat)=true:=hC
  rw[hC]at c1
  repeat' first|refine vb rfl rfl rfl rfl ?_|refine vs T rfl fun K hK=>?_;(try simp (disch:=omega) only[go_sem,Nat.reduceBEq,Nat.reduceAdd,Nat.reduceLeDiff,e3,z'l,z'i]);(first|refine hK _ _ ?_;clear hK K|intro bq hbq;(try simp only[HB]at hbq);refine hK _ _ ?_;clear hK K|refine Op1.callp rfl rfl (ce) rfl ?_;refine hK _ _ ?_;clear hK K|refine Op1.callp rfl rfl (c1) rfl ?_;refine hK _ _ ?_;clear hK K)|refine st rfl ?_|refine sc rfl ?_|refine nl ?_|exact y'T T rfl (by(simp (disch:=omega) only[hget_eq])<;>rfl) rfl rfl rfl (z'a _) ⟨rfl,rfl⟩
  all_goals rfl
 have e3:decide ((i:Int)<(u.regs.length:Int))=false:=decide_eq_false (by omega)
 by_cases m2:m=2
 ·have f2:(m == 2)=true:=by simpa using m2
  have hw:IntKind.i64.wrap ((i:Int)-(u.regs.length:Int))=((i-u.regs.length:Nat):Int):=by rw[w64 (by omega)];omega
  have c1:=Zg6 c h.okC h.locs m ((i-u.regs.length:Nat):Int) (-1)
  rw[Znm (by omega) m2]at hC⊢
  have hC:x'n c m ((i-u.regs.length:Nat):Int) (-1)=true:=hC
  rw[hC]at c1
  repeat' first|refine vb rfl rfl rfl rfl ?_|refine vs T rfl fun K hK=>?_;(try simp (disch:=omega) only[go_sem,Nat.reduceBEq,Nat.reduceAdd,Nat.reduceLeDiff,e3,hw,f2,z'l,z'i]);(first|refine hK _ _ ?_;clear hK K|intro bq hbq;(try simp only[HB]at hbq);refine hK _ _ ?_;clear hK K|refine Op1.callp rfl rfl (ce) rfl ?_;refine hK _ _ ?_;clear hK K|refine Op1.callp rfl rfl (c1) rfl ?_;refine hK _ _ ?_;clear hK K)|refine st rfl ?_|refine sc rfl ?_|refine nl ?_|exact y'T T rfl (by(simp (disch:=omega) only[hget_eq])<;>rfl) rfl rfl rfl (z'a _) ⟨rfl,rfl⟩
  all_goals rfl
 have f2:(m == 2)=false:=by simpa using m2
 obtain⟨hw,hq,hr,hnz⟩:=flN hi (by omega) m2
 have c1:=Zg6 c h.okC h.locs m (((i-u.regs.length)/u.init.length:Nat):Int) (((i-u.regs.length) % u.init.length:Nat):Int)
 rw[Znd (by omega) m2]at hC⊢
 have hC:x'n c m (((i-u.regs.length)/u.init.length:Nat):Int) (((i-u.regs.length) % u.init.length:Nat):Int)=true:=hC
 rw[hC]at c1
 repeat' first|refine vb rfl rfl rfl rfl ?_|refine dr (id:=8) T 19 (by kernel_rfl) ?_|refine gn ?_|apply VCg.step T rfl rfl;focus((try simp (disch:=omega) only[go_sem,Nat.reduceBEq,Nat.reduceAdd,Nat.reduceLeDiff,hw,hq,hr,z'l]);(first|exact rfl|refine⟨?_,rfl⟩;try omega|refine Op1.callp rfl rfl (c1) rfl ?_;exact⟨rfl,rfl⟩))|refine vs T rfl fun K hK=>?_;(try simp (disch:=omega) only[go_sem,Nat.reduceBEq,Nat.reduceAdd,Nat.reduceLeDiff,e3,f2,z'l,z'i]);(first|refine hK _ _ ?_;clear hK K|intro bq hbq;(try simp only[HB]at hbq);refine hK _ _ ?_;clear hK K|refine Op1.callp rfl rfl (ce) rfl ?_;refine hK _ _ ?_;clear hK K)|refine st rfl ?_|refine sc rfl ?_|refine nl ?_|exact y'T T rfl (by(simp (disch:=omega) only[hget_eq])<;>rfl) rfl rfl rfl (z'a _) ⟨rfl,rfl⟩
 all_goals rfl
theorem ZpV {k:Nat} (h:k<(y'N u m).length):enM u c m r (k:Nat)=ZaN u c m r (agF u m k):=by simp[enM,Zfc h]
theorem ZeG (h:Rt u c m r):Pure Tryz.prog 52 [.agg (unC u),.agg (cfC c),iD m,iD r] (z'S (y'6 u c m r)):=by
 have ca:=ZdK u h.okU m
 have hl:=v'J u m
 have hat: ∀k:Nat,k<(y'N u m).length→(y'N u m)[k]?=some (agF u m k)∧enM u c m r (k:Nat)=ZaN u c m r (agF u m k):=fun k hk=>⟨(Zj8 hk).1,ZpV hk⟩
 unfold y'6
 generalize y'N u m=A at*
 refine Fun.freeze (ZdH _) ?_
 refine Fun.of T [.tmp 8] Tryz.func52 rfl Tryz.ntmps52 Tryz.results52 rfl (by kernel_rfl) ?_
 repeat' first|refine vb rfl rfl rfl rfl ?_|refine vs T rfl fun K hK=>?_;(try simp (disch:=omega) only[go_sem,Nat.reduceAdd]);(refine hK _ _ ?_;clear hK K)|refine st rfl ?_|refine nl ?_
 refine VC.loop {p:Nat×List Int×Option (Nat×Nat)//p.1≤A.length∧p.2.1=mvK u c m r A p.1} (fun p=>⟨z'M [(2,iD m),(3,iD r),(4,.pt (unC u)),(5,.pt (cfC c)),(9,.gs p.1.2.2 p.1.2.1.length),(10,iD (p.1.1:Nat))],shp p.1.2.2 3 1 (p.1.2.1.map iD) []⟩) (fun p=>A.length-p.1.1) ⟨(0,[],none),by dsimp only;omega,rfl⟩ ?_ ?_
 ·refine Weak.sub ?_
  simp[sub,upd]
 rintro⟨⟨k,L,g⟩,hk,hL⟩
 dsimp only at hk hL⊢
 have hLl:L.length≤k:=by rw[hL];exact ZgY
 rcases z'g k A.length with hlt|hge
 case inr=>
  obtain rfl:k=A.length:=by omega
  have hd:decide ((A.length:Int)<(A.length:Int))=false:=by simp
  repeat' first|refine vs T rfl fun K hK=>?_;(try simp (disch:=omega) only[go_sem,Nat.reduceBEq,Nat.reduceAdd,Nat.reduceLeDiff,hd]);(first|refine hK _ _ ?_;clear hK K|refine Op1.callp rfl rfl (ca) rfl ?_;refine hK _ _ ?_;clear hK K)|refine st rfl ?_|refine sc rfl ?_|refine nl ?_
  exact z'j T (z'm _) ⟨g,3,by rw[←hL,z'l];rfl,by rw[←hL,Zf3]⟩
 have hd:decide ((k:Int)<(A.length:Int))=true:=by simp;omega
 have hw:IntKind.i64.wrap ((k:Int)+1)=((k+1:Nat):Int):=by rw[w64 (by omega)];omega
 obtain⟨ha,he⟩:=hat k hlt
 have cn:=ZgQ h (k:Nat)
 rw[he]at cn
 cases hE:ZaN u c m r (agF u m k)with
 |false=>
  rw[hE]at cn
  repeat' first|refine vs T rfl fun K hK=>?_;(try simp (disch:=omega) only[go_sem,Nat.reduceBEq,Nat.reduceAdd,Nat.reduceLeDiff,hd,hw]);(first|refine hK _ _ ?_;clear hK K|refine Op1.callp rfl rfl (ca) rfl ?_;refine hK _ _ ?_;clear hK K|refine Op1.callp rfl rfl (cn) rfl ?_;refine hK _ _ ?_;clear hK K)|refine st rfl ?_|refine sc rfl ?_|refine nl ?_
  refine⟨⟨(k+1,L,g),by dsimp only;omega,by dsimp only;rw[ZdQ ha,hE,hL];simp⟩,z'G rfl ?_,by dsimp only;omega⟩
  simp[sub,upd]
 |true=>
  rw[hE]at cn
  repeat' first|refine vs T rfl fun K hK=>?_;(try simp (disch:=omega) only[go_sem,Nat.reduceBEq,Nat.reduceAdd,Nat.reduceMul,Nat.reduceLeDiff,hd,hw]);(first|refine hK _ _ ?_;clear hK K|refine⟨_,_,_,_,(by repeat (exact Sp.here)),?_,(by exact⟨rfl,rfl⟩),⟨by decide,?_⟩,fun g' hg'=>hK _ _ ?_⟩<;>clear hK K|refine Op1.callp rfl rfl (ca) rfl ?_;refine hK _ _ ?_;clear hK K|refine Op1.callp rfl rfl (cn) rfl ?_;refine hK _ _ ?_;clear hK K)|refine st rfl ?_|refine sc rfl ?_|refine nl ?_
  ·simp
  ·omega
  ·refine⟨⟨(k+1,L++[(k:Int)],g'),by dsimp only;omega,by dsimp only;rw[ZdQ ha,hE,hL]⟩,z'G ?_ ?_,by dsimp only;omega⟩
   ·dsimp only
    rw[z'F]
    rfl
   ·simp[sub,upd]
theorem Zmh (h:Rt u c m r):Pure Tryz.prog 97 [.agg (unC u),.agg (cfC c),iD m,iD r] (bD (v'R u c m r)):=by
 have c1:=ZhG u c (by have:=h.okU.cod;omega) (by have:=h.okC.bufs;omega)
 have c2:=ZeG h
 have he:(((y'6 u c m r).length:Int) == 0)=decide ((y'6 u c m r).length=0):=by rw[x'l];simp
 refine Fun.of T [.tmp 8] Tryz.func97 rfl Tryz.ntmps97 Tryz.results97 rfl (by kernel_rfl) ?_
 unfold v'R
 cases hD:decide ((y'6 u c m r).length=0)with
 |true=>
  cases hF:x'8 u c with
  |true=>
   rw[hF]at c1
   repeat' first|refine vb rfl rfl rfl rfl ?_|refine vs T rfl fun K hK=>?_;(try simp (disch:=omega) only[go_sem,Nat.reduceBEq,Nat.reduceAdd,Nat.reduceLeDiff,z'i,he,hD,z'l]);(first|refine hK _ _ ?_;clear hK K|refine Op1.callp rfl rfl (c1) rfl ?_;refine hK _ _ ?_;clear hK K|refine Op1.callp rfl rfl (c2) rfl ?_;refine hK _ _ ?_;clear hK K)|refine st rfl ?_|refine nl ?_|refine gs rfl rfl ?_|exact z'j T (z'a _) ⟨rfl,rfl⟩
   all_goals rfl
  |false=>
   rw[hF]at c1
   repeat' first|refine vb rfl rfl rfl rfl ?_|refine vs T rfl fun K hK=>?_;(try simp (disch:=omega) only[go_sem,Nat.reduceBEq,Nat.reduceAdd,Nat.reduceLeDiff,z'q,he,hD,z'l]);(first|refine hK _ _ ?_;clear hK K|refine Op1.callp rfl rfl (c1) rfl ?_;refine hK _ _ ?_;clear hK K|refine Op1.callp rfl rfl (c2) rfl ?_;refine hK _ _ ?_;clear hK K)|refine st rfl ?_|refine nl ?_|refine gs rfl rfl ?_|exact z'j T (z'a _) ⟨rfl,rfl⟩
   all_goals rfl
 |false=>
  rw[w'o]
  repeat' first|refine vb rfl rfl rfl rfl ?_|refine vs T rfl fun K hK=>?_;(try simp (disch:=omega) only[go_sem,Nat.reduceBEq,Nat.reduceAdd,Nat.reduceLeDiff,he,hD,z'l]);(first|refine hK _ _ ?_;clear hK K|refine Op1.callp rfl rfl (c2) rfl ?_;refine hK _ _ ?_;clear hK K)|refine st rfl ?_|refine nl ?_|refine gs rfl rfl ?_|exact z'j T (z'a _) ⟨rfl,rfl⟩
  all_goals rfl
end
end Go.Proofs.YtomcmfbpmkklmaaGreat
