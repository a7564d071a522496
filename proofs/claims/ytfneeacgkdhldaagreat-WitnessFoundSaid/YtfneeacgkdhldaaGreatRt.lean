/- The walk of MachineRuns. No condition. -/
import Derived.Test.YtfneeacgkdhldaaGreatRj
import Derived.Test.YtfneeacgkdhldaaGreatZq
import Derived.Test.YtfneeacgkdhldaaGreatZf
import Derived.Test.YtfneeacgkdhldaaGreatZi
import Derived.Test.YtfneeacgkdhldaaGreatZm
namespace Go.Proofs.YtfneeacgkdhldaaGreat
set_option maxHeartbeats 16000000
set_option linter.unusedSimpArgs false
set_option linter.unusedVariables false
set_option maxRecDepth 20000
open Go Go.Proofs Go.Vc
theorem ZbP {u:Un} (hu:OkU u) (hU:y't u=true) {m r:Int} (hm:1≤m∧m≤3) (hr:1≤r∧r≤4):Rt u (x'l u) m r:=by
 have hU':=hU
 simp only[y't,w'H,z'i,decide_eq_true_eq,z'I]at hU'
 obtain⟨⟨⟨⟨⟨⟨⟨a1,a2⟩,a3⟩,a4⟩,a5⟩,a6⟩,a7⟩,a8⟩:=hU'
 have hnil:v'M m r u.md u.init.length []=true:=v'N.2 ⟨by simp only[ZcG,z'i,decide_eq_true_eq];omega,{el:=fun e he=>(by cases he),p3:=fun _=>⟨trivial,fun l=>(by show((0:Nat):Int)≤r;omega)⟩,p2:=fun _=>(by show((0:Nat):Int)≤r;omega),p1:=fun _=>rfl}⟩
 refine Zj1 hu (w'2.2 ⟨hU,⟨by simp[x'l],by simp[x'l],by simp[x'l],rfl⟩,a3,fun t ht=>?_,hnil⟩)
 obtain⟨n,hn⟩: ∃n,u.regs[t]?=some n:=⟨_,z'b ht⟩
 have hn0:=ZdO hU hn
 have h8:=a8 t (z'G.2 ht)
 simp only[v'D,z'i,decide_eq_true_eq]at h8
 refine v'w.2 ⟨?_,⟨?_,?_⟩,?_⟩
 ·have:(x'l u).pc.getD t 0=0:=by simp[x'l,z'e,ht]
  rw[this]
  omega
 ·simp[x'l,z'e,hn]
  omega
 ·have:(x'l u).regs.getD t []=List.replicate n.toNat 0:=by simp[x'l,z'e,hn]
  rw[this,y'W,z'I]
  intro x hx
  rw[List.eq_of_mem_replicate hx]
  exact x'i.2 ⟨by omega,by omega⟩
 ·have:(x'l u).bufs.getD t []=[]:=by simp[x'l,z'e,ht]
  rw[this]
  exact hnil
theorem Rt.actM {u:Un} {c:Cf} {m r:Int} (h:Rt u c m r) (a:Int):Rt u (actM u c m r a) m r:=by
 unfold Go.Proofs.YtfneeacgkdhldaaGreat.actM
 split
 ·rename_i ag _
  cases ag with
  |th t=>exact h.act (t:Nat)
  |fl t l=>exact h.flush (t:Nat) l
 ·exact h
theorem Znk {u:Un} {c:Cf} {m r a:Int} (h:enM u c m r a=false):actM u c m r a=c:=by
 unfold enM at h
 unfold actM
 split
 ·rename_i ag ho
  rw[ho]at h
  cases ag with
  |th t=>exact Zer h
  |fl t l=>
   have h:x'H c m (t:Nat) l=false:=h
   show w'3 c m (t:Nat) l=c
   unfold w'3
   rw[h]
 ·rfl
def agF (u:Un) (m:Int) (i:Nat):Ag:=if i<u.regs.length then .th i else if m=2 then .fl (i-u.regs.length) (-1)else .fl ((i-u.regs.length)/u.init.length) (((i-u.regs.length) % u.init.length:Nat):Int)
theorem ZjE {u:Un} {m:Int} {i:Nat} (h:i<(y'C u m).length):(y'C u m)[i]?=some (agF u m i)∧(u.regs.length≤i→m=2∨(m=3∧i-u.regs.length<u.regs.length*u.init.length))∧y't u=true:=by
 have hUm:y't u=true∧1≤m∧m≤3:=by
  by_cases h':y't u=true∧1≤m∧m≤3
  ·exact h'
  ·rw[Zf8 h']at h;simp at h
 obtain⟨hU,hm1,hm3⟩:=hUm
 unfold agF
 rcases z'g i u.regs.length with h3|h3
 ·refine⟨?_,fun h=>by omega,hU⟩
  rw[if_pos h3,y'C,if_pos ⟨hU,hm1,hm3⟩]
  exact ZpL h3 _
 rw[if_neg (by omega)]
 rcases(show m=1∨m=2∨m=3 by omega)with rfl|rfl|rfl
 ·rw[ZiQ hU]at h;omega
 ·refine⟨?_,fun _=> .inl rfl,hU⟩
  rw[ZiR hU]at h
  rw[if_pos rfl,Zkj hU,Zim h3,y'c,List.getElem?_range (by omega)]
  rfl
 ·rw[ZiS hU]at h
  have hc:i-u.regs.length<u.regs.length*u.init.length:=by omega
  have hL:0<u.init.length:=by
   rcases y'3 u.init.length with h|h
   ·rw[h,Nat.mul_zero]at hc;omega
   ·exact h
  refine⟨?_,fun _=> .inr ⟨rfl,hc⟩,hU⟩
  rw[if_neg (by decide),Zkk hU,Zim h3]
  exact Zi1 (fun t l=>Ag.fl t (l:Int)) hL _ _ hc
attribute [local irreducible] y'5 VCg VCw VCx
theorem ZmI (u:Un) (c:Cf) (hc:OkC c) (m r:Int) {i:Nat} {x:Ins} {row:List Int} {b:List En} {p:Nat} (h:Za0 u c i x row b p) (hE:enT u c m r (i:Nat)=true):
  Pure Tryz.prog 39 [.agg (unC u),.agg (cfC c),iD m,iD r,iD (i:Nat)] (.tup [.agg (cfC (y'R u (setP c i ((p+1:Nat):Int)) m i x row b)),bD true]):=by
 by_cases h20:x.op=20
 ·exact Zoi u c hc m r h hE h20
 by_cases h21:x.op=21
 ·by_cases h0:z'3 u row x.e=0
  ·exact ZmH u c hc m r h hE h21 h0
  ·exact ZmG u c hc m r h hE h21 h0
 by_cases h2:x.op=2
 ·exact Zpx u c hc m r h hE h2
 by_cases h3:x.op=3
 ·exact Zpy u c hc m r h hE h3
 by_cases h4:x.op=4
 ·by_cases hm:m=1
  ·exact Zok u c hc m r h hE h4 hm
  ·exact Zoj u c hc m r h hE h4 hm
 by_cases h5:x.op=5
 ·by_cases h0:y'j c x=z'3 u row x.e
  ·exact Zom u c hc m r h hE h5 h0
  ·exact Zol u c hc m r h hE h5 h0
 by_cases h6:x.op=6
 ·exact Zpz u c hc m r h hE h6
 by_cases h7:x.op=7
 ·exact ZpA u c hc m r h hE h7
 exact Zon u c hc m r h hE h20 h21 h2 h3 h4 h5 h6 h7
theorem ZgN (u:Un) (c:Cf) (hc:OkC c) (m r t:Int) (hE:Pure Tryz.prog 42 [.agg (unC u),.agg (cfC c),iD m,iD r,iD t] (bD false)):
  Pure Tryz.prog 39 [.agg (unC u),.agg (cfC c),iD m,iD r,iD t] (.tup [.agg (cfC c),bD false]):=by
 have cc:=ZgP c hc
 refine Fun.of T [.cell 10 51,.tmp 11] Tryz.func39 rfl Tryz.ntmps39 Tryz.results39 rfl (by kernel_rfl) ?_
 repeat' first|refine vb (t:=25) rfl rfl rfl rfl ?_|refine vs T rfl fun K hK=>?_;(try simp (disch:=omega) only[go_sem,Nat.reduceBEq,Nat.reduceAdd,Nat.reduceLeDiff,z'r]);(first|refine hK _ _ ?_;clear hK K|intro bq hbq;(try simp only[HB]at hbq);refine hK _ _ ?_;clear hK K|refine Op1.callp rfl rfl (cc) rfl ?_;refine hK _ _ ?_;clear hK K|refine Op1.callp rfl rfl (hE) rfl ?_;refine hK _ _ ?_;clear hK K)|refine st rfl ?_|refine sc rfl ?_|refine nl ?_|exact x'g T rfl (by(simp (disch:=omega) only[hget_ne,hget_eq])<;>rfl) rfl rfl rfl (z'a _) ⟨rfl,rfl⟩
theorem Zoo {u:Un} {c:Cf} {m r:Int} (h:Rt u c m r) (t:Int):Pure Tryz.prog 39 [.agg (unC u),.agg (cfC c),iD m,iD r,iD t] (.tup [.agg (cfC (Zb2 u c m r t)),bD (enT u c m r t)]):=by
 by_cases ht:t<0∨t≥c.pc.length
 ·have hn:=Zd4 (u:=u) (m:=m) (r:=r) ht
  rw[Zer hn,hn]
  refine ZgN u c h.okC m r t ?_
  have:=ZeU u c m r t ht
  rwa [hn]at this
 obtain⟨i,rfl⟩: ∃i:Nat,t=(i:Int):=⟨t.toNat,by omega⟩
 obtain⟨x,row,b,p,ha⟩:=h.at (i:=i) (by omega)
 rw[Zf7 ha]
 cases hE:enT u c m r (i:Nat)with
 |true=>exact ZmI u c h.okC m r ha hE
 |false=>
  refine ZgN u c h.okC m r _ ?_
  have:=x'8 u c h.okC m r ha.thr
  rwa [hE]at this
theorem ZpB {u:Un} {c:Cf} {m r:Int} (h:Rt u c m r) (t:Int):Pure Tryz.prog 42 [.agg (unC u),.agg (cfC c),iD m,iD r,iD t] (bD (enT u c m r t)):=by
 by_cases ht:t<0∨t≥c.pc.length
 ·exact ZeU u c m r t ht
 obtain⟨i,rfl⟩: ∃i:Nat,t=(i:Int):=⟨t.toNat,by omega⟩
 obtain⟨x,row,b,p,ha⟩:=h.at (i:=i) (by omega)
 exact x'8 u c h.okC m r ha.thr
section
variable {u : Un} {c : Cf} {m r : Int}
theorem Zez {k:Nat} (h:k<(y'C u m).length):Zao u m (k:Nat)=some (agF u m k):=by
 have:=(ZjE h).1
 simp[Zao,this]
theorem Zgj {a:Int} (h:a<0∨a≥((y'C u m).length:Int)):Zao u m a=none:=by
 unfold Zao
 split
 ·rename_i h0
  have:=of_decide_eq_true h0
  exact z'z (by omega)
 ·rfl
theorem Zki {k:Nat} (h:k<u.regs.length):agF u m k= .th k:=if_pos h
theorem Zm9 {k:Nat} (h:u.regs.length≤k) (h2:m=2):agF u m k= .fl (k-u.regs.length) (-1):=by unfold agF;rw[if_neg (by omega),if_pos h2]
theorem Zna {k:Nat} (h:u.regs.length≤k) (h2: ¬m=2):agF u m k= .fl ((k-u.regs.length)/u.init.length) (((k-u.regs.length) % u.init.length:Nat):Int):=by unfold agF;rw[if_neg (by omega),if_neg h2]
structure FlN (u:Un) (i:Nat):Prop where
 sub:IntKind.i64.wrap ((i:Int)-(u.regs.length:Int))=((i-u.regs.length:Nat):Int)
 quo:IntKind.i64.wrap (((i-u.regs.length:Nat):Int).tdiv (u.init.length:Int))=(((i-u.regs.length)/u.init.length:Nat):Int)
 rem:(((i-u.regs.length:Nat):Int).tmod (u.init.length:Int))=(((i-u.regs.length) % u.init.length:Nat):Int)
 nz:(u.init.length:Int)≠0
theorem flN {i:Nat} (h:i<(y'C u m).length) (h3:u.regs.length≤i) (m2: ¬m=2):FlN u i:=by
 obtain⟨_,h2,hU⟩:=ZjE h
 obtain⟨_,hc⟩:=(h2 h3).resolve_left m2
 have hl:=v'd u m
 have hL:0<u.init.length:=by
  rcases y'3 u.init.length with h|h
  ·rw[h,Nat.mul_zero]at hc;omega
  ·exact h
 refine⟨by rw[w64 (by omega)];omega,?_,?_,by omega⟩
 ·rw[Zp6 (n:=((i-u.regs.length:Nat):Int)) (k:=(u.init.length:Int)) (by omega) (by omega) (by omega)]
  exact(Int.natCast_ediv _ _).symm
 ·rw[Zoy (n:=((i-u.regs.length:Nat):Int)) (k:=(u.init.length:Int)) (by omega)]
  exact(Int.natCast_emod _ _).symm
theorem Zgm (h:Rt u c m r) (a:Int):Pure Tryz.prog 24 [.agg (unC u),.agg (cfC c),iD m,iD r,iD a] (bD (enM u c m r a)):=by
 have ca:=Zb8 u h.okU m
 have hl:=v'd u m
 refine Fun.of T [.tmp 10] Tryz.func24 rfl Tryz.ntmps24 Tryz.results24 rfl (by kernel_rfl) ?_
 by_cases h1:a<0
 ·have e1:decide (a<0)=true:=by simpa using h1
  rw[show enM u c m r a=false by simp[enM,Zgj (.inl h1)]]
  repeat' first|refine vb rfl rfl rfl rfl ?_|refine vs T rfl fun K hK=>?_;(try simp (disch:=omega) only[go_sem,Nat.reduceBEq,Nat.reduceAdd,e1,z'k]);(refine hK _ _ ?_;clear hK K)|refine st rfl ?_|refine sc rfl ?_|refine nl ?_|refine gs rfl rfl ?_|exact z'n T (z'a _) ⟨rfl,rfl⟩
 have e1:decide (a<0)=false:=by simpa using h1
 by_cases h2:a≥((y'C u m).length:Int)
 ·have e2:decide (a≥((y'C u m).length:Int))=true:=by simpa using h2
  rw[show enM u c m r a=false by simp[enM,Zgj (.inr h2)]]
  repeat' first|refine vb rfl rfl rfl rfl ?_|refine vs T rfl fun K hK=>?_;(try simp (disch:=omega) only[go_sem,Nat.reduceBEq,Nat.reduceAdd,Nat.reduceLeDiff,e1,e2,z'k]);(first|refine hK _ _ ?_;clear hK K|refine Op1.callp rfl rfl (ca) rfl ?_;refine hK _ _ ?_;clear hK K)|refine st rfl ?_|refine sc rfl ?_|refine nl ?_|refine gs rfl rfl ?_|exact z'n T (z'a _) ⟨rfl,rfl⟩
 have e2:decide (a≥((y'C u m).length:Int))=false:=by simpa using h2
 obtain⟨i,rfl⟩: ∃i:Nat,a=(i:Int):=⟨a.toNat,by omega⟩
 have hi:i<(y'C u m).length:=by omega
 rw[show enM u c m r (i:Nat)=Zbh u c m r (agF u m i) by simp[enM,Zez hi]]
 by_cases h3:i<u.regs.length
 ·have e3:decide ((i:Int)<(u.regs.length:Int))=true:=decide_eq_true (by omega)
  have c1:=ZpB h (i:Nat)
  rw[Zki h3]
  repeat' first|refine vb rfl rfl rfl rfl ?_|refine vs T rfl fun K hK=>?_;(try simp (disch:=omega) only[go_sem,Nat.reduceBEq,Nat.reduceAdd,Nat.reduceLeDiff,e1,e2,e3,z'k]);(first|refine hK _ _ ?_;clear hK K|refine Op1.callp rfl rfl (ca) rfl ?_;refine hK _ _ ?_;clear hK K|refine Op1.callp rfl rfl (c1) rfl ?_;refine hK _ _ ?_;clear hK K)|refine st rfl ?_|refine sc rfl ?_|refine nl ?_|refine gs rfl rfl ?_|exact z'n T (z'a _) ⟨rfl,rfl⟩
  all_goals rfl
 have e3:decide ((i:Int)<(u.regs.length:Int))=false:=decide_eq_false (by omega)
 by_cases m2:m=2
 ·have f2:(m == 2)=true:=by simpa using m2
  have hw:IntKind.i64.wrap ((i:Int)-(u.regs.length:Int))=((i-u.regs.length:Nat):Int):=by rw[w64 (by omega)];omega
  have c1:=ZcY c h.okC.buf m ((i-u.regs.length:Nat):Int) (-1)
  rw[Zm9 (by omega) m2]
  repeat' first|refine vb rfl rfl rfl rfl ?_|refine vs T rfl fun K hK=>?_;(try simp (disch:=omega) only[go_sem,Nat.reduceBEq,Nat.reduceAdd,Nat.reduceLeDiff,e1,e2,e3,hw,f2,z'k]);(first|refine hK _ _ ?_;clear hK K|refine Op1.callp rfl rfl (ca) rfl ?_;refine hK _ _ ?_;clear hK K|refine Op1.callp rfl rfl (c1) rfl ?_;refine hK _ _ ?_;clear hK K)|refine st rfl ?_|refine sc rfl ?_|refine nl ?_|refine gs rfl rfl ?_|exact z'n T (z'a _) ⟨rfl,rfl⟩
  all_goals rfl
 have f2:(m == 2)=false:=by simpa using m2
 obtain⟨hw,hq,hr,hnz⟩:=flN hi (by omega) m2
 have c1:=ZcY c h.okC.buf m (((i-u.regs.length)/u.init.length:Nat):Int) (((i-u.regs.length) % u.init.length:Nat):Int)
 rw[Zna (by omega) m2]
 repeat' first|refine vb rfl rfl rfl rfl ?_|refine dr (id:=8) T 16 (by kernel_rfl) ?_|refine gn ?_|(apply VCg.step T rfl rfl);focus((try simp (disch:=omega) only[go_sem,Nat.reduceBEq,Nat.reduceAdd,Nat.reduceLeDiff,hw,hq,hr,z'k]);(first|exact rfl|refine⟨?_,rfl⟩;try omega))|refine vs T rfl fun K hK=>?_;(try simp (disch:=omega) only[go_sem,Nat.reduceBEq,Nat.reduceAdd,Nat.reduceLeDiff,e1,e2,e3,f2,z'k]);(first|refine hK _ _ ?_;clear hK K|refine Op1.callp rfl rfl (ca) rfl ?_;refine hK _ _ ?_;clear hK K|refine Op1.callp rfl rfl (c1) rfl ?_;refine hK _ _ ?_;clear hK K)|refine st rfl ?_|refine sc rfl ?_|refine nl ?_|refine gs rfl rfl ?_|exact z'n T (z'a _) ⟨rfl,rfl⟩
 all_goals rfl
theorem ZmM (h:Rt u c m r) (a:Int):Pure Tryz.prog 21 [.agg (unC u),.agg (cfC c),iD m,iD r,iD a] (.tup [.agg (cfC (actM u c m r a)),bD (enM u c m r a)]):=by
 have ce:=Zgm h a
 have hl:=v'd u m
 refine Fun.of T [.cell 10 51,.tmp 11] Tryz.func21 rfl Tryz.ntmps21 Tryz.results21 rfl (by kernel_rfl) ?_
 cases hE:enM u c m r a with
 |false=>
  rw[hE]at ce
  have cc:=ZgP c h.okC
  rw[Znk hE]
  repeat' first|refine vb rfl rfl rfl rfl ?_|refine vs T rfl fun K hK=>?_;(try simp (disch:=omega) only[go_sem,Nat.reduceBEq,Nat.reduceAdd,Nat.reduceLeDiff,z'k,z'r]);(first|refine hK _ _ ?_;clear hK K|intro bq hbq;(try simp only[HB]at hbq);refine hK _ _ ?_;clear hK K|refine Op1.callp rfl rfl (ce) rfl ?_;refine hK _ _ ?_;clear hK K|refine Op1.callp rfl rfl (cc) rfl ?_;refine hK _ _ ?_;clear hK K)|refine st rfl ?_|refine sc rfl ?_|refine nl ?_|exact x'g T rfl (by(simp (disch:=omega) only[hget_eq])<;>rfl) rfl rfl rfl (z'a _) ⟨rfl,rfl⟩
 |true=>
 rw[hE]at ce
 have h12: ¬(a<0∨a≥((y'C u m).length:Int)):=fun h'=>by simp[enM,Zgj h']at hE
 obtain⟨i,rfl⟩: ∃i:Nat,a=(i:Int):=⟨a.toNat,by omega⟩
 have hi:i<(y'C u m).length:=by omega
 have hC:Zbh u c m r (agF u m i)=true:=by simpa[enM,Zez hi]using hE
 rw[show actM u c m r (i:Nat)=ZjD u c m r (agF u m i) by simp[actM,Zez hi]]
 by_cases h3:i<u.regs.length
 ·have e3:decide ((i:Int)<(u.regs.length:Int))=true:=decide_eq_true (by omega)
  have c1:=Zoo h (i:Nat)
  rw[Zki h3]at hC⊢
  have hC:enT u c m r (i:Nat)=true:=hC
  rw[hC]at c1
  repeat' first|refine vb rfl rfl rfl rfl ?_|refine vs T rfl fun K hK=>?_;(try simp (disch:=omega) only[go_sem,Nat.reduceBEq,Nat.reduceAdd,Nat.reduceLeDiff,e3,z'k,z'l]);(first|refine hK _ _ ?_;clear hK K|intro bq hbq;(try simp only[HB]at hbq);refine hK _ _ ?_;clear hK K|refine Op1.callp rfl rfl (ce) rfl ?_;refine hK _ _ ?_;clear hK K|refine Op1.callp rfl rfl (c1) rfl ?_;refine hK _ _ ?_;clear hK K)|refine st rfl ?_|refine sc rfl ?_|refine nl ?_|exact x'g T rfl (by(simp (disch:=omega) only[hget_eq])<;>rfl) rfl rfl rfl (z'a _) ⟨rfl,rfl⟩
  all_goals rfl
 have e3:decide ((i:Int)<(u.regs.length:Int))=false:=decide_eq_false (by omega)
 by_cases m2:m=2
 ·have f2:(m == 2)=true:=by simpa using m2
  have hw:IntKind.i64.wrap ((i:Int)-(u.regs.length:Int))=((i-u.regs.length:Nat):Int):=by rw[w64 (by omega)];omega
  have c1:=ZgR c h.okC h.locs m ((i-u.regs.length:Nat):Int) (-1)
  rw[Zm9 (by omega) m2]at hC⊢
  have hC:x'H c m ((i-u.regs.length:Nat):Int) (-1)=true:=hC
  rw[hC]at c1
  repeat' first|refine vb rfl rfl rfl rfl ?_|refine vs T rfl fun K hK=>?_;(try simp (disch:=omega) only[go_sem,Nat.reduceBEq,Nat.reduceAdd,Nat.reduceLeDiff,e3,hw,f2,z'k,z'l]);(first|refine hK _ _ ?_;clear hK K|intro bq hbq;(try simp only[HB]at hbq);refine hK _ _ ?_;clear hK K|refine Op1.callp rfl rfl (ce) rfl ?_;refine hK _ _ ?_;clear hK K|refine Op1.callp rfl rfl (c1) rfl ?_;refine hK _ _ ?_;clear hK K)|refine st rfl ?_|refine sc rfl ?_|refine nl ?_|exact x'g T rfl (by(simp (disch:=omega) only[hget_eq])<;>rfl) rfl rfl rfl (z'a _) ⟨rfl,rfl⟩
  all_goals rfl
 have f2:(m == 2)=false:=by simpa using m2
 obtain⟨hw,hq,hr,hnz⟩:=flN hi (by omega) m2
 have c1:=ZgR c h.okC h.locs m (((i-u.regs.length)/u.init.length:Nat):Int) (((i-u.regs.length) % u.init.length:Nat):Int)
 rw[Zna (by omega) m2]at hC⊢
 have hC:x'H c m (((i-u.regs.length)/u.init.length:Nat):Int) (((i-u.regs.length) % u.init.length:Nat):Int)=true:=hC
 rw[hC]at c1
 repeat' first|refine vb rfl rfl rfl rfl ?_|refine dr (id:=8) T 19 (by kernel_rfl) ?_|refine gn ?_|apply VCg.step T rfl rfl;focus((try simp (disch:=omega) only[go_sem,Nat.reduceBEq,Nat.reduceAdd,Nat.reduceLeDiff,hw,hq,hr,z'k]);(first|exact rfl|refine⟨?_,rfl⟩;try omega|refine Op1.callp rfl rfl (c1) rfl ?_;exact⟨rfl,rfl⟩))|refine vs T rfl fun K hK=>?_;(try simp (disch:=omega) only[go_sem,Nat.reduceBEq,Nat.reduceAdd,Nat.reduceLeDiff,e3,f2,z'k,z'l]);(first|refine hK _ _ ?_;clear hK K|intro bq hbq;(try simp only[HB]at hbq);refine hK _ _ ?_;clear hK K|refine Op1.callp rfl rfl (ce) rfl ?_;refine hK _ _ ?_;clear hK K)|refine st rfl ?_|refine sc rfl ?_|refine nl ?_|exact x'g T rfl (by(simp (disch:=omega) only[hget_eq])<;>rfl) rfl rfl rfl (z'a _) ⟨rfl,rfl⟩
 all_goals rfl
theorem Zo6 {k:Nat} (h:k<(y'C u m).length):enM u c m r (k:Nat)=Zbh u c m r (agF u m k):=by simp[enM,Zez h]
theorem ZgU (h:Rt u c m r):Pure Tryz.prog 20 [.agg (unC u),.agg (cfC c),iD m,iD r] (z'C (x'4 u c m r)):=by
 have ca:=Zb8 u h.okU m
 have hl:=v'd u m
 have hat: ∀k:Nat,k<(y'C u m).length→(y'C u m)[k]?=some (agF u m k)∧enM u c m r (k:Nat)=Zbh u c m r (agF u m k):=fun k hk=>⟨(ZjE hk).1,Zo6 hk⟩
 unfold x'4
 generalize y'C u m=A at*
 refine Fun.freeze (Zb9 _) ?_
 refine Fun.of T [.tmp 8] Tryz.func20 rfl Tryz.ntmps20 Tryz.results20 rfl (by kernel_rfl) ?_
 repeat' first|refine vb rfl rfl rfl rfl ?_|refine vs T rfl fun K hK=>?_;(try simp (disch:=omega) only[go_sem,Nat.reduceAdd]);(refine hK _ _ ?_;clear hK K)|refine st rfl ?_|refine nl ?_
 refine VC.loop {p:Nat×List Int×Option (Nat×Nat)//p.1≤A.length∧p.2.1=mvK u c m r A p.1} (fun p=>⟨z'J [(2,iD m),(3,iD r),(4,.pt (unC u)),(5,.pt (cfC c)),(9,.gs p.1.2.2 p.1.2.1.length),(10,iD (p.1.1:Nat))],shp p.1.2.2 3 1 (p.1.2.1.map iD) []⟩) (fun p=>A.length-p.1.1) ⟨(0,[],none),by dsimp only;omega,rfl⟩ ?_ ?_
 ·refine Weak.sub ?_
  simp[sub,upd]
 rintro⟨⟨k,L,g⟩,hk,hL⟩
 dsimp only at hk hL⊢
 have hLl:L.length≤k:=by rw[hL];exact Zgi
 rcases z'g k A.length with hlt|hge
 case inr=>
  obtain rfl:k=A.length:=by omega
  have hd:decide ((A.length:Int)<(A.length:Int))=false:=by simp
  repeat' first|refine vs T rfl fun K hK=>?_;(try simp (disch:=omega) only[go_sem,Nat.reduceBEq,Nat.reduceAdd,Nat.reduceLeDiff,hd]);(first|refine hK _ _ ?_;clear hK K|refine Op1.callp rfl rfl (ca) rfl ?_;refine hK _ _ ?_;clear hK K)|refine st rfl ?_|refine sc rfl ?_|refine nl ?_
  exact z'n T (z'p _) ⟨g,3,by rw[←hL,z'k];rfl,by rw[←hL,Zac]⟩
 have hd:decide ((k:Int)<(A.length:Int))=true:=by simp;omega
 have hw:IntKind.i64.wrap ((k:Int)+1)=((k+1:Nat):Int):=by rw[w64 (by omega)];omega
 obtain⟨ha,he⟩:=hat k hlt
 have cn:=Zgm h (k:Nat)
 rw[he]at cn
 cases hE:Zbh u c m r (agF u m k)with
 |false=>
  rw[hE]at cn
  repeat' first|refine vs T rfl fun K hK=>?_;(try simp (disch:=omega) only[go_sem,Nat.reduceBEq,Nat.reduceAdd,Nat.reduceLeDiff,hd,hw]);(first|refine hK _ _ ?_;clear hK K|refine Op1.callp rfl rfl (ca) rfl ?_;refine hK _ _ ?_;clear hK K|refine Op1.callp rfl rfl (cn) rfl ?_;refine hK _ _ ?_;clear hK K)|refine st rfl ?_|refine sc rfl ?_|refine nl ?_
  refine⟨⟨(k+1,L,g),by dsimp only;omega,by dsimp only;rw[ZdC ha,hE,hL];simp⟩,z'v rfl ?_,by dsimp only;omega⟩
  simp[sub,upd]
 |true=>
  rw[hE]at cn
  repeat' first|refine vs T rfl fun K hK=>?_;(try simp (disch:=omega) only[go_sem,Nat.reduceBEq,Nat.reduceAdd,Nat.reduceMul,Nat.reduceLeDiff,hd,hw]);(first|refine hK _ _ ?_;clear hK K|refine⟨_,_,_,_,(by repeat (exact Sp.here)),?_,(by exact⟨rfl,rfl⟩),⟨by decide,?_⟩,fun g' hg'=>hK _ _ ?_⟩<;>clear hK K|refine Op1.callp rfl rfl (ca) rfl ?_;refine hK _ _ ?_;clear hK K|refine Op1.callp rfl rfl (cn) rfl ?_;refine hK _ _ ?_;clear hK K)|refine st rfl ?_|refine sc rfl ?_|refine nl ?_
  ·simp
  ·omega
  ·refine⟨⟨(k+1,L++[(k:Int)],g'),by dsimp only;omega,by dsimp only;rw[ZdC ha,hE,hL]⟩,z'v ?_ ?_,by dsimp only;omega⟩
   ·dsimp only
    rw[z'E]
    rfl
   ·simp[sub,upd]
theorem ZmP (h:Rt u c m r):Pure Tryz.prog 14 [.agg (unC u),.agg (cfC c),iD m,iD r] (bD (Zdr u c m r)):=by
 have c1:=Zll u c (by have:=h.okU.cod;omega) (by have:=h.okC.bufs;omega)
 have c2:=ZgU h
 have he:(((x'4 u c m r).length:Int) == 0)=decide ((x'4 u c m r).length=0):=by rw[x'Y];simp
 refine Fun.of T [.tmp 8] Tryz.func14 rfl Tryz.ntmps14 Tryz.results14 rfl (by kernel_rfl) ?_
 unfold Zdr
 cases hD:decide ((x'4 u c m r).length=0)with
 |true=>
  cases hF:v't u c with
  |true=>
   rw[hF]at c1
   repeat' first|refine vb rfl rfl rfl rfl ?_|refine vs T rfl fun K hK=>?_;(try simp (disch:=omega) only[go_sem,Nat.reduceBEq,Nat.reduceAdd,Nat.reduceLeDiff,z'l,he,hD,z'k]);(first|refine hK _ _ ?_;clear hK K|refine Op1.callp rfl rfl (c1) rfl ?_;refine hK _ _ ?_;clear hK K|refine Op1.callp rfl rfl (c2) rfl ?_;refine hK _ _ ?_;clear hK K)|refine st rfl ?_|refine nl ?_|refine gs rfl rfl ?_|exact z'n T (z'a _) ⟨rfl,rfl⟩
   all_goals rfl
  |false=>
   rw[hF]at c1
   repeat' first|refine vb rfl rfl rfl rfl ?_|refine vs T rfl fun K hK=>?_;(try simp (disch:=omega) only[go_sem,Nat.reduceBEq,Nat.reduceAdd,Nat.reduceLeDiff,z'r,he,hD,z'k]);(first|refine hK _ _ ?_;clear hK K|refine Op1.callp rfl rfl (c1) rfl ?_;refine hK _ _ ?_;clear hK K|refine Op1.callp rfl rfl (c2) rfl ?_;refine hK _ _ ?_;clear hK K)|refine st rfl ?_|refine nl ?_|refine gs rfl rfl ?_|exact z'n T (z'a _) ⟨rfl,rfl⟩
   all_goals rfl
 |false=>
  rw[w's]
  repeat' first|refine vb rfl rfl rfl rfl ?_|refine vs T rfl fun K hK=>?_;(try simp (disch:=omega) only[go_sem,Nat.reduceBEq,Nat.reduceAdd,Nat.reduceLeDiff,he,hD,z'k]);(first|refine hK _ _ ?_;clear hK K|refine Op1.callp rfl rfl (c2) rfl ?_;refine hK _ _ ?_;clear hK K)|refine st rfl ?_|refine nl ?_|refine gs rfl rfl ?_|exact z'n T (z'a _) ⟨rfl,rfl⟩
  all_goals rfl
end
end Go.Proofs.YtfneeacgkdhldaaGreat
