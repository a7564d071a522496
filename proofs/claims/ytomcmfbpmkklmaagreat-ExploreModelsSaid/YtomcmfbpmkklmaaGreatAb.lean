/- Plain law: what is reached under SC is reached under TSO and PSO; with more room no less is reached. No condition. -/
import Derived.Test.YtomcmfbpmkklmaaGreatCv
import Derived.Test.YtomcmfbpmkklmaaGreatCx
namespace Go.Proofs.YtomcmfbpmkklmaaGreat
set_option maxHeartbeats 16000000
set_option linter.unusedSimpArgs false
set_option linter.unusedVariables false
set_option maxRecDepth 20000
open Go Go.Proofs Go.Vc
section
variable {u : Un} {c : Cf} {m r : Int}
theorem ZkN {ag:Ag} (h:ag∈y'N u m) (hc:ZaN u c m r ag=true): ∃a,a∈y'6 u c m r∧actM u c m r a=ZfN u c m r ag:=by
 obtain⟨i,hi⟩:=w'L.1 h
 have hl:=(z'c.1 hi).1
 refine⟨(i:Int),?_,?_⟩
 ·unfold y'6 mvK
  exact z'y.2 ⟨i,x'B.2 ⟨z'K.2 hl,by simp[hi,hc]⟩,rfl⟩
 ·unfold actM Zaq
  simp[hi]
theorem Zi2 {a:Int} (h:a∈y'6 u c m r): ∃ag,ag∈y'N u m∧ZaN u c m r ag=true∧actM u c m r a=ZfN u c m r ag:=by
 unfold y'6 mvK at h
 obtain⟨i,hi,rfl⟩:=z'y.1 h
 obtain⟨h1,h2⟩:=x'B.1 hi
 have hl:=z'K.1 h1
 have he:(y'N u m)[i]?=some (y'N u m)[i]:=z'b hl
 rw[he]at h2
 refine⟨_,List.getElem_mem hl,by simpa using h2,?_⟩
 unfold actM Zaq
 simp[he]
theorem Zpb (hU:z'8 u=true) (hm:1≤m∧m≤3) {t:Nat} (ht:t<u.regs.length):Ag.th t∈y'N u m:=by
 unfold y'N
 rw[if_pos ⟨hU,hm⟩]
 exact y'O _ (z'y.2 ⟨t,z'K.2 ht,rfl⟩)
theorem Zo3 (hU:z'8 u=true) (hm:1≤m∧m≤3) {t:Nat} {l:Int} (ht:t<u.regs.length) (hl:Ag.fl t l∈ZbW u m t):Ag.fl t l∈y'N u m:=by
 unfold y'N
 rw[if_pos ⟨hU,hm⟩]
 exact y'5 _ (Zaj.2 ⟨t,z'K.2 ht,hl⟩)
theorem ZoZ {ag:Ag} (h:ag∈y'N u 1): ∃t,ag= .th t:=by
 unfold y'N at h
 split at h
 ·rcases y'x.1 h with h|h
  ·obtain⟨t,_,rfl⟩:=z'y.1 h
   exact⟨t,rfl⟩
  ·obtain⟨t,_,h⟩:=Zaj.1 h
   simp[ZbW]at h
 ·cases h
theorem Zk0 {e:En} {l:Int} (hm:(m=2∧l= -1)∨(m=3∧l=e.1)):z'Y m l [e]=some 0:=by
 rcases hm with⟨rfl,rfl⟩|⟨rfl,rfl⟩
 ·simp[z'Y]
 ·simp[z'Y,w'0]
theorem Zm1 {e:En} {l:Int} (hm:(m=2∧l= -1)∨(m=3∧l=e.1)):y'L m l [e]=([],e,true):=by
 unfold y'L
 rw[Zk0 hm]
 rfl
theorem ZkT {e:En} (hm:m=2∨m=3):x'2 m e []=[e]:=by
 rcases hm with rfl|rfl<;>simp[x'2,w'k]
theorem Zou (h:Rt u c 1 1) (hm:m=2∨m=3) (t:Nat) (hE:enT u c 1 1 (t:Nat)=true):
  enT u c m 1 (t:Nat)=true∧t<u.regs.length∧(v'C u c m 1 (t:Nat)=v'C u c 1 1 (t:Nat)∨
   ∃l,Ag.fl t l∈ZbW u m t∧x'n (v'C u c m 1 (t:Nat)) m (t:Nat) l=true∧w'Q (v'C u c m 1 (t:Nat)) m (t:Nat) l=v'C u c 1 1 (t:Nat)):=by
 have hl:=h.lens
 have ht:t<c.pc.length:=by
  rcases z'g t c.pc.length with ht|ht
  ·exact ht
  ·rw[Zdv (by omega)]at hE;cases hE
 obtain⟨x,row,b,p,ha⟩:=h.at (i:=t) ht
 have hb:b=[]:=(h.rb ha.thr.buf).p1 rfl
 subst hb
 have hbuf:=ha.thr.buf
 have hbl:=(z'c.1 hbuf).1
 rw[ZbT ha.thr]at hE
 rw[ZbT ha.thr]
 have q1:v'C u c 1 1 (t:Nat)=y'B u (setP c t ((p+1:Nat):Int)) 1 t x row []:=by
  rw[ZcM ha,ZbT ha.thr,hE];rfl
 by_cases ho:x.op=4
 ·obtain⟨rw,n,k1,k2,k3,k4,k5⟩:=ha.kind
  obtain⟨k5,_⟩:=k5.resolve_left (by omega)
  have hlc:=ZgU k5 (.inr (.inl ho))
  have hE':enB c m 1 (t:Nat) x [] (z'1 u row x.e)=true:=by
   rcases hm with rfl|rfl<;>simp[enB,ho,ZaR,x'f]
  have q2:v'C u c m 1 (t:Nat)=y'1 (setP c t ((p+1:Nat):Int)) t [(x.loc,z'1 u row x.e)]:=by
   rw[ZcM ha,ZbT ha.thr,hE']
   have:m≠1:=by omega
   simp only[ZhQ,y'B,ho,if_neg this,ZkT hm]
   rfl
  rw[q1,q2]
  refine⟨hE',by omega,.inr ?_⟩
  have q3:y'B u (setP c t ((p+1:Nat):Int)) 1 t x row []=y'I (setP c t ((p+1:Nat):Int)) x.loc.toNat (z'1 u row x.e):=by
   simp[y'B,ho]
  rw[q3]
  generalize z'1 u row x.e=v
  have key: ∀l,((m=2∧l= -1)∨(m=3∧l=x.loc))→x'n (y'1 (setP c t ((p+1:Nat):Int)) t [(x.loc,v)]) m (t:Nat) l=true∧w'Q (y'1 (setP c t ((p+1:Nat):Int)) t [(x.loc,v)]) m (t:Nat) l=y'I (setP c t ((p+1:Nat):Int)) x.loc.toNat v:=by
   intro l hml
   have hp:=Zm1 (e:=(x.loc,v)) hml
   have e1:(y'1 (setP c t ((p+1:Nat):Int)) t [(x.loc,v)]).bufs[t]?=some [(x.loc,v)]:=by
    simp[y'1,setP,hbl]
   have e2:x'n (y'1 (setP c t ((p+1:Nat):Int)) t [(x.loc,v)]) m (t:Nat) l=true:=by
    unfold x'n
    rw[decide_eq_true (show(0:Int)≤(t:Int) by omega),z'o,e1]
    simp only[hp]
   refine⟨e2,?_⟩
   unfold w'Q
   rw[e2]
   simp only[z'o,z'd,e1,z'I,hp]
   have e3:y'1 (y'1 (setP c t ((p+1:Nat):Int)) t [(x.loc,v)]) t []=setP c t ((p+1:Nat):Int):=by
    have:(c.bufs.set t [(x.loc,v)]).set t []=c.bufs:=by
     rw[List.set_set]
     refine x'w fun j=>?_
     rw[v'7]
     split
     ·rename_i e;subst e;rw[hbuf]
     ·rfl
    simp[y'1,setP,this]
   rw[e3]
  rcases hm with rfl|rfl
  ·exact⟨-1,by simp[ZbW],key _ (.inl ⟨rfl,rfl⟩)⟩
  ·refine⟨x.loc,?_,key _ (.inr ⟨rfl,rfl⟩)⟩
   simp only[ZbW]
   exact z'y.2 ⟨x.loc.toNat,z'K.2 (by omega),by rw[Int.toNat_of_nonneg hlc.1]⟩
 ·have hE':enB c m 1 (t:Nat) x [] (z'1 u row x.e)=true:=by
   simpa only[enB,if_neg ho]using hE
  refine⟨hE',by omega,.inl ?_⟩
  rw[q1,ZcM ha,ZbT ha.thr,hE']
  simp only[ZhQ,y'B,if_neg ho]
end
theorem Zgg {u:Un} {m r b:Int} {S:Spc Cf} (h:w'h u m r b=some S) (hb:1≤b):y'E u∈S.cf:=by
 obtain⟨I,_,_⟩:=v'O h (by omega)
 exact z'f I.first.1
theorem Zdc {u:Un} {m r b:Int} {S:Spc Cf} (h:w'h u m r b=some S) (hb:1≤b) {c:Cf} (hc:c∈S.cf) {ag:Ag} (ha:ag∈y'N u m) (hk:ZaN u c m r ag=true):ZfN u c m r ag∈S.cf:=by
 obtain⟨_,_,hM⟩:=v'O h (by omega)
 obtain⟨a,h1,h2⟩:=ZkN ha hk
 obtain⟨j,hj⟩:=w'L.1 hc
 rw[←h2]
 exact hM j c hj a h1
theorem Zmj {u:Un} (hu:OkU u) (hU:z'8 u=true) {m b b':Int} (hm:m=2∨m=3) {S S':Spc Cf} (h:w'h u 1 1 b=some S) (hb:1≤b) (h':w'h u m 1 b'=some S') (hb':1≤b'): ∀c,c∈S.cf→c∈S'.cf:=by
 obtain⟨I,_,_⟩:=v'O h (by omega)
 intro c hc
 obtain⟨j,hj⟩:=w'L.1 hc
 refine(I.all (p:=fun c=>Rt u c 1 1∧c∈S'.cf) ⟨v'l hu hU (by decide) (by decide),Zgg h' hb'⟩ (fun c a hc ha=>⟨hc.1.actM a,?_⟩) j c hj).2
 obtain⟨ag,h1,h2,h3⟩:=Zi2 ha
 rw[h3]
 obtain⟨t,rfl⟩:=ZoZ h1
 obtain⟨k1,k2,k3⟩:=Zou hc.1 hm t h2
 have hmm:1≤m∧m≤3:=by omega
 have n1:=Zdc h' hb' hc.2 (Zpb hU hmm k2) k1
 rcases k3 with k3|⟨l,k3,k4,k5⟩
 ·show v'C u c 1 1 (t:Nat)∈S'.cf
  rw[←k3];exact n1
 ·show v'C u c 1 1 (t:Nat)∈S'.cf
  rw[←k5]
  exact Zdc h' hb' n1 (Zo3 hU hmm k2 k3) k4
theorem ZlL {u:Un} {c:Cf} {t:Int} (h:enT u c 2 1 t=true):enT u c 2 2 t=true:=by
 cases h1:decide (0≤t)with
 |false=>simp[enT,h1]at h
 |true=>
 cases h2:ZfA u c t.toNat with
 |none=>simp[enT,h1,h2]at h
 |some x=>
 have e: ∀k,enT u c 2 k t=enB c 2 k t x (c.bufs.getD t.toNat []) (z'1 u (c.regs.getD t.toNat []) x.e):=fun k=>by unfold enT;rw[h1,h2]
 rw[e]at h⊢
 by_cases ho:x.op=4
 ·have q: ∀k b n,enB c 2 k t x b n=decide ((b.length:Int)<k):=fun k b n=>by simp[enB,ho,ZaR]
  rw[q,decide_eq_true_eq]at h⊢
  omega
 ·simpa only[enB,if_neg ho]using h
theorem ZpY {u:Un} {b b':Int} {S S':Spc Cf} (h:w'h u 2 1 b=some S) (hb:1≤b) (h':w'h u 2 2 b'=some S') (hb':1≤b'): ∀c,c∈S.cf→c∈S'.cf:=by
 obtain⟨I,_,_⟩:=v'O h (by omega)
 intro c hc
 obtain⟨j,hj⟩:=w'L.1 hc
 refine I.all (p:=fun c=>c∈S'.cf) (Zgg h' hb') (fun c a hc ha=>?_) j c hj
 obtain⟨ag,h1,h2,h3⟩:=Zi2 ha
 rw[h3]
 cases ag with
 |th t=>
  have h2':enT u c 2 2 (t:Nat)=true:=ZlL h2
  have:=Zdc h' hb' hc h1 (show ZaN u c 2 2 (.th t)=true from h2')
  have e:v'C u c 2 1 (t:Nat)=v'C u c 2 2 (t:Nat):=by
   unfold v'C
   rw[h2',show enT u c 2 1 (t:Nat)=true from h2]
  show v'C u c 2 1 (t:Nat)∈S'.cf
  rw[e];exact this
 |fl t l=>exact Zdc h' hb' hc h1 (show ZaN u c 2 2 (.fl t l)=true from h2)
theorem ZjS {l:List Cf} {c:Cf} (h:c∈l):0≤plI (w'u l c):=by
 cases hi:w'u l c with
 |none=>exact absurd h (Zho hi)
 |some k=>simp[plI]
attribute [local irreducible] y'0 VCg VCw VCx
def cfR (u:Un) (m r b:Int):List Cf:=match z'8 u&&w'i m r b with
 |true=>match w'h u m r b with
  |some S=>S.cf
  |none=>[]
 |false=>[]
theorem ZeM (u:Un) (m r b:Int): ∃g P B,spR u m r b=spC (cfR u m r b) g P B:=by
 unfold spR cfR
 cases z'8 u&&w'i m r b with
 |false=>exact⟨_,_,_,rfl⟩
 |true=>
  cases w'h u m r b with
  |none=>exact⟨_,_,_,rfl⟩
  |some S=>exact⟨_,_,_,rfl⟩
theorem ZdA {u:Un} {m r b:Int} (he:x'b u m r b=0): ∃S,z'8 u=true∧w'i m r b=true∧w'h u m r b=some S∧cfR u m r b=S.cf:=by
 obtain⟨S,h1,h2,h3,_⟩:=Zds he
 exact⟨S,h1,h2,h3,by simp only[cfR,h1,h2,h3,w'C]⟩
theorem Zpp {u:Un} {m r b:Int} (he:x'b u m r b≠0):cfR u m r b=[]:=by
 cases hU:z'8 u with
 |false=>simp only[cfR,hU,x'z]
 |true=>
 cases hA:w'i m r b with
 |false=>simp only[cfR,hU,hA,w'o]
 |true=>
 cases hS:w'h u m r b with
 |none=>simp only[cfR,hU,hA,hS,w'C]
 |some S=>exact absurd (ZfI hU hA hS).1 he
theorem Zeo {m r b:Int} (h:w'i m r b=true):1≤b:=by
 simp only[w'i,z'h,decide_eq_true_eq]at h
 exact h.2.2.1
theorem Ziz {u:Un} (hu:OkU u) {m r b:Int} (hb:b≤1000):(cfR u m r b).length≤1000∧ ∀c,c∈cfR u m r b→OkC c:=by
 by_cases he:x'b u m r b=0
 ·obtain⟨S,hU,hA,hS,e⟩:=ZdA he
  have hb1:=Zeo hA
  have hA':=hA
  simp only[w'i,z'h,decide_eq_true_eq]at hA'
  have hbud:=(ZaL (show Zc1 _ _ _ _=some S from hS) (by omega)).2.1
  rw[e]
  exact⟨by omega,fun c hc=>(Zfd hS hb1 (v'l hu hU hA'.1 hA'.2.1) c hc).okC⟩
 ·rw[Zpp he]
  exact⟨by simp,fun c hc=>by cases hc⟩
theorem Zfx {u:Un} (hu:OkU u) (m r b:Int) (hb:b≤1000) (c:Cf) (hc:OkC c):Pure Tryz.prog 44 [.agg (spR u m r b),.agg (cfC c)] (iD (plI (w'u (cfR u m r b) c))):=by
 obtain⟨g,P,B,e⟩:=ZeM u m r b
 obtain⟨h1,h2⟩:=Ziz hu (m:=m) (r:=r) hb
 rw[e]
 exact ZfM _ _ _ _ (by omega) h2 c hc
theorem Zip {u:Un} (hu:OkU u) {m b:Int} (hm:m=2∨m=3) (h1:x'b u 1 1 b=0) (h2:x'b u m 1 b=0) {c:Cf} (hc:c∈cfR u 1 1 b):0≤plI (w'u (cfR u m 1 b) c):=by
 obtain⟨S,hU,hA,hS,e⟩:=ZdA h1
 obtain⟨S',_,hA',hS',e'⟩:=ZdA h2
 rw[e]at hc
 rw[e']
 exact ZjS (Zmj hu hU hm hS (Zeo hA) hS' (Zeo hA') c hc)
theorem Zpr {u:Un} {b:Int} (h1:x'b u 2 1 b=0) (h2:x'b u 2 2 b=0) {c:Cf} (hc:c∈cfR u 2 1 b):0≤plI (w'u (cfR u 2 2 b) c):=by
 obtain⟨S,hU,hA,hS,e⟩:=ZdA h1
 obtain⟨S',_,hA',hS',e'⟩:=ZdA h2
 rw[e]at hc
 rw[e']
 exact ZjS (ZpY hS (Zeo hA) hS' (Zeo hA') c hc)
theorem ZkW (u:Un) (m r b:Int):Pure Tryz.prog 11 [.agg (Zef u m r b)] (bD true):=by
 have cl:=ZbL u m r b
 have ck:=ZbJ
 refine Fun.of T [.tmp 2] Tryz.func11 rfl Tryz.ntmps11 Tryz.results11 rfl (by kernel_rfl) ?_
 cases hL:w'Z u&&decide (b≤150)with
 |false=>
  rw[hL]at cl
  repeat' first|refine vb (t:=27) rfl rfl rfl rfl ?_|refine vs T rfl fun K hK=>?_;(try simp (disch:=omega) only[go_sem,Nat.reduceBEq,Nat.reduceAdd,Nat.reduceLeDiff,z'q]);(first|refine hK _ _ ?_;clear hK K|refine Op1.callp rfl rfl (cl) rfl ?_;refine hK _ _ ?_;clear hK K|refine Op1.callp rfl rfl (ck) rfl ?_;refine hK _ _ ?_;clear hK K)|refine st rfl ?_|refine sc rfl ?_|refine nl ?_|exact z'j T (z'a _) ⟨rfl,rfl⟩
 |true=>
 rw[hL]at cl
 simp only[z'h,decide_eq_true_eq]at hL
 have hu:=ZaT hL.1
 have c1:=ZaM u hu 1 1 b (by omega)
 have c2:=ZaM u hu 2 1 b (by omega)
 have c3:=ZaM u hu 3 1 b (by omega)
 have c4:=ZaM u hu 2 2 b (by omega)
 have f2:=Zfx hu 2 1 b (by omega)
 have f3:=Zfx hu 3 1 b (by omega)
 have f4:=Zfx hu 2 2 b (by omega)
 obtain⟨g1,P1,B1,x1⟩:=ZeM u 1 1 b
 obtain⟨g2,P2,B2,x2⟩:=ZeM u 2 1 b
 obtain⟨g3,P3,B3,x3⟩:=ZeM u 3 1 b
 obtain⟨g4,P4,B4,x4⟩:=ZeM u 2 2 b
 rw[x1]at c1
 rw[x2]at c2 f2
 rw[x3]at c3 f3
 rw[x4]at c4 f4
 have o1:=Ziz hu (m:=1) (r:=1) (b:=b) (by omega)
 have o2:=Ziz hu (m:=2) (r:=1) (b:=b) (by omega)
 have q2:=fun h1 h2 c hc=>Zip hu (m:=2) (b:=b) (.inl rfl) h1 h2 (c:=c) hc
 have q3:=fun h1 h2 c hc=>Zip hu (m:=3) (b:=b) (.inr rfl) h1 h2 (c:=c) hc
 have q4:=fun h1 h2 c hc=>Zpr (u:=u) (b:=b) h1 h2 (c:=c) hc
 clear x1 x2 x3 x4
 generalize x'b u 1 1 b=e1 at*
 generalize x'b u 2 1 b=e2 at*
 generalize x'b u 3 1 b=e3 at*
 generalize x'b u 2 2 b=e4 at*
 generalize cfR u 1 1 b=C1 at*
 generalize cfR u 2 1 b=C2 at*
 generalize cfR u 3 1 b=C3 at*
 generalize cfR u 2 2 b=C4 at*
 repeat' first|refine vb (t:=27) rfl rfl rfl rfl ?_|refine vs T rfl fun K hK=>?_;(try simp (disch:=omega) only[go_sem,Nat.reduceBEq,Nat.reduceAdd,Nat.reduceLeDiff,z'i]);(first|refine hK _ _ ?_;clear hK K|intro bq hbq;(try simp only[HB]at hbq);refine hK _ _ ?_;clear hK K|refine Op1.callp rfl rfl (cl) rfl ?_;refine hK _ _ ?_;clear hK K|refine Op1.callp rfl rfl (c1) rfl ?_;refine hK _ _ ?_;clear hK K|refine Op1.callp rfl rfl (c2) rfl ?_;refine hK _ _ ?_;clear hK K|refine Op1.callp rfl rfl (c3) rfl ?_;refine hK _ _ ?_;clear hK K|refine Op1.callp rfl rfl (c4) rfl ?_;refine hK _ _ ?_;clear hK K)|refine st rfl ?_|refine sc rfl ?_|refine nl ?_
 rename_i b3 h3 b5 h5 b7 h7
 refine VC.loop {k:Nat//k≤C1.length} (fun q=>⟨z'M [(3,pD b3),(4,iD e1),(5,pD b5),(6,iD e2),(7,pD b7),(8,iD e3),(9,pD bq),(10,iD e4),(11,iD (q.1:Nat))],[(bq,.cells 34 6 (spC C4 g4 P4 B4)),(b7,.cells 34 6 (spC C3 g3 P3 B3)),(b5,.cells 34 6 (spC C2 g2 P2 B2)),(b3,.cells 34 6 (spC C1 g1 P1 B1))]⟩) (fun q=>C1.length-q.1) ⟨0,by omega⟩ ?_ ?_
 ·refine z'G rfl ?_
  simp[sub,upd]
 rintro⟨k,hk⟩
 dsimp only at hk⊢
 rcases z'g k C1.length with hlt|hge
 ·have hm:=w'w (d:=(default:Cf)) hlt
  have k2:=f2 _ (o1.2 _ hm)
  have k3:=f3 _ (o1.2 _ hm)
  have q2:=fun h1 h2=>q2 h1 h2 _ hm
  have q3:=fun h1 h2=>q3 h1 h2 _ hm
  generalize hcc:C1.getD k default=c at*
  generalize plI (w'u C2 c)=n2 at*
  generalize plI (w'u C3 c)=n3 at*
  repeat' first|refine dr (id:=10) T 30 (by kernel_rfl) ?_|refine gn ?_|(first|apply VCg.step T rfl rfl|apply exF);focus((try simp (disch:=omega) only[go_sem,Nat.reduceBEq,Nat.reduceAdd,Nat.reduceLeDiff,v'M,hcc,z'o]);(first|exact rfl|refine⟨?_,rfl⟩;try omega|refine Op1.callp rfl rfl (k2) rfl ?_;exact⟨rfl,rfl⟩))|refine VCg.gstep T rfl rfl rfl rfl ?_;try simp only[GB]|refine vs T rfl fun K hK=>?_;(try simp (disch:=omega) only[go_sem,Nat.reduceBEq,y'M,w64]);(first|refine hK _ _ ?_;clear hK K|refine Op1.callp rfl rfl (k3) rfl ?_;refine hK _ _ ?_;clear hK K)|refine st rfl ?_|refine sc rfl ?_|refine nl ?_|refine gs rfl rfl ?_|with_reducible refine z's (fun hc=>?_) (fun hc=>?_)<;>(try simp only[decide_eq_true_eq,decide_eq_false_iff_not,beq_iff_eq,beq_eq_false_iff_ne,ne_eq,z'u]at hc)<;>(try(exfalso;omega))
  all_goals(refine⟨⟨k+1,hlt⟩,z'G rfl ?_,by dsimp only;omega⟩;simp[sub,upd])
 obtain rfl:k=C1.length:=by omega
 repeat' first|refine vs T rfl fun K hK=>?_;(try simp (disch:=omega) only[go_sem,Nat.reduceBEq,y'M]);(refine hK _ _ ?_;clear hK K)|refine st rfl ?_|refine sc rfl ?_|refine nl ?_|with_reducible refine z's (fun hc=>?_) (fun hc=>?_)<;>(try simp only[decide_eq_true_eq,decide_eq_false_iff_not,z'u]at hc)<;>(try(exfalso;omega))
 refine VC.loop {k:Nat//k≤C2.length} (fun q=>⟨z'M [(5,pD b5),(6,iD e2),(9,pD bq),(10,iD e4),(12,iD (q.1:Nat))],[(bq,.cells 34 6 (spC C4 g4 P4 B4)),(b5,.cells 34 6 (spC C2 g2 P2 B2))]⟩) (fun q=>C2.length-q.1) ⟨0,by omega⟩ ?_ ?_
 ·refine Weak.subH (.cons_cons _ (.cons _ (.cons_cons _ (.cons _ (.refl _))))) ?_
  simp[sub,upd]
 rintro⟨k,hk⟩
 dsimp only at hk⊢
 rcases z'g k C2.length with hlt|hge
 ·have hm:=w'w (d:=(default:Cf)) hlt
  have k4:=f4 _ (o2.2 _ hm)
  have q4:=fun h1 h2=>q4 h1 h2 _ hm
  generalize hcc:C2.getD k default=c at*
  generalize plI (w'u C4 c)=n4 at*
  repeat' first|refine dr (id:=15) T 13 (by kernel_rfl) ?_|refine gn ?_|(first|apply VCg.step T rfl rfl|apply exF);focus((try simp (disch:=omega) only[go_sem,Nat.reduceBEq,Nat.reduceAdd,Nat.reduceLeDiff,v'M,hcc,z'o]);(first|exact rfl|refine⟨?_,rfl⟩;try omega))|refine VCg.gstep T rfl rfl rfl rfl ?_;try simp only[GB]|refine vs T rfl fun K hK=>?_;(try simp (disch:=omega) only[go_sem,Nat.reduceBEq,y'M,w64]);(first|refine hK _ _ ?_;clear hK K|refine Op1.callp rfl rfl (k4) rfl ?_;refine hK _ _ ?_;clear hK K)|refine st rfl ?_|refine sc rfl ?_|refine nl ?_|refine gs rfl rfl ?_|with_reducible refine z's (fun hc=>?_) (fun hc=>?_)<;>(try simp only[decide_eq_true_eq,decide_eq_false_iff_not,beq_iff_eq,beq_eq_false_iff_ne,ne_eq,z'u]at hc)<;>(try(exfalso;omega))
  all_goals(refine⟨⟨k+1,hlt⟩,z'G rfl ?_,by dsimp only;omega⟩;simp[sub,upd])
 obtain rfl:k=C2.length:=by omega
 repeat' first|refine vs T rfl fun K hK=>?_;(try simp (disch:=omega) only[go_sem,Nat.reduceBEq,y'M]);(first|refine hK _ _ ?_;clear hK K|refine Op1.callp rfl rfl (ck) rfl ?_;refine hK _ _ ?_;clear hK K)|refine st rfl ?_|refine sc rfl ?_|refine nl ?_|exact z'j T (z'a _) ⟨rfl,rfl⟩|with_reducible refine z's (fun hc=>?_) (fun hc=>?_)<;>(try simp only[decide_eq_true_eq,decide_eq_false_iff_not,z'u]at hc)<;>(try(exfalso;omega))
end Go.Proofs.YtomcmfbpmkklmaaGreat
