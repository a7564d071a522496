/- Plain law: a right configuration can be told in bytes; the edges that are found are sorted. No condition. -/
import Derived.Test.YtomcmfbpmkklmaaGreatBh
import Derived.Test.YtomcmfbpmkklmaaGreatDf
import Derived.Test.YtomcmfbpmkklmaaGreatCh
import Derived.Test.YtomcmfbpmkklmaaGreatRt
import Derived.Test.YtomcmfbpmkklmaaGreatCk
import Derived.Test.YtomcmfbpmkklmaaGreatCm
import Derived.Test.YtomcmfbpmkklmaaGreatDg
namespace Go.Proofs.YtomcmfbpmkklmaaGreat
set_option maxHeartbeats 16000000
set_option linter.unusedSimpArgs false
set_option linter.unusedVariables false
set_option maxRecDepth 20000
open Go Go.Proofs Go.Vc
theorem Zfw {α:Type} {l:List α} {t:Nat} {x d:α} (h:l[t]?=some x):l.getD t d=x:=by rw[z'd,h];rfl
theorem ZhR {u:Un} {c:Cf} {m r:Int} (h:Rt u c m r) {t:Nat} (ht:t<u.regs.length):
  (0≤c.pc.getD t 0∧c.pc.getD t 0<1000)∧((c.regs.getD t []).length:Int)=u.regs.getD t 0∧(c.regs.getD t []).length≤6∧(∀n,n∈c.regs.getD t []→w'X n)∧(c.bufs.getD t []).length≤60∧ ∀e,e∈c.bufs.getD t []→w'X e.1∧w'X e.2:=by
 obtain⟨hU,_,_,hth,hg⟩:=w'n.1 h.rt
 obtain⟨⟨a1,a2⟩,⟨a3,a4⟩,a5⟩:=v'D.1 (hth t ht)
 have hU':=hU
 simp only[z'8,w'e,z'h,decide_eq_true_eq,z'B]at hU'
 obtain⟨⟨⟨⟨⟨⟨⟨b1,b2⟩,b3⟩,b4⟩,b5⟩,b6⟩,b7⟩,b8⟩:=hU'
 have h8:=b8 t (z'K.2 ht)
 simp only[v'P,z'h,decide_eq_true_eq]at h8
 obtain⟨g1,g2⟩:=v'n.1 a5
 simp only[Zai,z'h,decide_eq_true_eq]at g1
 have g3:=g2.len (by omega) (by omega) (by omega)
 refine⟨⟨a1,by omega⟩,a3,by omega,fun n hn=>?_,g3,fun e he=>?_⟩
 ·have:=y'7.1 (z'B.1 a4 n hn)
  exact⟨by omega,by omega⟩
 ·have:=g2.el e he
  exact⟨⟨by omega,by omega⟩,by omega,by omega⟩
theorem ZkS {u:Un} {c:Cf} {m r:Int} (h:Rt u c m r):CfB u.regs u.init.length c:=by
 obtain⟨l1,l2,l3,l4,hm⟩:=h.lens
 obtain⟨hU,_⟩:=w'n.1 h.rt
 simp only[z'8,w'e,z'h,decide_eq_true_eq,z'B]at hU
 refine⟨l1,l2,l3,l4,fun n hn=>?_,fun t p rg b hp hr hb=>?_⟩
 ·have:=y'7.1 (z'B.1 hm n hn)
  exact⟨by omega,by omega⟩
 ·have ht:t<u.regs.length:=by have:=(z'c.1 hp).1;omega
  obtain⟨q1,q2,q3,q4,q5,q6⟩:=ZhR h ht
  rw[Zfw hp]at q1
  rw[Zfw hr]at q2 q4
  rw[Zfw hb]at q5 q6
  refine⟨⟨⟨q1.1,by omega⟩,q4,by omega,q6⟩,?_⟩
  rw[q2,z'd,z'b ht]
  rfl
theorem ZfC {u:Un} {c:Cf} {m r:Int} (h:Rt u c m r):(w's c).size≤10000:=by
 obtain⟨l1,l2,l3,l4,_⟩:=h.lens
 have hC:=h.okC
 obtain⟨hU,_⟩:=w'n.1 h.rt
 simp only[z'8,w'e,z'h,decide_eq_true_eq,z'B]at hU
 have e1:=ZcO (l:=c.regs) (b:=6) fun x hx=>by
  obtain⟨t,ht,rfl⟩:=List.getElem_of_mem hx
  have:=(ZhR h (t:=t) (by omega)).2.2.1
  rwa [z'd,z'b ht]at this
 have e2:=ZcO (l:=c.bufs) (b:=60) fun x hx=>by
  obtain⟨t,ht,rfl⟩:=List.getElem_of_mem hx
  have:=(ZhR h (t:=t) (by omega)).2.2.2.2.1
  rwa [z'd,z'b ht]at this
 unfold w's
 rw[Zi8,ZiU (by omega) (by omega)]
 unfold w'f
 omega
theorem Zlv {α:Type} [DecidableEq α] {mv:α→List Int} {ac:α→Int→α} {cf:List α}: ∀{n:Nat} {e:Nat×Int×Nat},e∈w'D mv ac cf n→e.1<n:=by
 intro n e he
 unfold w'D at he
 obtain⟨j,hj,he⟩:=Zaj.1 he
 have:=z'K.1 hj
 split at he
 ·obtain⟨a,_,rfl⟩:=z'y.1 he
  exact this
 ·cases he
theorem Zeh {α:Type} [DecidableEq α] {mv:α→List Int} {ac:α→Int→α} {cf:List α}: ∀n:Nat,(w'D mv ac cf n).Pairwise fun a b=>a.1≤b.1
 |0=>List.Pairwise.nil
 |n+1=>by
  have e:w'D mv ac cf (n+1)=w'D mv ac cf n++(match cf[n]? with|some c=>(mv c).map fun a=>(n,a,cf.idxOf (ac c a))|none=>[]):=by
   unfold w'D
   rw[y'p,w'd,List.flatMap_cons,List.flatMap_nil,z'r]
   rfl
  have row: ∀e,e∈(match cf[n]? with|some c=>(mv c).map fun a=>(n,a,cf.idxOf (ac c a))|none=>[])→e.1=n:=fun e he=>by
   split at he
   ·obtain⟨a,_,rfl⟩:=z'y.1 he;rfl
   ·cases he
  rw[e]
  refine List.pairwise_append.2 ⟨Zeh n,?_,fun a ha b hb=>?_⟩
  ·exact List.Pairwise.imp_of_mem (fun ha hb _=>by rw[row _ ha,row _ hb];exact z'v _) (List.pairwise_of_forall (l:=(match cf[n]? with|some c=>(mv c).map fun a=>(n,a,cf.idxOf (ac c a))|none=>[])) (R:=fun _ _=>True) fun _ _=>trivial)
  ·have:=Zlv ha
   rw[row b hb];omega
theorem ZkB {u:Un} {m r b:Int} {S:Spc Cf} (h:w'h u m r b=some S) (hb:1≤b):Zbi (edS S):=by
 obtain⟨_,hE,_⟩:=v'O h (by omega)
 unfold Zbi edS
 rw[hE]
 refine List.pairwise_map.2 ((Zeh _).imp fun h=>?_)
 show((_:Nat):Int)≤((_:Nat):Int)
 exact Int.ofNat_le.2 h
attribute [local irreducible] y'0 VCg VCw VCx
theorem ZgW {u:Un} (hu:OkU u) (hU:z'8 u=true) (m r b:Int):okA u m r b=w'i m r b:=by
 by_cases h:(1≤m∧m≤3)∧(1≤r∧r≤4)
 ·have h0:=v'l hu hU h.1 h.2
  have h1:=h0.rt
  have h2:y'Q m r u.md 0 []=true:=(w'n.1 h1).2.2.2.2
  simp[okA,w'i,h1,h2,h.1.1,h.1.2,h.2.1,h.2.2]
 ·have h2:y'Q m r u.md 0 []=false:=by
   cases hq:y'Q m r u.md 0 []with
   |false=>rfl
   |true=>
    have:=(v'n.1 hq).1
    simp only[Zai,z'h,decide_eq_true_eq]at this
    omega
  have h3:w'i m r b=false:=by
   cases hq:w'i m r b with
   |false=>rfl
   |true=>
    simp only[w'i,z'h,decide_eq_true_eq]at hq
    omega
  rw[h3]
  simp[okA,h2]
theorem Zma (e:TypeId) (esz:Nat) (l:List D) (a:Nat×HC):cnS none e esz l a=0:=y'c a
theorem ZiW {g:G} {e:TypeId} {esz:Nat} {l:List D} {X Y:Heap} {x:Nat×HC} (h:x∈shp g e esz l X) (hx:x∈X→x∈Y):x∈shp g e esz l Y:=by
 cases g with
 |none=>exact hx h
 |some p=>
  rcases z'L.1 h with h|h
  ·exact z'L.2 (.inl h)
  ·exact z'e _ (hx h)
abbrev srH (bx b8 bt:Nat) (y:(Nat×Nat)×G×G×G) (z:G×Nat×Nat×List Int) (S:Spc Cf):Heap:=
 (bx,.cells 116 8 (seC bt (some y.1) y.2.1 y.2.2.1 y.2.2.2 S.cf S.pa S.ag S.ed.length))::(b8,.cells 34 6 spZ)::(y.1.1,.cells 43 (y.1.2*4) (x'I S.cf).flatten)::shp y.2.1 3 1 (S.pa.map iD) (shp y.2.2.1 3 1 (S.ag.map iD) (shp y.2.2.2 62 3 (Zat (edS S)).flatten (tbW bt z.1 z.2.1 z.2.2.1 (S.cf.map w's) z.2.2.2 [])))
structure Zp1 (y:(Nat×Nat)×G×G×G) (z:G×Nat×Nat×List Int) (S:Spc Cf):Prop where
 cf:S.cf.length≤y.1.2
 pa:gOk y.2.1 S.pa.length
 ag:gOk y.2.2.1 S.ag.length
 ed:gOk y.2.2.2 S.ed.length
 tb:ZgK (S.cf.map w's) z.2.2.2
 sl:z.2.2.2.length≤z.2.2.1
 tx:gOk z.1 (S.cf.map w's).length
theorem ZgD (u:Un) (hu:OkU u) (m r b:Int) (hU:z'8 u=true) (hA:w'i m r b=true) (hb:b≤1000):Pure Tryz.prog 38 [.agg (unC u),iD m,iD r,iD b] (.tup [.agg (spR u m r b),iD (x'b u m r b)]):=by
 have cs:=ZeK u hu
 have cs:Pure Tryz.prog 63 [.agg (unC u)] (.tup [.agg (cfC (y'E u)),iD 0]):=by rwa [show v'U u=y'E u by simp[v'U,hU],show v'T u=0 by simp[v'T,hU]]at cs
 have hA':=hA
 simp only[w'i,z'h,decide_eq_true_eq]at hA'
 have h0:=v'l hu hU hA'.1 hA'.2.1
 have ce:=Zes u hu (y'E u) h0.okC m r
 have cr:=Zer [] (by simp) m r u.md 0
 rw[ZeN]at cr
 have hokA:=ZgW hu hU m r b
 rw[hA]at hokA
 unfold ZhU at ce
 rw[h0.rt]at ce
 have h4:y'Q m r u.md 0 []=true:=by
  simp only[okA,z'h]at hokA
  exact hokA.2
 rw[h4]at cr
 refine Fun.fz ?_
 refine Fun.of T [.cell 8 34,.tmp 9] Tryz.func38 rfl Tryz.ntmps38 Tryz.results38 rfl (by kernel_rfl) ?_
 repeat' first|refine vb (t:=25) rfl rfl rfl rfl ?_|refine vs T rfl fun K hK=>?_;(try simp (disch:=omega) only[go_sem,Nat.reduceBEq,Nat.reduceAdd,Nat.reduceLeDiff,z'i]);(first|refine hK _ _ ?_;clear hK K|intro bq hbq;(try simp only[HB]at hbq);refine hK _ _ ?_;clear hK K|refine Op1.callp rfl rfl (cs) rfl ?_;refine hK _ _ ?_;clear hK K|refine Op1.callp rfl rfl (ce) rfl ?_;refine hK _ _ ?_;clear hK K|refine Op1.callp rfl rfl (Fun.argsW (cr) (by repeat (first|exact w't|refine z'E ?_ ?_;focus(first|exact Fz.refl _ _|exact y'v)))) rfl ?_;refine hK _ _ ?_;clear hK K|skip)|refine st rfl ?_|refine sc rfl ?_|refine nl ?_|refine gs rfl rfl ?_|with_reducible refine z's (fun hc=>?_) (fun hc=>?_)<;>(try simp only[decide_eq_true_eq,decide_eq_false_iff_not,gt_iff_lt,z'u]at hc)<;>(try(exfalso;omega))
 rename_i b8 _ _
 revert bq
 intro b10 hb10
 refine Op1.callq rfl rfl ZnE rfl (fun d Hp h=>?_)
 obtain⟨⟨bt,bs⟩,rfl,rfl⟩:=h
 refine hK _ _ ?_
 clear hK K
 simp only[tbW,shp,z'T,z'N]
 refine vo ?_
 refine VCo.nodup fun hn=>?_
 simp only[Heap.blocks,z'z,y't,x'A,z'L,not_or,x'H,not_false_eq_true,and_true]at hn
 obtain⟨⟨n1,n2,n3⟩,⟨n4,n5⟩,n6,_⟩:=hn
 refine ov ?_
 repeat' first|refine vs T rfl fun K hK=>?_;(try simp (disch:=omega) only[go_sem,Nat.reduceBEq,Nat.reduceAdd,Nat.reduceMul,Nat.reduceLeDiff]);(first|refine hK _ _ ?_;clear hK K|intro bq hbq;(try simp only[HB]at hbq);refine hK _ _ ?_;clear hK K|skip)|refine st rfl ?_|refine nl ?_
 rename Nat=>bx
 have hks:=ZfC h0
 have e1: ∀{α:Type} (x:α),fnA [] (w's (y'E u)) [] x=[x]:=fun x=>rfl
 have e2:tpX [] (w's (y'E u))=[w's (y'E u)]:=rfl
 refine Op1.callG (Hp:=ZdZ bx bt (none,bs,16,zs16) (none,none,none) none 0 [] [] [] []) (Hr:=[(b10,.cells 43 4 (cfC (y'E u))),(b8,.cells 34 6 spZ)]) rfl rfl rfl
  (Zh4 bx bt (none,bs,16,zs16) (none,none,none) none 0 [] [] [] [] ZoD rfl (by show zs16.length≤16;decide) (by show 0≤100000;decide) (fun x hx=>by cases hx) ⟨rfl,rfl,rfl⟩ (by decide) (by decide) (by decide) (w's (y'E u)) (by omega) (y'E u) (-1) (-1)) (by exact y'G _) (fun d H' h=>?_)
 obtain⟨⟨⟨gt,bs',cs',SL⟩,gc,gp,gb⟩,hz,rfl,rfl⟩:=h
 refine hK _ _ ?_
 clear hK K
 simp only[fnS,tpS,e1,e2]at hz⊢
 obtain⟨⟨z1,z2,z3⟩,z4,z5,z6⟩:=hz
 rcases gc with _|⟨bc,cc⟩
 ·cases z4
 repeat' first|refine vs T rfl fun K hK=>?_;(try simp (disch:=omega) only[go_sem]);(refine hK _ _ ?_;clear hK K)|refine st rfl ?_|refine nl ?_
 have hE0:x'b u m r b=match w'h u m r b with|some _=>0|none=>18:=by simp only[x'b,hU,hA];rfl
 have hS0:spR u m r b=match w'h u m r b with|some S=>spA S|none=>spC [] ⟨[],[],[]⟩ [] []:=by simp only[spR,hU,hA,w'C];rfl
 have hall:w'h u m r b=w'g (fun c=>y'6 u c m r) (fun c a=>actM u c m r a) b.toNat (b.toNat+1) 0 ⟨[y'E u],[-1],[-1],[]⟩:=rfl
 obtain⟨B,rfl⟩: ∃B:Nat,b=(B:Int):=⟨b.toNat,by omega⟩
 rw[z'o]at hall
 refine VC.loop {p:Spc Cf×Nat×((Nat×Nat)×G×G×G)×(G×Nat×Nat×List Int)//p.2.1≤p.1.cf.length∧p.1.cf.length≤B∧1≤p.1.cf.length∧(p.1.pa.length=p.1.cf.length∧p.1.ag.length=p.1.cf.length∧p.1.ed.length≤28*p.2.1)∧(∀c,c∈p.1.cf→Rt u c m r)∧
   w'h u m r B=w'g (fun c=>y'6 u c m r) (fun c a=>actM u c m r a) B (B+1-p.2.1) p.2.1 p.1∧Zp1 p.2.2.1 p.2.2.2 p.1}
  (fun p=>⟨z'M [(1,iD m),(2,iD r),(3,iD (B:Nat)),(4,.pt (unC u)),(8,pD b8),(13,pD bx),(14,bD false),(15,iD (p.1.2.1:Nat))],srH bx b8 bt p.1.2.2.1 p.1.2.2.2 p.1.1⟩)
  (fun p=>B+1-p.1.2.1) ⟨(⟨[y'E u],[-1],[-1],[]⟩,0,((bc,cc),gp,gb,none),(gt,bs',cs',SL)),by dsimp only;exact⟨z'6 _,by simp only[z'D,z'5];omega,z'v _,⟨rfl,rfl,by decide⟩,fun c hc=>by rw[x'g]at hc;rw[hc];exact h0,hall,⟨z4,z5,z6,rfl,z1,z2,z3⟩⟩⟩ ?_ ?_
 ·refine Weak.trans (Weak.perm (H':=(b10,.cells 43 4 (cfC (y'E u)))::srH bx b8 bt ((bc,cc),gp,gb,none) (gt,bs',cs',SL) ⟨[y'E u],[-1],[-1],[]⟩) (y'e fun a=>?_)) (y'S rfl ?_)
  ·simp only[ZdZ,srH,spW,tbW,y'l,z'2,y'a,y'c,z'T,Za9,y'g,Zma,z'5,z'z,y't,z'D]
   omega
  ·simp[sub,upd]
 rintro⟨⟨S,i,⟨⟨bc,cc⟩,gp,gb,gl⟩,⟨gt,bs,cs,SL⟩⟩,hi,hSb,hS1,⟨hpa,hag,hed⟩,hrt,hE,hO⟩
 dsimp only at hi hSb hS1 hpa hag hed hrt hE hO⊢
 refine VC.nodup fun hn=>?_
 simp only[Heap.blocks,z'z,x'A,z'L,not_or]at hn
 obtain⟨⟨q1,q2,_⟩,⟨q4,_⟩,_⟩:=hn
 rcases z'g i S.cf.length with hlt|hge
 case inr=>
  obtain rfl:i=S.cf.length:=by omega
  rw[Zhd (z'v _)]at hE
  have hG:=Zfe hE (by omega)
  have cb:=ZlD S.cf.length (edS S) (by rw[Zby];omega) (by omega) (ZkB hE (by omega)) hG
  rw[hS0,hE0,hE]
  have hfz:FzL (shp gl 62 3 (Zat (edS S)).flatten []) [.gs (some (bc,cc)) S.cf.length,.gs none 0,.gs none 0,.gs none 0,.gs gp S.pa.length,.gs gb S.ag.length,pD bt,v'p (edS S)] (seC bt (some (bc,cc)) gp gb gl S.cf S.pa S.ag S.ed.length):=
   z'E (Fz.refl _ _) (z'E (Fz.refl _ _) (z'E (Fz.refl _ _) (z'E (Fz.refl _ _) (z'E (Fz.refl _ _) (z'E (Fz.refl _ _) (z'E (Fz.refl _ _) (z'E (Zle hO.ed fun b cap e=>by subst e;exact x'k) w't)))))))
  refine VC.weak (Weak.trans (Weak.perm (H':=(bx,.cells 116 8 (seC bt (some (bc,cc)) gp gb gl S.cf S.pa S.ag S.ed.length))::(((b8,.cells 34 6 spZ)::(bc,.cells 43 (cc*4) (x'I S.cf).flatten)::shp gp 3 1 (S.pa.map iD) (shp gb 3 1 (S.ag.map iD) (tbW bt gt bs cs (S.cf.map w's) SL [])))++shp gl 62 3 (Zat (edS S)).flatten [])) (y'e fun a=>?_)) (Weak.fzc hfz)) ?_
  ·simp only[srH,tbW,y'l,z'2,y'a,y'c,z'T,Za9,y'g]
   omega
  repeat' first|refine VC.drawS (id:=26) (by kernel_rfl) ?_|refine vs T rfl fun K hK=>?_;(try simp (disch:=omega) only[go_sem,Nat.reduceBEq]);(refine hK _ _ ?_;clear hK K)|refine st rfl ?_|refine sc rfl ?_|refine nl ?_|with_reducible refine z's (fun hc=>?_) (fun hc=>?_)<;>(try simp only[decide_eq_true_eq,decide_eq_false_iff_not,z'u]at hc)<;>(try(exfalso;omega))
  refine VCd.groupX T (fun i=>[0,1,2,3,4,5,6,7,8,9,10,11,12,13,15,16,17].contains i) ((bx,.cells 116 8 [.gs (some (bc,cc)) S.cf.length,z'S (v'z S).st,z'S (v'z S).ag,z'S (v'z S).to,.gs gp S.pa.length,.gs gb S.ag.length,pD bt,v'p (edS S)])::(b8,.cells 34 6 spZ)::(bc,.cells 43 (cc*4) (x'I S.cf).flatten)::shp gp 3 1 (S.pa.map iD) (shp gb 3 1 (S.ag.map iD) (tbW bt gt bs cs (S.cf.map w's) SL []))) 18 19 19 rfl rfl rfl (by kernel_rfl) (by kernel_rfl) (by kernel_rfl) (Zmp (by kernel_rfl)) ?_
  repeat' first
   |(apply VCx.stepW T rfl rfl (by rfl) (by rfl);focus((try simp (disch:=omega) only[go_sem,Nat.reduceBEq,Nat.reduceAdd,Nat.reduceLeDiff,w64,z'o]);(first|exact rfl|exact⟨rfl,rfl⟩|(refine⟨?_,rfl⟩;omega)|(refine Op1.callp rfl rfl cb rfl ?_;exact⟨rfl,rfl⟩))))
   |(apply VCx.step T rfl rfl (by rfl);(case h1=>(simp (disch:=omega) only[go_sem,Nat.reduceBEq,Nat.reduceAdd,Nat.reduceLeDiff];first|exact rfl|exact⟨rfl,rfl⟩));(case h1'=>(simp (disch:=omega) only[go_sem,Nat.reduceBEq,Nat.reduceAdd,Nat.reduceLeDiff];try(first|exact rfl|exact⟨rfl,rfl⟩))))
   |(refine VCx.write T rfl rfl (by rfl) ?_ ?_;focus((try simp (disch:=omega) only[go_sem,Nat.reduceBEq,Nat.reduceAdd,Nat.reduceLeDiff]);first|exact rfl|omega|(refine⟨?_,?_⟩;focus omega;rfl)))
   |refine VCx.nil T ?_
  repeat' first|refine VCd.tail (f:=19) (by kernel_rfl) ?_;(try simp only[y'w,List.drop_nil])|refine vs T rfl fun K hK=>?_;(try simp (disch:=omega) only[go_sem,Nat.reduceBEq,Nat.reduceAdd,Nat.reduceLeDiff]);(refine hK _ _ ?_;clear hK K)|refine st rfl ?_|refine nl ?_|refine ov ?_
  unfold ngQ
  refine y'T T rfl (by(try simp (disch:=omega) only[hget_ne,hget_eq]);rfl) rfl rfl rfl (z'm _) (Zld hO.cf hO.pa hO.ag fun x hx=>?_)
  refine z'e _ (z'e _ ?_)
  rcases z'L.1 hx with hx|hx
  ·exact z'L.2 (.inl hx)
  ·exact z'e _ (ZiW hx fun hx=>ZiW hx fun hx=>by cases hx)
 have hat:=ZaH (d:=(default:Cf)) hlt
 have hR:=hrt _ (w'w (d:=(default:Cf)) hlt)
 have cm:=ZfJ hR
 rw[show B+1-i=(B-i)+1 by omega,Zij hat]at hE
 have hml:=Zcu (u:=u) (c:=S.cf.getD i default) (m:=m) (r:=r)
 generalize hM:y'6 u (S.cf.getD i default) m r=M at*
 repeat' first|refine vs T rfl fun K hK=>?_;(try simp (disch:=omega) only[go_sem,Nat.reduceBEq,Nat.reduceAdd,Nat.reduceLeDiff,Zaa,Zey,z'l,z'o]);(first|refine hK _ _ ?_;clear hK K|intro bq hbq;(try simp only[HB]at hbq);refine hK _ _ ?_;clear hK K|refine⟨?_,hK _ _ ?_⟩<;>clear hK K;focus(try omega)|refine Op1.callp rfl rfl (cm) rfl ?_;refine hK _ _ ?_;clear hK K)|refine st rfl ?_|refine sc rfl ?_|refine nl ?_|with_reducible refine z's (fun hc=>?_) (fun hc=>?_)<;>(try simp only[decide_eq_true_eq,decide_eq_false_iff_not,z'u]at hc)<;>(try(exfalso;omega))
 revert bq
 intro b16 hb16
 obtain⟨c,hcd⟩: ∃c,c=S.cf.getD i default:=⟨_,rfl⟩
 rw[←hcd]at hat hR hE cm
 refine VC.loop {p:Spc Cf×Nat×((Nat×Nat)×G×G×G)×(G×Nat×Nat×List Int)//p.2.1≤M.length∧p.1.cf.length≤B∧(i<p.1.cf.length∧p.1.cf.getD i default=c)∧(p.1.pa.length=p.1.cf.length∧p.1.ag.length=p.1.cf.length∧p.1.ed.length≤28*i+p.2.1)∧(∀c,c∈p.1.cf→Rt u c m r)∧
   w'h u m r B=(v'F (fun c a=>actM u c m r a) B i c (M.drop p.2.1) p.1).bind (w'g (fun c=>y'6 u c m r) (fun c a=>actM u c m r a) B (B-i) (i+1))∧Zp1 p.2.2.1 p.2.2.2 p.1}
  (fun p=>⟨z'M [(1,iD m),(2,iD r),(3,iD (B:Nat)),(4,.pt (unC u)),(8,pD b8),(13,pD bx),(14,bD false),(15,iD (i:Nat)),(16,pD b16),(88,z'S M),(89,iD (M.length:Nat)),(90,iD (p.1.2.1:Nat))],(b16,.cells 43 4 (cfC c))::srH bx b8 bt p.1.2.2.1 p.1.2.2.2 p.1.1⟩)
  (fun p=>M.length-p.1.2.1) ⟨(S,0,((bc,cc),gp,gb,gl),(gt,bs,cs,SL)),by dsimp only;exact⟨z'6 _,hSb,⟨hlt,hcd.symm⟩,⟨hpa,hag,by omega⟩,hrt,by rw[y'o];exact hE,hO⟩⟩ ?_ ?_
 ·refine z'G (by dsimp only;rw[hcd]) ?_
  simp[sub,upd]
 clear hat hlt hcd hE hrt hed hag hpa hS1 hSb hO hi q1 q2 q4 cm
 rintro⟨⟨S',k,⟨⟨bc,cc⟩,gp,gb,gl⟩,⟨gt,bs,cs,SL⟩⟩,hk,hSb,⟨hlt,hcd⟩,⟨hpa,hag,hed⟩,hrt,hE,hO⟩
 dsimp only at hk hSb hlt hcd hpa hag hed hrt hE hO⊢
 refine VC.nodup fun hn=>?_
 simp only[Heap.blocks,z'z,x'A,z'L,not_or]at hn
 obtain⟨⟨q5,q6,q7,_⟩,⟨q1,q2,_⟩,⟨q4,_⟩,_⟩:=hn
 rcases z'g k M.length with hkl|hge
 case inr=>
  obtain rfl:k=M.length:=by omega
  rw[List.drop_length]at hE
  simp only[v'F,x'U]at hE
  repeat' first|refine vs T rfl fun K hK=>?_;(try simp (disch:=omega) only[go_sem,Nat.reduceBEq,w64]);(refine hK _ _ ?_;clear hK K)|refine st rfl ?_|refine sc rfl ?_|refine nl ?_|with_reducible refine z's (fun hc=>?_) (fun hc=>?_)<;>(try simp only[decide_eq_true_eq,decide_eq_false_iff_not,z'u]at hc)<;>(try(exfalso;omega))
  refine⟨⟨(S',i+1,((bc,cc),gp,gb,gl),(gt,bs,cs,SL)),by dsimp only;exact⟨by omega,hSb,by omega,⟨hpa,hag,by omega⟩,hrt,by rw[hE,show B+1-(i+1)=B-i by omega],hO⟩⟩,y'S rfl ?_,by dsimp only;omega⟩
  simp[sub,upd]
 obtain⟨a,ha⟩: ∃a,a=M.getD k 0:=⟨_,rfl⟩
 have had:M.drop k=a::M.drop (k+1):=by rw[ha,x'c hkl,z'd,z'b hkl];rfl
 rw[had,Zht]at hE
 have ca:=ZnW hR a
 have hd:=hR.actM a
 have ce:=Zes u hu (actM u c m r a) hd.okC m r
 unfold ZhU at ce
 rw[hd.rt]at ce
 have hks:=ZfC hd
 generalize hD:actM u c m r a=d at*
 repeat' first|refine vs T rfl fun K hK=>?_;(try simp (disch:=omega) only[go_sem,Nat.reduceBEq,Nat.reduceAdd,Nat.reduceLeDiff,x'7,z'o, ←ha]);(first|refine hK _ _ ?_;clear hK K|intro bq hbq;(try simp only[HB]at hbq);refine hK _ _ ?_;clear hK K|refine⟨?_,hK _ _ ?_⟩<;>clear hK K;focus(try omega)|refine Op1.callp rfl rfl (ca) rfl ?_;refine hK _ _ ?_;clear hK K|refine Op1.callp rfl rfl (ce) rfl ?_;refine hK _ _ ?_;clear hK K|skip)|refine st rfl ?_|refine sc rfl ?_|refine nl ?_|with_reducible refine z's (fun hc=>?_) (fun hc=>?_)<;>(try simp only[decide_eq_true_eq,decide_eq_false_iff_not,z'u]at hc)<;>(try(exfalso;omega))
 revert bq
 intro b19 hb19
 have hX:w'u (S'.cf.map w's) (w's d)=w'u S'.cf d:=Zny (fun c hc=>ZkS (hrt c hc)) (ZkS hd)
 have hXl:(S'.cf.map w's).length=S'.cf.length:=z'p ..
 refine Op1.callG (Hp:=ZdZ bx bt (gt,bs,cs,SL) (some (bc,cc),gp,gb) gl S'.ed.length (S'.cf.map w's) S'.cf S'.pa S'.ag) (Hr:=(b19,.cells 43 4 (cfC d))::(b16,.cells 43 4 (cfC c))::(b8,.cells 34 6 spZ)::shp gl 62 3 (Zat (edS S')).flatten []) rfl rfl rfl
  (Zh4 bx bt (gt,bs,cs,SL) (some (bc,cc),gp,gb) gl S'.ed.length (S'.cf.map w's) S'.cf S'.pa S'.ag hO.tb hO.tx hO.sl (by omega) (fun x hx=>by obtain⟨c',hc',rfl⟩:=z'y.1 hx;have:=ZfC (hrt c' hc');omega) ⟨hO.cf,hO.pa,hO.ag⟩ (by omega) (by omega) (by omega) (w's d) (by omega) d (i:Nat) a) (y'e fun a=>?_) (fun d' H' h=>?_)
 ·simp only[ZdZ,srH,spW,tbW,y'l,z'2,y'a,y'c,z'T,Za9,y'g,cfC,spZ,seC]
  omega
 obtain⟨⟨⟨gt',bs',cs',SL'⟩,gc',gp',gb'⟩,hz,rfl,rfl⟩:=h
 refine hK _ _ ?_
 clear hK K
 cases hx:w'u S'.cf d with
 |some j=>
  rw[hx]at hX
  have hst:stepA (fun c a=>actM u c m r a) B i c S' a=some {S' with ed:=S'.ed++[(i,a,j)]}:=by
   unfold stepA
   simp only[hD]
   rw[show S'.cf.idxOf? d=some j from hx]
  rw[hst,x'U]at hE
  have f1: ∀{α:Type} (l:List α) (x:α),fnA (S'.cf.map w's) (w's d) l x=l:=fun l x=>by simp only[fnA,hX]
  have f2:tpX (S'.cf.map w's) (w's d)=S'.cf.map w's:=by simp only[tpX,hX]
  have f3:tpI (S'.cf.map w's) (w's d)=j:=by simp only[tpI,hX]
  simp only[fnS,tpS,f1,f2,f3]at hz⊢
  obtain⟨⟨z1,z2,z3⟩,z4,z5,z6⟩:=hz
  rcases gc' with _|⟨bc',cc'⟩
  ·have z4:S'.cf.length=0:=z4
   omega
  refine vo ?_
  refine VCo.weak (Weak.perm (H':=(b19,.cells 43 4 (cfC d))::(b16,.cells 43 4 (cfC c))::srH bx b8 bt ((bc',cc'),gp',gb',gl) (gt',bs',cs',SL') S') (y'e fun a=>?_)) ?_
  ·simp only[ZdZ,srH,spW,tbW,y'l,z'2,y'a,y'c,z'T,Za9,y'g,cfC,spZ,seC]
   omega
  refine VCo.nodup fun hn=>?_
  refine ov ?_
  repeat' first|refine vs T rfl fun K hK=>?_;(try simp (disch:=omega) only[go_sem,Nat.reduceBEq,Nat.reduceAdd,Nat.reduceMul,Nat.reduceLeDiff,w64]);(first|refine hK _ _ ?_;clear hK K|refine⟨_,_,_,_,(by repeat (first|exact Sp.here|apply Sp.cons|apply Sp.over)),?_,(by exact⟨rfl,rfl⟩),?_,fun g' hg'=>hK _ _ ?_⟩<;>clear hK K)|refine st rfl ?_|refine sc rfl ?_|refine nl ?_|with_reducible refine z's (fun hc=>?_) (fun hc=>?_)<;>(try simp only[decide_eq_true_eq,decide_eq_false_iff_not,gt_iff_lt,z'u]at hc)<;>(try(exfalso;omega))
  ·rw[ZcN,Zby]
  ·omega
  refine⟨⟨({S' with ed:=S'.ed++[(i,a,j)]},k+1,((bc',cc'),gp',gb',g'),(gt',bs',cs',SL')),by dsimp only;exact⟨by omega,hSb,⟨hlt,hcd⟩,⟨hpa,hag,by simp only[z'k,z'D,z'5];omega⟩,hrt,hE,⟨z4,z5,z6,by simp only[z'k,z'D,z'5];exact hg',z1,z2,z3⟩⟩⟩,y'S ?_ ?_,by dsimp only;omega⟩
  ·dsimp only
   simp only[srH,ZdN,Zb8,z'k,z'D,z'5]
   rfl
  ·simp[sub,upd]
 |none=>
  rw[hx]at hX
  have f1: ∀{α:Type} (l:List α) (x:α),fnA (S'.cf.map w's) (w's d) l x=l++[x]:=fun l x=>by simp only[fnA,hX]
  have f2:tpX (S'.cf.map w's) (w's d)=(S'.cf++[d]).map w's:=by simp only[tpX,hX,z'F,z'z,y't]
  have f3:tpI (S'.cf.map w's) (w's d)=S'.cf.length:=by simp only[tpI,hX,z'p]
  simp only[fnS,tpS,f1,f2,f3]at hz⊢
  obtain⟨⟨z1,z2,z3⟩,z4,z5,z6⟩:=hz
  rcases gc' with _|⟨bc',cc'⟩
  ·have z4:(S'.cf++[d]).length=0:=z4
   simp at z4
  refine vo ?_
  refine VCo.weak (Weak.perm (H':=(b19,.cells 43 4 (cfC d))::(b16,.cells 43 4 (cfC c))::srH bx b8 bt ((bc',cc'),gp',gb',gl) (gt',bs',cs',SL') ⟨S'.cf++[d],S'.pa++[(i:Int)],S'.ag++[a],S'.ed⟩) (y'e fun a=>?_)) ?_
  ·simp only[ZdZ,srH,spW,tbW,y'l,z'2,y'a,y'c,z'T,Za9,y'g,cfC,spZ,seC,edS]
   omega
  refine VCo.nodup fun hn=>?_
  refine ov ?_
  have hl1:(S'.cf++[d]).length=S'.cf.length+1:=by rw[z'k];rfl
  rcases z'g S'.cf.length B with hB|hB
  case inr=>
   have hst:stepA (fun c a=>actM u c m r a) B i c S' a=none:=by
    unfold stepA
    simp only[hD]
    rw[show S'.cf.idxOf? d=none from hx]
    simp only[decide_eq_false (Nat.not_lt.2 hB)]
   rw[hst]at hE
   simp only[Option.bind_none]at hE
   repeat' first|refine vs T rfl fun K hK=>?_;(try simp (disch:=omega) only[go_sem,Nat.reduceBEq,Nat.reduceAdd,Nat.reduceLeDiff,hl1]);(refine hK _ _ ?_;clear hK K)|refine st rfl ?_|refine sc rfl ?_|refine nl ?_|with_reducible refine z's (fun hc=>?_) (fun hc=>?_)<;>(try simp only[decide_eq_true_eq,decide_eq_false_iff_not,gt_iff_lt,z'u]at hc)<;>(try(exfalso;omega))
   rw[hS0,hE0,hE]
   unfold ngQ
   exact y'T T rfl (by(try simp (disch:=omega) only[hget_ne,hget_eq]);rfl) rfl rfl rfl (z'a _) Zgf
  have hst:stepA (fun c a=>actM u c m r a) B i c S' a=some ⟨S'.cf++[d],S'.pa++[(i:Int)],S'.ag++[a],S'.ed++[(i,a,S'.cf.length)]⟩:=by
   unfold stepA
   simp only[hD]
   rw[show S'.cf.idxOf? d=none from hx]
   simp only[decide_eq_true hB]
  rw[hst,x'U]at hE
  repeat' first|refine vs T rfl fun K hK=>?_;(try simp (disch:=omega) only[go_sem,Nat.reduceBEq,Nat.reduceAdd,Nat.reduceMul,Nat.reduceLeDiff,w64,hl1]);(first|refine hK _ _ ?_;clear hK K|refine⟨_,_,_,_,(by repeat (first|exact Sp.here|apply Sp.cons|apply Sp.over)),?_,(by exact⟨rfl,rfl⟩),?_,fun g' hg'=>hK _ _ ?_⟩<;>clear hK K)|refine st rfl ?_|refine sc rfl ?_|refine nl ?_|with_reducible refine z's (fun hc=>?_) (fun hc=>?_)<;>(try simp only[decide_eq_true_eq,decide_eq_false_iff_not,gt_iff_lt,z'u]at hc)<;>(try(exfalso;omega))
  ·rw[ZcN,Zby]
  ·omega
  refine⟨⟨(⟨S'.cf++[d],S'.pa++[(i:Int)],S'.ag++[a],S'.ed++[(i,a,S'.cf.length)]⟩,k+1,((bc',cc'),gp',gb',g'),(gt',bs',cs',SL')),?_⟩,y'S ?_ ?_,by dsimp only;omega⟩
  ·dsimp only
   refine⟨by omega,by omega,⟨by omega,?_⟩,⟨by simp[hpa],by simp[hag],by simp only[z'k,z'D,z'5];omega⟩,?_,hE,⟨z4,z5,z6,by simp only[z'k,z'D,z'5];exact hg',z1,z2,z3⟩⟩
   ·rw[←hcd,z'd,y'f hlt,z'd]
   ·intro x hx
    rcases y'x.1 hx with hx|hx
    ·exact hrt x hx
    ·rw[x'g]at hx;rw[hx];exact hd
  ·dsimp only
   simp only[srH,seC,ZdN,Zb8,z'k,z'D,z'5]
   rfl
  ·simp[sub,upd]
end Go.Proofs.YtomcmfbpmkklmaaGreat
