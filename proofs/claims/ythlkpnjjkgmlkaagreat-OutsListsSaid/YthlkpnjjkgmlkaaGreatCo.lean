/- Contracts: all that can be reached, by the program. No condition. -/
import Derived.Test.YthlkpnjjkgmlkaaGreatCj
import Derived.Test.YthlkpnjjkgmlkaaGreatCm
import Derived.Test.YthlkpnjjkgmlkaaGreatCc
import Derived.Test.YthlkpnjjkgmlkaaGreatDb
namespace Go.Proofs.YthlkpnjjkgmlkaaGreat
set_option maxHeartbeats 16000000
set_option linter.unusedSimpArgs false
set_option linter.unusedVariables false
set_option maxRecDepth 20000
open Go Go.Proofs Go.Vc
attribute [local irreducible] x'c VCg VCw VCx
theorem Zss {u:Un} (hu:OkU u) (hU:y'G u=true) (m r b:Int):okA u m r b=Zdy m r b:=by
 by_cases h:(1≤m∧m≤3)∧(1≤r∧r≤4)
 ·have h0:=Zgv hu hU h.1 h.2
  have h1:=h0.rt
  have h2:x'm m r u.md 0 []=true:=(x'E.1 h1).2.2.2.2
  simp[okA,Zdy,h1,h2,h.1.1,h.1.2,h.2.1,h.2.2]
 ·have h2:x'm m r u.md 0 []=false:=by
   cases hq:x'm m r u.md 0 []with
   |false=>rfl
   |true=>
    have:=(w'r.1 hq).1
    simp only[ZaH,z'c,decide_eq_true_eq]at this
    omega
  have h3:Zdy m r b=false:=by
   cases hq:Zdy m r b with
   |false=>rfl
   |true=>
    simp only[Zdy,z'c,decide_eq_true_eq]at hq
    omega
  rw[h3]
  simp[okA,h2]
theorem ZpR (e:TypeId) (esz:Nat) (l:List D) (a:Nat×HC):cnS none e esz l a=0:=y'V a
theorem Zlz {g:G} {e:TypeId} {esz:Nat} {l:List D} {X Y:Heap} {x:Nat×HC} (h:x∈shp g e esz l X) (hx:x∈X→x∈Y):x∈shp g e esz l Y:=by
 cases g with
 |none=>exact hx h
 |some p=>
  rcases z't.1 h with h|h
  ·exact z't.2 (.inl h)
  ·exact z'k _ (hx h)
abbrev srH (bx b8 bt:Nat) (y:(Nat×Nat)×G×G×G) (z:G×Nat×Nat×List Int) (S:Spc Cf):Heap:=
 (bx,.cells 253 8 (seC bt (some y.1) y.2.1 y.2.2.1 y.2.2.2 S.cf S.pa S.ag S.ed.length))::(b8,.cells 57 6 spZ)::(y.1.1,.cells 69 (y.1.2*4) (x'J S.cf).flatten)::shp y.2.1 3 1 (S.pa.map iD) (shp y.2.2.1 3 1 (S.ag.map iD) (shp y.2.2.2 149 3 (Zbd (edS S)).flatten (tbW bt z.1 z.2.1 z.2.2.1 (S.cf.map x'Q) z.2.2.2 [])))
structure Zs7 (y:(Nat×Nat)×G×G×G) (z:G×Nat×Nat×List Int) (S:Spc Cf):Prop where
 cf:S.cf.length≤y.1.2
 pa:gOk y.2.1 S.pa.length
 ag:gOk y.2.2.1 S.ag.length
 ed:gOk y.2.2.2 S.ed.length
 tb:Zh3 (S.cf.map x'Q) z.2.2.2
 sl:z.2.2.2.length≤z.2.2.1
 tx:gOk z.1 (S.cf.map x'Q).length
theorem Zoi (u:Un) (hu:OkU u) (m r b:Int) (hU:y'G u=true) (hA:Zdy m r b=true) (hb:b≤1000):Pure Tryz.prog 142 [.agg (unC u),iD m,iD r,iD b] (.tup [.agg (spR u m r b),iD (Zj9 u m r b)]):=by
 have cs:=Zoq u hu
 have cs:Pure Tryz.prog 212 [.agg (unC u)] (.tup [.agg (cfC (x'n u)),iD 0]):=by rwa [show ZgB u=x'n u by simp[ZgB,hU],show ZgC u=0 by simp[ZgC,hU]]at cs
 have hA':=hA
 simp only[Zdy,z'c,decide_eq_true_eq]at hA'
 have h0:=Zgv hu hU hA'.1 hA'.2.1
 have ce:=ZiS u hu (x'n u) h0.okC m r
 have cr:=Zjp [] (by simp) m r u.md 0
 rw[Zjg]at cr
 have hokA:=Zss hu hU m r b
 rw[hA]at hokA
 unfold Znn at ce
 rw[h0.rt]at ce
 have h4:x'm m r u.md 0 []=true:=by
  simp only[okA,z'c]at hokA
  exact hokA.2
 rw[h4]at cr
 refine Fun.fz ?_
 refine Fun.of T [.cell 8 57,.tmp 9] Tryz.func142 rfl Tryz.ntmps142 Tryz.results142 rfl (by kernel_rfl) ?_
 repeat' first|refine vb (t:=32) rfl rfl rfl rfl ?_|refine vs T rfl fun K hK=>?_;(try simp (disch:=omega) only[go_sem,Nat.reduceBEq,Nat.reduceAdd,Nat.reduceLeDiff,z'E]);(first|refine hK _ _ ?_;clear hK K|intro bq hbq;(try simp only[HB]at hbq);refine hK _ _ ?_;clear hK K|refine Op1.callp rfl rfl (cs) rfl ?_;refine hK _ _ ?_;clear hK K|refine Op1.callp rfl rfl (ce) rfl ?_;refine hK _ _ ?_;clear hK K|refine Op1.callp rfl rfl (Fun.argsW (cr) (by repeat (first|exact v'o|refine z'4 ?_ ?_;focus(first|exact Fz.refl _ _|exact w'v)))) rfl ?_;refine hK _ _ ?_;clear hK K|skip)|refine st rfl ?_|refine sc rfl ?_|refine nl ?_|refine gs rfl rfl ?_|with_reducible refine z'B (fun hc=>?_) (fun hc=>?_)<;>(try simp only[decide_eq_true_eq,decide_eq_false_iff_not,gt_iff_lt,z'F]at hc)<;>(try(exfalso;omega))
 rename_i b8 _ _
 revert bq
 intro b10 hb10
 refine Op1.callq rfl rfl ZsW rfl (fun d Hp h=>?_)
 obtain⟨⟨bt,bs⟩,rfl,rfl⟩:=h
 refine hK _ _ ?_
 clear hK K
 simp only[tbW,shp,z'N,z'H]
 refine vo ?_
 refine VCo.nodup fun hn=>?_
 simp only[Heap.blocks,z'm,z'8,y'F,z't,not_or,y'D,not_false_eq_true,and_true]at hn
 obtain⟨⟨n1,n2,n3⟩,⟨n4,n5⟩,n6,_⟩:=hn
 refine ov ?_
 repeat' first|refine vs T rfl fun K hK=>?_;(try simp (disch:=omega) only[go_sem,Nat.reduceBEq,Nat.reduceAdd,Nat.reduceMul,Nat.reduceLeDiff]);(first|refine hK _ _ ?_;clear hK K|intro bq hbq;(try simp only[HB]at hbq);refine hK _ _ ?_;clear hK K|skip)|refine st rfl ?_|refine nl ?_
 rename Nat=>bx
 have hks:=ZgU h0
 have e1: ∀{α:Type} (x:α),fnA [] (x'Q (x'n u)) [] x=[x]:=fun x=>rfl
 have e2:tpX [] (x'Q (x'n u))=[x'Q (x'n u)]:=rfl
 refine Op1.callG (Hp:=ZeO bx bt (none,bs,16,zs16) (none,none,none) none 0 [] [] [] []) (Hr:=[(b10,.cells 69 4 (cfC (x'n u))),(b8,.cells 57 6 spZ)]) rfl rfl rfl
  (Zkd bx bt (none,bs,16,zs16) (none,none,none) none 0 [] [] [] [] ZsU rfl (by show zs16.length≤16;decide) (by show 0≤100000;decide) (fun x hx=>by cases hx) ⟨rfl,rfl,rfl⟩ (by decide) (by decide) (by decide) (x'Q (x'n u)) (by omega) (x'n u) (-1) (-1)) (by exact z'9 _) (fun d H' h=>?_)
 obtain⟨⟨⟨gt,bs',cs',SL⟩,gc,gp,gb⟩,hz,rfl,rfl⟩:=h
 refine hK _ _ ?_
 clear hK K
 simp only[fnS,tpS,e1,e2]at hz⊢
 obtain⟨⟨z1,z2,z3⟩,z4,z5,z6⟩:=hz
 rcases gc with _|⟨bc,cc⟩
 ·cases z4
 repeat' first|refine vs T rfl fun K hK=>?_;(try simp (disch:=omega) only[go_sem]);(refine hK _ _ ?_;clear hK K)|refine st rfl ?_|refine nl ?_
 have hE0:Zj9 u m r b=match Zdx u m r b with|some _=>0|none=>18:=by simp only[Zj9,hU,hA];rfl
 have hS0:spR u m r b=match Zdx u m r b with|some S=>spA S|none=>spC [] ⟨[],[],[]⟩ [] []:=by simp only[spR,hU,hA,Bool.and_self];rfl
 have hall:Zdx u m r b=x'U (fun c=>Zbr u c m r) (fun c a=>actM u c m r a) b.toNat (b.toNat+1) 0 ⟨[x'n u],[-1],[-1],[]⟩:=rfl
 obtain⟨B,rfl⟩: ∃B:Nat,b=(B:Int):=⟨b.toNat,by omega⟩
 rw[z'q]at hall
 refine VC.loop {p:Spc Cf×Nat×((Nat×Nat)×G×G×G)×(G×Nat×Nat×List Int)//p.2.1≤p.1.cf.length∧p.1.cf.length≤B∧1≤p.1.cf.length∧(p.1.pa.length=p.1.cf.length∧p.1.ag.length=p.1.cf.length∧p.1.ed.length≤28*p.2.1)∧(∀c,c∈p.1.cf→Rt u c m r)∧
   Zdx u m r B=x'U (fun c=>Zbr u c m r) (fun c a=>actM u c m r a) B (B+1-p.2.1) p.2.1 p.1∧Zs7 p.2.2.1 p.2.2.2 p.1}
  (fun p=>⟨y'd [(1,iD m),(2,iD r),(3,iD (B:Nat)),(4,.pt (unC u)),(8,pD b8),(13,pD bx),(14,bD false),(15,iD (p.1.2.1:Nat))],srH bx b8 bt p.1.2.2.1 p.1.2.2.2 p.1.1⟩)
  (fun p=>B+1-p.1.2.1) ⟨(⟨[x'n u],[-1],[-1],[]⟩,0,((bc,cc),gp,gb,none),(gt,bs',cs',SL)),by dsimp only;exact⟨y'f _,by simp only[z'u,z'2];omega,z'f _,⟨rfl,rfl,by decide⟩,fun c hc=>by rw[z'V]at hc;rw[hc];exact h0,hall,⟨z4,z5,z6,rfl,z1,z2,z3⟩⟩⟩ ?_ ?_
 ·refine Weak.trans (Weak.perm (H':=(b10,.cells 69 4 (cfC (x'n u)))::srH bx b8 bt ((bc,cc),gp,gb,none) (gt,bs',cs',SL) ⟨[x'n u],[-1],[-1],[]⟩) (y'6 fun a=>?_)) (x'g rfl ?_)
  ·simp only[ZeO,srH,spW,tbW,x'q,y'I,y'N,y'V,z'N,Zan,x'j,ZpR,z'2,z'm,z'8,z'u]
   omega
  ·simp[sub,upd]
 rintro⟨⟨S,i,⟨⟨bc,cc⟩,gp,gb,gl⟩,⟨gt,bs,cs,SL⟩⟩,hi,hSb,hS1,⟨hpa,hag,hed⟩,hrt,hE,hO⟩
 dsimp only at hi hSb hS1 hpa hag hed hrt hE hO⊢
 refine VC.nodup fun hn=>?_
 simp only[Heap.blocks,z'm,y'F,z't,not_or]at hn
 obtain⟨⟨q1,q2,_⟩,⟨q4,_⟩,_⟩:=hn
 rcases z'j i S.cf.length with hlt|hge
 case inr=>
  obtain rfl:i=S.cf.length:=by omega
  rw[Zps (z'f _)]at hE
  have hG:=Zsb hE (by omega)
  have cb:=Zot S.cf.length (edS S) (by rw[ZfO];omega) (by omega) (Znm hE (by omega)) hG
  rw[hS0,hE0,hE]
  have hfz:FzL (shp gl 149 3 (Zbd (edS S)).flatten []) [.gs (some (bc,cc)) S.cf.length,.gs none 0,.gs none 0,.gs none 0,.gs gp S.pa.length,.gs gb S.ag.length,pD bt,ZbI (edS S)] (seC bt (some (bc,cc)) gp gb gl S.cf S.pa S.ag S.ed.length):=
   z'4 (Fz.refl _ _) (z'4 (Fz.refl _ _) (z'4 (Fz.refl _ _) (z'4 (Fz.refl _ _) (z'4 (Fz.refl _ _) (z'4 (Fz.refl _ _) (z'4 (Fz.refl _ _) (z'4 (Ztm hO.ed fun b cap e=>by subst e;exact v'g) v'o)))))))
  refine VC.weak (Weak.trans (Weak.perm (H':=(bx,.cells 253 8 (seC bt (some (bc,cc)) gp gb gl S.cf S.pa S.ag S.ed.length))::(((b8,.cells 57 6 spZ)::(bc,.cells 69 (cc*4) (x'J S.cf).flatten)::shp gp 3 1 (S.pa.map iD) (shp gb 3 1 (S.ag.map iD) (tbW bt gt bs cs (S.cf.map x'Q) SL [])))++shp gl 149 3 (Zbd (edS S)).flatten [])) (y'6 fun a=>?_)) (Weak.fzc hfz)) ?_
  ·simp only[srH,tbW,x'q,y'I,y'N,y'V,z'N,Zan,x'j]
   omega
  repeat' first|refine VC.drawS (id:=26) (by kernel_rfl) ?_|refine vs T rfl fun K hK=>?_;(try simp (disch:=omega) only[go_sem,Nat.reduceBEq]);(refine hK _ _ ?_;clear hK K)|refine st rfl ?_|refine sc rfl ?_|refine nl ?_|with_reducible refine z'B (fun hc=>?_) (fun hc=>?_)<;>(try simp only[decide_eq_true_eq,decide_eq_false_iff_not,z'F]at hc)<;>(try(exfalso;omega))
  refine VCd.groupX T (fun i=>[0,1,2,3,4,5,6,7,8,9,10,11,12,13,15,16,17].contains i) ((bx,.cells 253 8 [.gs (some (bc,cc)) S.cf.length,y'c (Zir S).st,y'c (Zir S).ag,y'c (Zir S).to,.gs gp S.pa.length,.gs gb S.ag.length,pD bt,ZbI (edS S)])::(b8,.cells 57 6 spZ)::(bc,.cells 69 (cc*4) (x'J S.cf).flatten)::shp gp 3 1 (S.pa.map iD) (shp gb 3 1 (S.ag.map iD) (tbW bt gt bs cs (S.cf.map x'Q) SL []))) 18 19 19 rfl rfl rfl (by kernel_rfl) (by kernel_rfl) (by kernel_rfl) (Zrk (by kernel_rfl)) ?_
  repeat' first
   |(apply VCx.stepW T rfl rfl (by rfl) (by rfl);focus((try simp (disch:=omega) only[go_sem,Nat.reduceBEq,Nat.reduceAdd,Nat.reduceLeDiff,w64,z'q]);(first|exact rfl|exact⟨rfl,rfl⟩|(refine⟨?_,rfl⟩;omega)|(refine Op1.callp rfl rfl cb rfl ?_;exact⟨rfl,rfl⟩))))
   |(apply VCx.step T rfl rfl (by rfl);(case h1=>(simp (disch:=omega) only[go_sem,Nat.reduceBEq,Nat.reduceAdd,Nat.reduceLeDiff];first|exact rfl|exact⟨rfl,rfl⟩));(case h1'=>(simp (disch:=omega) only[go_sem,Nat.reduceBEq,Nat.reduceAdd,Nat.reduceLeDiff];try(first|exact rfl|exact⟨rfl,rfl⟩))))
   |(refine VCx.write T rfl rfl (by rfl) ?_ ?_;focus((try simp (disch:=omega) only[go_sem,Nat.reduceBEq,Nat.reduceAdd,Nat.reduceLeDiff]);first|exact rfl|omega|(refine⟨?_,?_⟩;focus omega;rfl)))
   |refine VCx.nil T ?_
  repeat' first|refine VCd.tail (f:=19) (by kernel_rfl) ?_;(try simp only[y'j,List.drop_nil])|refine vs T rfl fun K hK=>?_;(try simp (disch:=omega) only[go_sem,Nat.reduceBEq,Nat.reduceAdd,Nat.reduceLeDiff]);(refine hK _ _ ?_;clear hK K)|refine st rfl ?_|refine nl ?_|refine ov ?_
  unfold ngQ
  refine w'N T rfl (by(try simp (disch:=omega) only[hget_ne,hget_eq]);rfl) rfl rfl rfl (z'w _) (Ztn hO.cf hO.pa hO.ag fun x hx=>?_)
  refine z'k _ (z'k _ ?_)
  rcases z't.1 hx with hx|hx
  ·exact z't.2 (.inl hx)
  ·exact z'k _ (Zlz hx fun hx=>Zlz hx fun hx=>by cases hx)
 have hat:=v'p (d:=(default:Cf)) hlt
 have hR:=hrt _ (w'R (d:=(default:Cf)) hlt)
 have cm:=ZqE hR
 rw[show B+1-i=(B-i)+1 by omega,Zq5 hat]at hE
 have hml:=Zo5 (u:=u) (c:=S.cf.getD i default) (m:=m) (r:=r)
 generalize hM:Zbr u (S.cf.getD i default) m r=M at*
 repeat' first|refine vs T rfl fun K hK=>?_;(try simp (disch:=omega) only[go_sem,Nat.reduceBEq,Nat.reduceAdd,Nat.reduceLeDiff,Zgi,Ztg,z'I,z'q]);(first|refine hK _ _ ?_;clear hK K|intro bq hbq;(try simp only[HB]at hbq);refine hK _ _ ?_;clear hK K|refine⟨?_,hK _ _ ?_⟩<;>clear hK K;focus(try omega)|refine Op1.callp rfl rfl (cm) rfl ?_;refine hK _ _ ?_;clear hK K)|refine st rfl ?_|refine sc rfl ?_|refine nl ?_|with_reducible refine z'B (fun hc=>?_) (fun hc=>?_)<;>(try simp only[decide_eq_true_eq,decide_eq_false_iff_not,z'F]at hc)<;>(try(exfalso;omega))
 revert bq
 intro b16 hb16
 obtain⟨c,hcd⟩: ∃c,c=S.cf.getD i default:=⟨_,rfl⟩
 rw[←hcd]at hat hR hE cm
 refine VC.loop {p:Spc Cf×Nat×((Nat×Nat)×G×G×G)×(G×Nat×Nat×List Int)//p.2.1≤M.length∧p.1.cf.length≤B∧(i<p.1.cf.length∧p.1.cf.getD i default=c)∧(p.1.pa.length=p.1.cf.length∧p.1.ag.length=p.1.cf.length∧p.1.ed.length≤28*i+p.2.1)∧(∀c,c∈p.1.cf→Rt u c m r)∧
   Zdx u m r B=(w'0 (fun c a=>actM u c m r a) B i c (M.drop p.2.1) p.1).bind (x'U (fun c=>Zbr u c m r) (fun c a=>actM u c m r a) B (B-i) (i+1))∧Zs7 p.2.2.1 p.2.2.2 p.1}
  (fun p=>⟨y'd [(1,iD m),(2,iD r),(3,iD (B:Nat)),(4,.pt (unC u)),(8,pD b8),(13,pD bx),(14,bD false),(15,iD (i:Nat)),(16,pD b16),(88,y'c M),(89,iD (M.length:Nat)),(90,iD (p.1.2.1:Nat))],(b16,.cells 69 4 (cfC c))::srH bx b8 bt p.1.2.2.1 p.1.2.2.2 p.1.1⟩)
  (fun p=>M.length-p.1.2.1) ⟨(S,0,((bc,cc),gp,gb,gl),(gt,bs,cs,SL)),by dsimp only;exact⟨y'f _,hSb,⟨hlt,hcd.symm⟩,⟨hpa,hag,by omega⟩,hrt,by rw[y'a];exact hE,hO⟩⟩ ?_ ?_
 ·refine z'S (by dsimp only;rw[hcd]) ?_
  simp[sub,upd]
 clear hat hlt hcd hE hrt hed hag hpa hS1 hSb hO hi q1 q2 q4 cm
 rintro⟨⟨S',k,⟨⟨bc,cc⟩,gp,gb,gl⟩,⟨gt,bs,cs,SL⟩⟩,hk,hSb,⟨hlt,hcd⟩,⟨hpa,hag,hed⟩,hrt,hE,hO⟩
 dsimp only at hk hSb hlt hcd hpa hag hed hrt hE hO⊢
 refine VC.nodup fun hn=>?_
 simp only[Heap.blocks,z'm,y'F,z't,not_or]at hn
 obtain⟨⟨q5,q6,q7,_⟩,⟨q1,q2,_⟩,⟨q4,_⟩,_⟩:=hn
 rcases z'j k M.length with hkl|hge
 case inr=>
  obtain rfl:k=M.length:=by omega
  rw[List.drop_length]at hE
  simp only[w'0,w'a]at hE
  repeat' first|refine vs T rfl fun K hK=>?_;(try simp (disch:=omega) only[go_sem,Nat.reduceBEq,w64]);(refine hK _ _ ?_;clear hK K)|refine st rfl ?_|refine sc rfl ?_|refine nl ?_|with_reducible refine z'B (fun hc=>?_) (fun hc=>?_)<;>(try simp only[decide_eq_true_eq,decide_eq_false_iff_not,z'F]at hc)<;>(try(exfalso;omega))
  refine⟨⟨(S',i+1,((bc,cc),gp,gb,gl),(gt,bs,cs,SL)),by dsimp only;exact⟨by omega,hSb,by omega,⟨hpa,hag,by omega⟩,hrt,by rw[hE,show B+1-(i+1)=B-i by omega],hO⟩⟩,x'g rfl ?_,by dsimp only;omega⟩
  simp[sub,upd]
 obtain⟨a,ha⟩: ∃a,a=M.getD k 0:=⟨_,rfl⟩
 have had:M.drop k=a::M.drop (k+1):=by rw[ha,y'H hkl,z'd,z'b hkl];rfl
 rw[had,Zpp]at hE
 have ca:=ZrL hR a
 have hd:=hR.actM a
 have ce:=ZiS u hu (actM u c m r a) hd.okC m r
 unfold Znn at ce
 rw[hd.rt]at ce
 have hks:=ZgU hd
 generalize hD:actM u c m r a=d at*
 repeat' first|refine vs T rfl fun K hK=>?_;(try simp (disch:=omega) only[go_sem,Nat.reduceBEq,Nat.reduceAdd,Nat.reduceLeDiff,Zf2,z'q, ←ha]);(first|refine hK _ _ ?_;clear hK K|intro bq hbq;(try simp only[HB]at hbq);refine hK _ _ ?_;clear hK K|refine⟨?_,hK _ _ ?_⟩<;>clear hK K;focus(try omega)|refine Op1.callp rfl rfl (ca) rfl ?_;refine hK _ _ ?_;clear hK K|refine Op1.callp rfl rfl (ce) rfl ?_;refine hK _ _ ?_;clear hK K|skip)|refine st rfl ?_|refine sc rfl ?_|refine nl ?_|with_reducible refine z'B (fun hc=>?_) (fun hc=>?_)<;>(try simp only[decide_eq_true_eq,decide_eq_false_iff_not,z'F]at hc)<;>(try(exfalso;omega))
 revert bq
 intro b19 hb19
 have hX:Zar (S'.cf.map x'Q) (x'Q d)=Zar S'.cf d:=Zse (fun c hc=>Zpt (hrt c hc)) (Zpt hd)
 have hXl:(S'.cf.map x'Q).length=S'.cf.length:=z'i ..
 refine Op1.callG (Hp:=ZeO bx bt (gt,bs,cs,SL) (some (bc,cc),gp,gb) gl S'.ed.length (S'.cf.map x'Q) S'.cf S'.pa S'.ag) (Hr:=(b19,.cells 69 4 (cfC d))::(b16,.cells 69 4 (cfC c))::(b8,.cells 57 6 spZ)::shp gl 149 3 (Zbd (edS S')).flatten []) rfl rfl rfl
  (Zkd bx bt (gt,bs,cs,SL) (some (bc,cc),gp,gb) gl S'.ed.length (S'.cf.map x'Q) S'.cf S'.pa S'.ag hO.tb hO.tx hO.sl (by omega) (fun x hx=>by obtain⟨c',hc',rfl⟩:=z'p.1 hx;have:=ZgU (hrt c' hc');omega) ⟨hO.cf,hO.pa,hO.ag⟩ (by omega) (by omega) (by omega) (x'Q d) (by omega) d (i:Nat) a) (y'6 fun a=>?_) (fun d' H' h=>?_)
 ·simp only[ZeO,srH,spW,tbW,x'q,y'I,y'N,y'V,z'N,Zan,x'j,cfC,spZ,seC]
  omega
 obtain⟨⟨⟨gt',bs',cs',SL'⟩,gc',gp',gb'⟩,hz,rfl,rfl⟩:=h
 refine hK _ _ ?_
 clear hK K
 cases hx:Zar S'.cf d with
 |some j=>
  rw[hx]at hX
  have hst:stepA (fun c a=>actM u c m r a) B i c S' a=some {S' with ed:=S'.ed++[(i,a,j)]}:=by
   unfold stepA
   simp only[hD]
   rw[show S'.cf.idxOf? d=some j from hx]
  rw[hst,w'a]at hE
  have f1: ∀{α:Type} (l:List α) (x:α),fnA (S'.cf.map x'Q) (x'Q d) l x=l:=fun l x=>by simp only[fnA,hX]
  have f2:tpX (S'.cf.map x'Q) (x'Q d)=S'.cf.map x'Q:=by simp only[tpX,hX]
  have f3:tpI (S'.cf.map x'Q) (x'Q d)=j:=by simp only[tpI,hX]
  simp only[fnS,tpS,f1,f2,f3]at hz⊢
  obtain⟨⟨z1,z2,z3⟩,z4,z5,z6⟩:=hz
  rcases gc' with _|⟨bc',cc'⟩
  ·have z4:S'.cf.length=0:=z4
   omega
  refine vo ?_
  refine VCo.weak (Weak.perm (H':=(b19,.cells 69 4 (cfC d))::(b16,.cells 69 4 (cfC c))::srH bx b8 bt ((bc',cc'),gp',gb',gl) (gt',bs',cs',SL') S') (y'6 fun a=>?_)) ?_
  ·simp only[ZeO,srH,spW,tbW,x'q,y'I,y'N,y'V,z'N,Zan,x'j,cfC,spZ,seC]
   omega
  refine VCo.nodup fun hn=>?_
  refine ov ?_
  repeat' first|refine vs T rfl fun K hK=>?_;(try simp (disch:=omega) only[go_sem,Nat.reduceBEq,Nat.reduceAdd,Nat.reduceMul,Nat.reduceLeDiff,w64]);(first|refine hK _ _ ?_;clear hK K|refine⟨_,_,_,_,(by repeat (first|exact Sp.here|apply Sp.cons|apply Sp.over)),?_,(by exact⟨rfl,rfl⟩),?_,fun g' hg'=>hK _ _ ?_⟩<;>clear hK K)|refine st rfl ?_|refine sc rfl ?_|refine nl ?_|with_reducible refine z'B (fun hc=>?_) (fun hc=>?_)<;>(try simp only[decide_eq_true_eq,decide_eq_false_iff_not,gt_iff_lt,z'F]at hc)<;>(try(exfalso;omega))
  ·rw[Zme,ZfO]
  ·omega
  refine⟨⟨({S' with ed:=S'.ed++[(i,a,j)]},k+1,((bc',cc'),gp',gb',g'),(gt',bs',cs',SL')),by dsimp only;exact⟨by omega,hSb,⟨hlt,hcd⟩,⟨hpa,hag,by simp only[z'h,z'u,z'2];omega⟩,hrt,hE,⟨z4,z5,z6,by simp only[z'h,z'u,z'2];exact hg',z1,z2,z3⟩⟩⟩,x'g ?_ ?_,by dsimp only;omega⟩
  ·dsimp only
   simp only[srH,Zj3,Zj2,z'h,z'u,z'2]
   rfl
  ·simp[sub,upd]
 |none=>
  rw[hx]at hX
  have f1: ∀{α:Type} (l:List α) (x:α),fnA (S'.cf.map x'Q) (x'Q d) l x=l++[x]:=fun l x=>by simp only[fnA,hX]
  have f2:tpX (S'.cf.map x'Q) (x'Q d)=(S'.cf++[d]).map x'Q:=by simp only[tpX,hX,z'v,z'm,z'8]
  have f3:tpI (S'.cf.map x'Q) (x'Q d)=S'.cf.length:=by simp only[tpI,hX,z'i]
  simp only[fnS,tpS,f1,f2,f3]at hz⊢
  obtain⟨⟨z1,z2,z3⟩,z4,z5,z6⟩:=hz
  rcases gc' with _|⟨bc',cc'⟩
  ·have z4:(S'.cf++[d]).length=0:=z4
   simp at z4
  refine vo ?_
  refine VCo.weak (Weak.perm (H':=(b19,.cells 69 4 (cfC d))::(b16,.cells 69 4 (cfC c))::srH bx b8 bt ((bc',cc'),gp',gb',gl) (gt',bs',cs',SL') ⟨S'.cf++[d],S'.pa++[(i:Int)],S'.ag++[a],S'.ed⟩) (y'6 fun a=>?_)) ?_
  ·simp only[ZeO,srH,spW,tbW,x'q,y'I,y'N,y'V,z'N,Zan,x'j,cfC,spZ,seC,edS]
   omega
  refine VCo.nodup fun hn=>?_
  refine ov ?_
  have hl1:(S'.cf++[d]).length=S'.cf.length+1:=by rw[z'h];rfl
  rcases z'j S'.cf.length B with hB|hB
  case inr=>
   have hst:stepA (fun c a=>actM u c m r a) B i c S' a=none:=by
    unfold stepA
    simp only[hD]
    rw[show S'.cf.idxOf? d=none from hx]
    simp only[decide_eq_false (Nat.not_lt.2 hB)]
   rw[hst]at hE
   simp only[Option.bind_none]at hE
   repeat' first|refine vs T rfl fun K hK=>?_;(try simp (disch:=omega) only[go_sem,Nat.reduceBEq,Nat.reduceAdd,Nat.reduceLeDiff,hl1]);(refine hK _ _ ?_;clear hK K)|refine st rfl ?_|refine sc rfl ?_|refine nl ?_|with_reducible refine z'B (fun hc=>?_) (fun hc=>?_)<;>(try simp only[decide_eq_true_eq,decide_eq_false_iff_not,gt_iff_lt,z'F]at hc)<;>(try(exfalso;omega))
   rw[hS0,hE0,hE]
   unfold ngQ
   exact w'N T rfl (by(try simp (disch:=omega) only[hget_ne,hget_eq]);rfl) rfl rfl rfl (z'a _) Zto
  have hst:stepA (fun c a=>actM u c m r a) B i c S' a=some ⟨S'.cf++[d],S'.pa++[(i:Int)],S'.ag++[a],S'.ed++[(i,a,S'.cf.length)]⟩:=by
   unfold stepA
   simp only[hD]
   rw[show S'.cf.idxOf? d=none from hx]
   simp only[decide_eq_true hB]
  rw[hst,w'a]at hE
  repeat' first|refine vs T rfl fun K hK=>?_;(try simp (disch:=omega) only[go_sem,Nat.reduceBEq,Nat.reduceAdd,Nat.reduceMul,Nat.reduceLeDiff,w64,hl1]);(first|refine hK _ _ ?_;clear hK K|refine⟨_,_,_,_,(by repeat (first|exact Sp.here|apply Sp.cons|apply Sp.over)),?_,(by exact⟨rfl,rfl⟩),?_,fun g' hg'=>hK _ _ ?_⟩<;>clear hK K)|refine st rfl ?_|refine sc rfl ?_|refine nl ?_|with_reducible refine z'B (fun hc=>?_) (fun hc=>?_)<;>(try simp only[decide_eq_true_eq,decide_eq_false_iff_not,gt_iff_lt,z'F]at hc)<;>(try(exfalso;omega))
  ·rw[Zme,ZfO]
  ·omega
  refine⟨⟨(⟨S'.cf++[d],S'.pa++[(i:Int)],S'.ag++[a],S'.ed++[(i,a,S'.cf.length)]⟩,k+1,((bc',cc'),gp',gb',g'),(gt',bs',cs',SL')),?_⟩,x'g ?_ ?_,by dsimp only;omega⟩
  ·dsimp only
   refine⟨by omega,by omega,⟨by omega,?_⟩,⟨by simp[hpa],by simp[hag],by simp only[z'h,z'u,z'2];omega⟩,?_,hE,⟨z4,z5,z6,by simp only[z'h,z'u,z'2];exact hg',z1,z2,z3⟩⟩
   ·rw[←hcd,z'd,y'l hlt,z'd]
   ·intro x hx
    rcases z'W.1 hx with hx|hx
    ·exact hrt x hx
    ·rw[z'V]at hx;rw[hx];exact hd
  ·dsimp only
   simp only[srH,seC,Zj3,Zj2,z'h,z'u,z'2]
   rfl
  ·simp[sub,upd]
end Go.Proofs.YthlkpnjjkgmlkaaGreat
