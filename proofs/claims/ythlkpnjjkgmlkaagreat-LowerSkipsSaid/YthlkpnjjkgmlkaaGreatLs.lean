/- Contracts: the reference's rows. No condition. -/
import Derived.Test.YthlkpnjjkgmlkaaGreatLq
namespace Go.Proofs.YthlkpnjjkgmlkaaGreat
set_option maxHeartbeats 16000000
set_option linter.unusedSimpArgs false
set_option linter.unusedVariables false
set_option maxRecDepth 20000
open Go Go.Proofs Go.Vc
attribute [local irreducible] x'r VCg VCw VCx
theorem Zhb {g:Option (Nat×Nat)} {a b:Nat} (h:a=b) (hg:gOk g a):gOk g b:=h▸hg
abbrev RK:=(Nat×List Ins×List D)×Option (Nat×Nat)
def Zsc (r:List Ins) (q:List D×Option (Nat×Nat)):Prop:=InsR r q.1∧gOk q.2 r.length
theorem ZkK {f:FuncId} {args:List D} {r:List Ins} (h:Fun Tryz.prog f args [] false (fun d H'=> ∃q:List D×Option (Nat×Nat),Zsc r q∧d= .gs q.2 r.length∧H'=shp q.2 104 7 q.1 [])):Pure Tryz.prog f args (.sl false 7 (y'Y r)):=by
 refine Fun.fz (h.mono ?_)
 rintro d H' ⟨⟨R,g⟩,⟨hI,hg⟩,rfl,rfl⟩
 exact ZgP (e:=104) (l:=R) (by rw[y'W]) hg (fun c cap hc=>by dsimp only at hc;subst hc;exact ZaH) (FzR.more (fun _ h=>by cases h) _ _ _ hI.1)
theorem Zqc (l:List Sm) (hO:OkS l) (hN:NoB l) (hR:NoR l) (regs locs:List ByteArray) (hr:regs.length≤1000) (hlc:locs.length≤1000) (n:Nat): ∀(a b h:Nat) (out:Int),b-a≤n→b≤l.length→wh l a b=true→h+szF l a b≤100000→
  Fun Tryz.prog 111 [x'E l,iD (a:Nat),iD (b:Nat),iD (h:Nat),iD out,x't regs,x't locs] [] false (fun d H'=> ∃q:List D×Option (Nat×Nat),Zsc (rwA l regs locs a b h out) q∧d= .gs q.2 (rwA l regs locs a b h out).length∧H'=shp q.2 104 7 q.1 []):=by
 induction n using Nat.strongRecOn with
 |_ n ih0=>
 have ih:=fun m (hm:m<n) a b h out h1 h2 h3 h4=>ZkK (ih0 m hm a b h out h1 h2 h3 h4)
 clear ih0
 intro a b h out hn hb hw hh
 have hl:=hO.1
 refine Fun.of T [.tmp 14] Tryz.func111 rfl Tryz.ntmps111 Tryz.results111 rfl (by kernel_rfl) ?_
 repeat' first|refine mq0 ?_|fail
 refine VC.loop {x:RK//a≤x.1.1∧(x.1.1≤b∨x.1.1=a)∧wh l x.1.1 b=true∧InsR x.1.2.1 x.1.2.2∧rwA l regs locs a b h out=x.1.2.1++rwA l regs locs x.1.1 b (h+x.1.2.1.length) out∧gOk x.2 x.1.2.1.length∧szF l a b=x.1.2.1.length+szF l x.1.1 b}
  (fun x=>⟨z'0 [(0,x'E l),(2,iD (b:Nat)),(3,iD (h:Nat)),(4,iD out),(5,x't regs),(6,x't locs),(15,.gs x.1.2 x.1.1.2.1.length),(16,iD (x.1.1.1:Nat))],shp x.1.2 104 7 x.1.1.2.2 []⟩) (fun x=>b-x.1.1.1) ⟨((a,[],[]),none),by dsimp only;exact⟨z'c _,.inr rfl,hw,InsR.nil,rfl,rfl,by rw[z'V];omega⟩⟩ ?_ ?_
 ·refine z'O rfl ?_
  simp[sub,upd]
 rintro⟨⟨⟨k,r,R⟩,g⟩,hk,hkb,hwk,hI,he,hg,hz⟩
 dsimp only at hk hkb hwk hI he hg hz⊢
 rcases z'g k b with hlt|hge
 case inr=>
  have e1:decide ((k:Int)<(b:Int))=false:=decide_eq_false (by omega)
  rw[v'N hge,z'u]at he
  rw[he]
  repeat' first|refine mq1 @e1 ?_|fail
  exact z'r T (z'n _) ⟨(R,g),⟨hI,hg⟩,rfl,rfl⟩
 have e1:decide ((k:Int)<(b:Int))=true:=decide_eq_true (by omega)
 obtain⟨g1,g2,g3,g4⟩:=v'l hlt hwk
 have hx:=hN _ (z'8 (d:=sm0) (show k<l.length by omega))
 have hxr:=hR _ (z'8 (d:=sm0) (show k<l.length by omega))
 have hE:=hO.2 _ (z'8 (d:=sm0) (show k<l.length by omega))
 have q1:mdS (l.getD k sm0) k=k+1+(l.getD k sm0).body.toNat:=rfl
 have q2:eeS (l.getD k sm0) k=k+1+(l.getD k sm0).body.toNat+(l.getD k sm0).els.toNat:=rfl
 have w3:IntKind.i64.wrap ((k:Int)+1)=(k:Int)+1:=w64 (by omega)
 have w4:IntKind.i64.wrap ((k:Int)+1+(l.getD k sm0).body)=(mdS (l.getD k sm0) k:Nat):=by rw[Zjc (by omega)];exact w64 (by omega)
 have w5:IntKind.i64.wrap (((mdS (l.getD k sm0) k:Nat):Int)+(l.getD k sm0).els)=(eeS (l.getD k sm0) k:Nat):=by rw[Zi6 (by omega)];exact w64 (by omega)
 have w6:IntKind.i64.wrap ((h:Int)+(r.length:Int))=((h+r.length:Nat):Int):=by rw[w64 (by omega)];omega
 have hs1:szF l k b=sz1 (l.getD k sm0)+(szF l (k+1) (mdS (l.getD k sm0) k)+(szF l (mdS (l.getD k sm0) k) (eeS (l.getD k sm0) k)+szF l (eeS (l.getD k sm0) k) b)):=by
  rw[x'v (m:=k+1) (by omega) (by omega),x'v (a:=k+1) (m:=mdS (l.getD k sm0) k) (by omega) (by omega),x'v (a:=mdS (l.getD k sm0) k) (m:=eeS (l.getD k sm0) k) (by omega) (by omega),x'5 (z'c k),x'L (z'c k),z'5]
 have c1:=ZhI (l.getD k sm0).e hE.1 regs hr
 have c2:=ZhI (l.getD k sm0).f hE.2 regs hr
 have c3:=ZkT l hl (k+1) (mdS (l.getD k sm0) k) (by omega)
 have c4:=ZkT l hl (mdS (l.getD k sm0) k) (eeS (l.getD k sm0) k) (by omega)
 rw[show((k+1:Nat):Int)=(k:Int)+1 by omega]at c3
 have d1:decide ((l.getD k sm0).reg=e0)=isE (l.getD k sm0).reg:=rfl
 have d2:decide ((l.getD k sm0).loc=e0)=isE (l.getD k sm0).loc:=rfl
 have hcons:=ZbI (regs:=regs) (locs:=locs) (h:=h+r.length) (out:=out) hlt hwk
 have stepK: ∀(R2:List D),InsR (rw1 (rwA l regs locs) l regs locs k (h+r.length) out) R2→ ∀g':Option (Nat×Nat),gOk g' (r++rw1 (rwA l regs locs) l regs locs k (h+r.length) out).length→ ∀(E:Nat→D) (H:Heap),(shp g' 104 7 (R++R2) []).Sublist H→
   Vc.sub E [(0,x'E l),(2,iD (b:Nat)),(3,iD (h:Nat)),(4,iD out),(5,x't regs),(6,x't locs),(15,.gs g' (r++rw1 (rwA l regs locs) l regs locs k (h+r.length) out).length),(16,iD (eeS (l.getD k sm0) k:Nat))]→
   ∃k':{x:RK//a≤x.1.1∧(x.1.1≤b∨x.1.1=a)∧wh l x.1.1 b=true∧InsR x.1.2.1 x.1.2.2∧rwA l regs locs a b h out=x.1.2.1++rwA l regs locs x.1.1 b (h+x.1.2.1.length) out∧gOk x.2 x.1.2.1.length∧szF l a b=x.1.2.1.length+szF l x.1.1 b},Weak ⟨E,H⟩ ⟨z'0 [(0,x'E l),(2,iD (b:Nat)),(3,iD (h:Nat)),(4,iD out),(5,x't regs),(6,x't locs),(15,.gs k'.1.2 k'.1.1.2.1.length),(16,iD (k'.1.1.1:Nat))],shp k'.1.2 104 7 k'.1.1.2.2 []⟩∧b-k'.1.1.1<b-k:=
  fun R2 h1 g' h2 E H h3 h4=>by
   have hlen:=ZdW (regs:=regs) (locs:=locs) (h:=h+r.length) (out:=out) (g:=rwA l regs locs) hx.1 hx.2 g1.2.1 (fun h o=>x'q l regs locs hN _ _ _ h o (z'c _) (by omega) g2) (fun h o=>x'q l regs locs hN _ _ _ h o (z'c _) (by omega) g3)
   refine⟨⟨((eeS (l.getD k sm0) k,r++rw1 (rwA l regs locs) l regs locs k (h+r.length) out,R++R2),g'),by
    dsimp only
    refine⟨by omega,by omega,g4,hI.app h1,?_,h2,?_⟩
    ·rw[he,hcons,z'M,z'e,Nat.add_assoc]
    ·rw[hz,z'e,hlen,x'v (a:=k) (m:=eeS (l.getD k sm0) k) (b:=b) (by omega) (by omega)];omega⟩,Weak.subH h3 h4,by dsimp only;omega⟩
 have w7:IntKind.i64.wrap (((h+r.length:Nat):Int)+1)=((h+r.length+1:Nat):Int):=by rw[w64 (by omega)];omega
 have w8:IntKind.i64.wrap (((h+r.length+1:Nat):Int)+((szF l (k+1) (mdS (l.getD k sm0) k):Nat):Int))=((h+r.length+1+szF l (k+1) (mdS (l.getD k sm0) k):Nat):Int):=by rw[w64 (by omega)];omega
 have w9:IntKind.i64.wrap (((h+r.length:Nat):Int)+2)=((h+r.length+2:Nat):Int):=by rw[w64 (by omega)];omega
 have wa:IntKind.i64.wrap (((h+r.length+2:Nat):Int)+((szF l (k+1) (mdS (l.getD k sm0) k):Nat):Int))=((h+r.length+2+szF l (k+1) (mdS (l.getD k sm0) k):Nat):Int):=by rw[w64 (by omega)];omega
 have wb:IntKind.i64.wrap (((h+r.length+2+szF l (k+1) (mdS (l.getD k sm0) k):Nat):Int)+((szF l (mdS (l.getD k sm0) k) (eeS (l.getD k sm0) k):Nat):Int))=((h+r.length+2+szF l (k+1) (mdS (l.getD k sm0) k)+szF l (mdS (l.getD k sm0) k) (eeS (l.getD k sm0) k):Nat):Int):=by rw[w64 (by omega)];omega
 have wc:IntKind.i64.wrap (((h+r.length:Nat):Int)+((szF l (k+1) (mdS (l.getD k sm0) k):Nat):Int))=((h+r.length+szF l (k+1) (mdS (l.getD k sm0) k):Nat):Int):=by rw[w64 (by omega)];omega
 have wd:=w6
 have hLA:=fun h o=>x'q l regs locs hN _ (k+1) (mdS (l.getD k sm0) k) h o (z'c _) (by omega) g2
 have hLB:=fun h o=>x'q l regs locs hN _ (mdS (l.getD k sm0) k) (eeS (l.getD k sm0) k) h o (z'c _) (by omega) g3
 have hFA:=fun h o=>(InsR.all (rwA l regs locs (k+1) (mdS (l.getD k sm0) k) h o)).2
 have hFB:=fun h o=>(InsR.all (rwA l regs locs (mdS (l.getD k sm0) k) (eeS (l.getD k sm0) k) h o)).2
 by_cases k1:(l.getD k sm0).kind=1
 ·have hq:=hxr (.inl k1)
  have hv:rw1 (rwA l regs locs) l regs locs k (h+r.length) out=[]:=by rw[rw1,if_pos k1]
  repeat' first|refine mq2 (mqt13 @e1 @y'M @smR.eq_1 @w3 @w4 @w5 @w6 @d1 @d2 @z'b @k1 @hq.1 @hq.2) (mqt4 c1 c2 c3 c4) ?_|refine mqn fun bq hbq=>?_|refine .wk ?_ ?_;focus(try omega)|fail
  refine stepK ([]) (by rw[hv];exact InsR.nil) g (by rw[hv];rw[z'u];exact hg) _ _ ?_ ?_
  ·rw[z'u];exact((z'n _).cons _).cons _
  ·simp[sub,upd,hv,hLA,hLB, -List.getD_eq_getElem?_getD]<;>omega
 by_cases k13:(l.getD k sm0).kind=13
 ·have hq:=hxr (.inr (.inr (.inr (.inr k13))))
  have hv:rw1 (rwA l regs locs) l regs locs k (h+r.length) out=[jpI out]:=by rw[rw1,if_neg k1,if_pos k13]
  have hsz:sz1 (l.getD k sm0)=1:=by rw[sz1,if_neg k1,if_neg (by omega),if_neg (by omega)]
  repeat' first|refine mq2 (mqt13 @e1 @y'M @smR.eq_1 @w3 @w4 @w5 @w6 @d1 @d2 @z'b @k13 @hq.1 @hq.2) (mqt4 c1 c2 c3 c4) ?_|refine mqn fun bq hbq=>?_|refine .wk ?_ ?_;focus(try omega)|refine vs T rfl fun K hK=>?_;(try simp (disch:=omega) only[go_sem,Nat.reduceBEq,Nat.reduceAdd,Nat.reduceMul,Nat.reduceLeDiff,e1,y'M,smR,w3,w4,w5,w6,d1,d2,z'b,z'H,Int.reduceBEq,k13,hq.1,hq.2]);(first|refine⟨_,_,_,_,(by repeat (first|exact Sp.here|apply Sp.cons)),?_,(by exact⟨rfl,rfl⟩),?_,fun g' hg'=>hK _ _ ?_⟩<;>clear hK K)|fail
  any_goals first
   |exact hI.2
   |omega
   |(simp only[z'e,z'q,z'V,hI.2,hFA,hFB,hLA,hLB];omega)
   |(simp only[hLA,hLB];omega)
  refine stepK ([iD 20,iD 0,iD 0,.gs none 0,.gs none 0,bD false,iD out]) (by rw[hv];exact InsR.jp out) g' (by rw[hv];rw[z'e];exact hg') _ _ ?_ ?_
  ·exact((z'n _).cons _).cons _
  ·simp[sub,upd,hv,hLA,hLB, -List.getD_eq_getElem?_getD]<;>omega
 by_cases k10:(l.getD k sm0).kind=10
 ·have hq:=hxr (.inr (.inl k10))
  by_cases hz0:(l.getD k sm0).els=0
  case pos=>
   have hv:rw1 (rwA l regs locs) l regs locs k (h+r.length) out=brI (cdT (l.getD k sm0).e regs) ((h+r.length+1+szF l (k+1) (mdS (l.getD k sm0) k):Nat):Int)::rwA l regs locs (k+1) (mdS (l.getD k sm0) k) (h+r.length+1) out:=by rw[rw1,if_neg k1,if_neg k13,if_pos k10,if_pos hz0]
   have hsz:sz1 (l.getD k sm0)=1:=by rw[sz1,if_neg k1,if_pos k10,if_neg (by omega)]
   have f0:((l.getD k sm0).els == 0)=true:=by rw[hz0];rfl
   have c5:=ih ((mdS (l.getD k sm0) k)-(k+1)) (by omega) (k+1) (mdS (l.getD k sm0) k) (h+r.length+1) (out) (z'c _) (by omega) g2 (by omega)
   rw[show((k+1:Nat):Int)=(k:Int)+1 by omega]at c5
   repeat' first|refine mq2 (mqt17 @e1 @y'M @smR.eq_1 @w3 @w4 @w5 @w6 @w7 @w8 @d1 @d2 @y'W @z'b @k10 @hq.1 @hq.2 @f0) (mqt5 c1 c2 c3 c4 c5) ?_|refine mqn fun bq hbq=>?_|refine .wk ?_ ?_;focus(try omega)|refine vs T rfl fun K hK=>?_;(try simp (disch:=omega) only[go_sem,Nat.reduceBEq,Nat.reduceAdd,Nat.reduceMul,Nat.reduceLeDiff,e1,y'M,smR,w3,w4,w5,w6,w7,w8,d1,d2,y'W,z'b,z'H,Int.reduceBEq,k10,hq.1,hq.2,f0]);(first|refine⟨_,_,_,_,(by repeat (first|exact Sp.here|apply Sp.cons)),?_,(by exact⟨rfl,rfl⟩),?_,fun g' hg'=>hK _ _ ?_⟩<;>clear hK K)|fail
   any_goals first
    |exact hI.2
    |omega
    |(simp only[z'e,z'q,z'V,hI.2,hFA,hFB,hLA,hLB];omega)
    |(simp only[hLA,hLB];omega)
   refine stepK ([iD 21,iD 0,iD 0,y'0 (cdT (l.getD k sm0).e regs),.gs none 0,bD false,iD ((h+r.length+1+szF l (k+1) (mdS (l.getD k sm0) k):Nat):Int)]++(y'Y (rwA l regs locs (k+1) (mdS (l.getD k sm0) k) (h+r.length+1) out)).flatten) (by rw[hv];exact(InsR.br _ _).app (InsR.all _)) g' (by rw[hv];simp only[z'e,z'q,z'V,hLA,hLB]at hg'⊢;refine Zhb (by omega) hg') _ _ ?_ ?_
   ·simp only[z'M];exact((z'n _).cons _).cons _
   ·simp[sub,upd,hv,hLA,hLB, -List.getD_eq_getElem?_getD]<;>omega
  case neg=>
   have hv:rw1 (rwA l regs locs) l regs locs k (h+r.length) out=(brI (cdT (l.getD k sm0).e regs) ((h+r.length+2+szF l (k+1) (mdS (l.getD k sm0) k):Nat):Int)::rwA l regs locs (k+1) (mdS (l.getD k sm0) k) (h+r.length+1) out)++(jpI ((h+r.length+2+szF l (k+1) (mdS (l.getD k sm0) k)+szF l (mdS (l.getD k sm0) k) (eeS (l.getD k sm0) k):Nat):Int)::rwA l regs locs (mdS (l.getD k sm0) k) (eeS (l.getD k sm0) k) (h+r.length+2+szF l (k+1) (mdS (l.getD k sm0) k)) out):=by rw[rw1,if_neg k1,if_neg k13,if_pos k10,if_neg hz0]
   have hsz:sz1 (l.getD k sm0)=2:=by rw[sz1,if_neg k1,if_pos k10,if_pos (by omega)]
   have f0:((l.getD k sm0).els == 0)=false:=beq_eq_false_iff_ne.2 hz0
   have c5:=ih ((mdS (l.getD k sm0) k)-(k+1)) (by omega) (k+1) (mdS (l.getD k sm0) k) (h+r.length+1) (out) (z'c _) (by omega) g2 (by omega)
   rw[show((k+1:Nat):Int)=(k:Int)+1 by omega]at c5
   have c6:=ih ((eeS (l.getD k sm0) k)-(mdS (l.getD k sm0) k)) (by omega) (mdS (l.getD k sm0) k) (eeS (l.getD k sm0) k) (h+r.length+2+szF l (k+1) (mdS (l.getD k sm0) k)) (out) (z'c _) (by omega) g3 (by omega)
   repeat' first|refine mq2 (mqt19 @e1 @y'M @smR.eq_1 @w3 @w4 @w5 @w6 @w7 @w9 @wa @wb @d1 @d2 @y'W @z'b @k10 @hq.1 @hq.2 @f0) (mqt6 c1 c2 c3 c4 c5 c6) ?_|refine mqn fun bq hbq=>?_|refine .wk ?_ ?_;focus(try omega)|refine vs T rfl fun K hK=>?_;(try simp (disch:=omega) only[go_sem,Nat.reduceBEq,Nat.reduceAdd,Nat.reduceMul,Nat.reduceLeDiff,e1,y'M,smR,w3,w4,w5,w6,w7,w9,wa,wb,d1,d2,y'W,z'b,z'H,Int.reduceBEq,k10,hq.1,hq.2,f0]);(first|refine⟨_,_,_,_,(by repeat (first|exact Sp.here|apply Sp.cons)),?_,(by exact⟨rfl,rfl⟩),?_,fun g' hg'=>hK _ _ ?_⟩<;>clear hK K)|fail
   any_goals first
    |exact hI.2
    |omega
    |(simp only[z'e,z'q,z'V,hI.2,hFA,hFB,hLA,hLB];omega)
    |(simp only[hLA,hLB];omega)
   refine stepK (([iD 21,iD 0,iD 0,y'0 (cdT (l.getD k sm0).e regs),.gs none 0,bD false,iD ((h+r.length+2+szF l (k+1) (mdS (l.getD k sm0) k):Nat):Int)]++(y'Y (rwA l regs locs (k+1) (mdS (l.getD k sm0) k) (h+r.length+1) out)).flatten)++([iD 20,iD 0,iD 0,.gs none 0,.gs none 0,bD false,iD ((h+r.length+2+szF l (k+1) (mdS (l.getD k sm0) k)+szF l (mdS (l.getD k sm0) k) (eeS (l.getD k sm0) k):Nat):Int)]++(y'Y (rwA l regs locs (mdS (l.getD k sm0) k) (eeS (l.getD k sm0) k) (h+r.length+2+szF l (k+1) (mdS (l.getD k sm0) k)) out)).flatten)) (by rw[hv];exact((InsR.br _ _).app (InsR.all _)).app ((InsR.jp _).app (InsR.all _))) g' (by rw[hv];simp only[z'e,z'q,z'V,hLA,hLB]at hg'⊢;refine Zhb (by omega) hg') _ _ ?_ ?_
   ·simp only[z'M];exact((z'n _).cons _).cons _
   ·simp[sub,upd,hv,hLA,hLB, -List.getD_eq_getElem?_getD]<;>omega
 by_cases k11:(l.getD k sm0).kind=11
 ·have hq:=hxr (.inr (.inr (.inl k11)))
  have hv:rw1 (rwA l regs locs) l regs locs k (h+r.length) out=brI (cdT (l.getD k sm0).e regs) ((h+r.length+2+szF l (k+1) (mdS (l.getD k sm0) k):Nat):Int)::(rwA l regs locs (k+1) (mdS (l.getD k sm0) k) (h+r.length+1) ((h+r.length+2+szF l (k+1) (mdS (l.getD k sm0) k):Nat):Int)++[jpI ((h+r.length:Nat):Int)]):=by rw[rw1,if_neg k1,if_neg k13,if_neg k10,if_pos k11]
  have hsz:sz1 (l.getD k sm0)=2:=by rw[sz1,if_neg k1,if_neg k10,if_pos k11]
  have c5:=ih ((mdS (l.getD k sm0) k)-(k+1)) (by omega) (k+1) (mdS (l.getD k sm0) k) (h+r.length+1) (((h+r.length+2+szF l (k+1) (mdS (l.getD k sm0) k):Nat):Int)) (z'c _) (by omega) g2 (by omega)
  rw[show((k+1:Nat):Int)=(k:Int)+1 by omega]at c5
  repeat' first|refine mq2 (mqt17 @e1 @y'M @smR.eq_1 @w3 @w4 @w5 @w6 @w7 @w9 @wa @d1 @d2 @y'W @z'b @k11 @hq.1 @hq.2) (mqt5 c1 c2 c3 c4 c5) ?_|refine mqn fun bq hbq=>?_|refine .wk ?_ ?_;focus(try omega)|refine vs T rfl fun K hK=>?_;(try simp (disch:=omega) only[go_sem,Nat.reduceBEq,Nat.reduceAdd,Nat.reduceMul,Nat.reduceLeDiff,e1,y'M,smR,w3,w4,w5,w6,w7,w9,wa,d1,d2,y'W,z'b,z'H,Int.reduceBEq,k11,hq.1,hq.2]);(first|refine⟨_,_,_,_,(by repeat (first|exact Sp.here|apply Sp.cons)),?_,(by exact⟨rfl,rfl⟩),?_,fun g' hg'=>hK _ _ ?_⟩<;>clear hK K)|fail
  any_goals first
   |exact hI.2
   |omega
   |(simp only[z'e,z'q,z'V,hI.2,hFA,hFB,hLA,hLB];omega)
   |(simp only[hLA,hLB];omega)
  refine stepK ([iD 21,iD 0,iD 0,y'0 (cdT (l.getD k sm0).e regs),.gs none 0,bD false,iD ((h+r.length+2+szF l (k+1) (mdS (l.getD k sm0) k):Nat):Int)]++((y'Y (rwA l regs locs (k+1) (mdS (l.getD k sm0) k) (h+r.length+1) ((h+r.length+2+szF l (k+1) (mdS (l.getD k sm0) k):Nat):Int))).flatten++[iD 20,iD 0,iD 0,.gs none 0,.gs none 0,bD false,iD ((h+r.length:Nat):Int)])) (by rw[hv];exact(InsR.br _ _).app ((InsR.all _).app (InsR.jp _))) g' (by rw[hv];simp only[z'e,z'q,z'V,hLA,hLB]at hg'⊢;refine Zhb (by omega) hg') _ _ ?_ ?_
  ·simp only[z'M];exact((z'n _).cons _).cons _
  ·simp[sub,upd,hv,hLA,hLB, -List.getD_eq_getElem?_getD]<;>omega
 by_cases k12:(l.getD k sm0).kind=12
 ·have hq:=hxr (.inr (.inr (.inr (.inl k12))))
  have hv:rw1 (rwA l regs locs) l regs locs k (h+r.length) out=rwA l regs locs (k+1) (mdS (l.getD k sm0) k) (h+r.length) ((h+r.length+1+szF l (k+1) (mdS (l.getD k sm0) k):Nat):Int)++[jpI ((h+r.length:Nat):Int)]:=by rw[rw1,if_neg k1,if_neg k13,if_neg k10,if_neg k11,if_pos k12]
  have hsz:sz1 (l.getD k sm0)=1:=by rw[sz1,if_neg k1,if_neg k10,if_neg k11]
  have c5:=ih ((mdS (l.getD k sm0) k)-(k+1)) (by omega) (k+1) (mdS (l.getD k sm0) k) (h+r.length) (((h+r.length+1+szF l (k+1) (mdS (l.getD k sm0) k):Nat):Int)) (z'c _) (by omega) g2 (by omega)
  rw[show((k+1:Nat):Int)=(k:Int)+1 by omega]at c5
  repeat' first|refine mq2 (mqt16 @e1 @y'M @smR.eq_1 @w3 @w4 @w5 @w6 @w7 @w8 @d1 @d2 @y'W @z'b @k12 @hq.1 @hq.2) (mqt5 c1 c2 c3 c4 c5) ?_|refine mqn fun bq hbq=>?_|refine .wk ?_ ?_;focus(try omega)|refine vs T rfl fun K hK=>?_;(try simp (disch:=omega) only[go_sem,Nat.reduceBEq,Nat.reduceAdd,Nat.reduceMul,Nat.reduceLeDiff,e1,y'M,smR,w3,w4,w5,w6,w7,w8,d1,d2,y'W,z'b,z'H,Int.reduceBEq,k12,hq.1,hq.2]);(first|refine⟨_,_,_,_,(by repeat (first|exact Sp.here|apply Sp.cons)),?_,(by exact⟨rfl,rfl⟩),?_,fun g' hg'=>hK _ _ ?_⟩<;>clear hK K)|fail
  any_goals first
   |exact hI.2
   |omega
   |(simp only[z'e,z'q,z'V,hI.2,hFA,hFB,hLA,hLB];omega)
   |(simp only[hLA,hLB];omega)
  refine stepK ((y'Y (rwA l regs locs (k+1) (mdS (l.getD k sm0) k) (h+r.length) ((h+r.length+1+szF l (k+1) (mdS (l.getD k sm0) k):Nat):Int))).flatten++[iD 20,iD 0,iD 0,.gs none 0,.gs none 0,bD false,iD ((h+r.length:Nat):Int)]) (by rw[hv];exact(InsR.all _).app (InsR.jp _)) g' (by rw[hv];simp only[z'e,z'q,z'V,hLA,hLB]at hg'⊢;refine Zhb (by omega) hg') _ _ ?_ ?_
  ·simp only[z'M];exact((z'n _).cons _).cons _
  ·simp[sub,upd,hv,hLA,hLB, -List.getD_eq_getElem?_getD]<;>omega
 have c5:=x'7 regs (by omega) (l.getD k sm0).reg
 have c6:=x'7 locs (by omega) (l.getD k sm0).loc
 have hsz:sz1 (l.getD k sm0)=1:=by rw[sz1,if_neg k1,if_neg k10,if_neg k11]
 have hv:rw1 (rwA l regs locs) l regs locs k (h+r.length) out=[w'1 regs locs (l.getD k sm0)]:=by rw[rw1,if_neg k1,if_neg k13,if_neg k10,if_neg k11,if_neg k12]
 have f1:((l.getD k sm0).kind == 1)=false:=beq_eq_false_iff_ne.2 k1
 have f2:((l.getD k sm0).kind == 13)=false:=beq_eq_false_iff_ne.2 k13
 have f3:((l.getD k sm0).kind == 10)=false:=beq_eq_false_iff_ne.2 k10
 have f4:((l.getD k sm0).kind == 11)=false:=beq_eq_false_iff_ne.2 k11
 have f5:((l.getD k sm0).kind == 12)=false:=beq_eq_false_iff_ne.2 k12
 cases hrg:isE (l.getD k sm0).reg with
 |true=>
  cases hlg:isE (l.getD k sm0).loc with
  |true=>
   have hp:w'1 regs locs (l.getD k sm0)=⟨(l.getD k sm0).kind,0,0,cdT (l.getD k sm0).e regs,cdT (l.getD k sm0).f regs,(l.getD k sm0).ne,0⟩:=by rw[w'1,hrg,hlg];rfl
   repeat' first|refine mq2 (mqt17 @e1 @y'M @smR.eq_1 @w3 @w4 @w5 @w6 @d1 @d2 @z'b @hrg @hlg @f1 @f2 @f3 @f4 @f5) (mqt4 c1 c2 c3 c4) ?_|refine mqn fun bq hbq=>?_|refine .wk ?_ ?_;focus(try omega)|refine vs T rfl fun K hK=>?_;(try simp (disch:=omega) only[go_sem,Nat.reduceBEq,Nat.reduceAdd,Nat.reduceMul,Nat.reduceLeDiff,e1,y'M,smR,w3,w4,w5,w6,d1,d2,z'b,z'H,hrg,hlg,f1,f2,f3,f4,f5]);(first|refine⟨_,_,_,_,(by repeat (first|exact Sp.here|apply Sp.cons)),?_,(by exact⟨rfl,rfl⟩),?_,fun g' hg'=>hK _ _ ?_⟩<;>clear hK K)|fail
   any_goals first
    |exact hI.2
    |omega
    |(simp only[z'e,z'q,z'V,hI.2,hFA,hFB,hLA,hLB];omega)
    |(simp only[hLA,hLB];omega)
   refine stepK (insR (w'1 regs locs (l.getD k sm0))) (by rw[hv];exact InsR.pl _) g' (by rw[hv,z'e];exact hg') _ _ ?_ ?_
   ·rw[hp];exact((z'n _).cons _).cons _
   ·simp[sub,upd,hv, -List.getD_eq_getElem?_getD]
  |false=>
   have hp:w'1 regs locs (l.getD k sm0)=⟨(l.getD k sm0).kind,0,ixF locs (l.getD k sm0).loc,cdT (l.getD k sm0).e regs,cdT (l.getD k sm0).f regs,(l.getD k sm0).ne,0⟩:=by rw[w'1,hrg,hlg];rfl
   repeat' first|refine mq2 (mqt17 @e1 @y'M @smR.eq_1 @w3 @w4 @w5 @w6 @d1 @d2 @z'b @hrg @hlg @f1 @f2 @f3 @f4 @f5) (mqt5 c1 c2 c3 c4 c6) ?_|refine mqn fun bq hbq=>?_|refine .wk ?_ ?_;focus(try omega)|refine vs T rfl fun K hK=>?_;(try simp (disch:=omega) only[go_sem,Nat.reduceBEq,Nat.reduceAdd,Nat.reduceMul,Nat.reduceLeDiff,e1,y'M,smR,w3,w4,w5,w6,d1,d2,z'b,z'H,z'P,hrg,hlg,f1,f2,f3,f4,f5]);(first|refine⟨_,_,_,_,(by repeat (first|exact Sp.here|apply Sp.cons)),?_,(by exact⟨rfl,rfl⟩),?_,fun g' hg'=>hK _ _ ?_⟩<;>clear hK K)|fail
   any_goals first
    |exact hI.2
    |omega
    |(simp only[z'e,z'q,z'V,hI.2,hFA,hFB,hLA,hLB];omega)
    |(simp only[hLA,hLB];omega)
   refine stepK (insR (w'1 regs locs (l.getD k sm0))) (by rw[hv];exact InsR.pl _) g' (by rw[hv,z'e];exact hg') _ _ ?_ ?_
   ·rw[hp];exact((z'n _).cons _).cons _
   ·simp[sub,upd,hv, -List.getD_eq_getElem?_getD]
 |false=>
  cases hlg:isE (l.getD k sm0).loc with
  |true=>
   have hp:w'1 regs locs (l.getD k sm0)=⟨(l.getD k sm0).kind,ixF regs (l.getD k sm0).reg,0,cdT (l.getD k sm0).e regs,cdT (l.getD k sm0).f regs,(l.getD k sm0).ne,0⟩:=by rw[w'1,hrg,hlg];rfl
   repeat' first|refine mq2 (mqt17 @e1 @y'M @smR.eq_1 @w3 @w4 @w5 @w6 @d1 @d2 @z'b @hrg @hlg @f1 @f2 @f3 @f4 @f5) (mqt5 c1 c2 c3 c4 c5) ?_|refine mqn fun bq hbq=>?_|refine .wk ?_ ?_;focus(try omega)|refine vs T rfl fun K hK=>?_;(try simp (disch:=omega) only[go_sem,Nat.reduceBEq,Nat.reduceAdd,Nat.reduceMul,Nat.reduceLeDiff,e1,y'M,smR,w3,w4,w5,w6,d1,d2,z'b,z'H,z'P,hrg,hlg,f1,f2,f3,f4,f5]);(first|refine⟨_,_,_,_,(by repeat (first|exact Sp.here|apply Sp.cons)),?_,(by exact⟨rfl,rfl⟩),?_,fun g' hg'=>hK _ _ ?_⟩<;>clear hK K)|fail
   any_goals first
    |exact hI.2
    |omega
    |(simp only[z'e,z'q,z'V,hI.2,hFA,hFB,hLA,hLB];omega)
    |(simp only[hLA,hLB];omega)
   refine stepK (insR (w'1 regs locs (l.getD k sm0))) (by rw[hv];exact InsR.pl _) g' (by rw[hv,z'e];exact hg') _ _ ?_ ?_
   ·rw[hp];exact((z'n _).cons _).cons _
   ·simp[sub,upd,hv, -List.getD_eq_getElem?_getD]
  |false=>
   have hp:w'1 regs locs (l.getD k sm0)=⟨(l.getD k sm0).kind,ixF regs (l.getD k sm0).reg,ixF locs (l.getD k sm0).loc,cdT (l.getD k sm0).e regs,cdT (l.getD k sm0).f regs,(l.getD k sm0).ne,0⟩:=by rw[w'1,hrg,hlg];rfl
   repeat' first|refine mq2 (mqt17 @e1 @y'M @smR.eq_1 @w3 @w4 @w5 @w6 @d1 @d2 @z'b @hrg @hlg @f1 @f2 @f3 @f4 @f5) (mqt6 c1 c2 c3 c4 c5 c6) ?_|refine mqn fun bq hbq=>?_|refine .wk ?_ ?_;focus(try omega)|refine vs T rfl fun K hK=>?_;(try simp (disch:=omega) only[go_sem,Nat.reduceBEq,Nat.reduceAdd,Nat.reduceMul,Nat.reduceLeDiff,e1,y'M,smR,w3,w4,w5,w6,d1,d2,z'b,z'P,hrg,hlg,f1,f2,f3,f4,f5]);(first|refine⟨_,_,_,_,(by repeat (first|exact Sp.here|apply Sp.cons)),?_,(by exact⟨rfl,rfl⟩),?_,fun g' hg'=>hK _ _ ?_⟩<;>clear hK K)|fail
   any_goals first
    |exact hI.2
    |omega
    |(simp only[z'e,z'q,z'V,hI.2,hFA,hFB,hLA,hLB];omega)
    |(simp only[hLA,hLB];omega)
   refine stepK (insR (w'1 regs locs (l.getD k sm0))) (by rw[hv];exact InsR.pl _) g' (by rw[hv,z'e];exact hg') _ _ ?_ ?_
   ·rw[hp];exact((z'n _).cons _).cons _
   ·simp[sub,upd,hv, -List.getD_eq_getElem?_getD]
end Go.Proofs.YthlkpnjjkgmlkaaGreat
