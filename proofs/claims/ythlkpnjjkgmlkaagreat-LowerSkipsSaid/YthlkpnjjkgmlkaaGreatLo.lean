/- Contracts: what the reference finds wrong of a program: names, locations, nodes. No condition. -/
import Derived.Test.YthlkpnjjkgmlkaaGreatLk
namespace Go.Proofs.YthlkpnjjkgmlkaaGreat
set_option maxHeartbeats 16000000
set_option linter.unusedSimpArgs false
set_option linter.unusedVariables false
set_option maxRecDepth 20000
open Go Go.Proofs Go.Vc
attribute [local irreducible] x'r VCg VCw VCx
abbrev erD (e:Int×Int):D:= .tup [iD e.1,iD e.2]
theorem x'7 (l:List ByteArray) (hl:l.length≤1000000) (s:ByteArray):Pure Tryz.prog 79 [x't l,sD s] (iD (ixF l s)):=by
 refine Fun.of T [.tmp 4] Tryz.func79 rfl Tryz.ntmps79 Tryz.results79 rfl (by kernel_rfl) ?_
 repeat' first|refine mq0 ?_|fail
 refine VC.loop {k:Nat//k≤l.length∧ ∀i,i<k→l.getD i e0≠s} (fun p=>⟨z'0 [(0,x't l),(1,sD s),(5,iD (p.1:Nat))],[]⟩) (fun p=>l.length-p.1) ⟨0,z'm _,fun i hi=>by omega⟩ ?_ ?_
 ·refine Weak.sub ?_
  simp[sub,upd]
 rintro⟨k,hk,hs⟩
 dsimp only at hk hs⊢
 repeat' first|refine mq1 (mqt4 @w'4 @x'h @w64 @z'b) ?_|refine .wk ?_ ?_;focus(try omega)|refine z'r T (z'a _) ?_;(try simp only[upd,Nat.reduceBEq,cond_true,cond_false,and_true])|with_reducible refine z'j (fun hc=>?_) (fun hc=>?_)<;>(try simp only[decide_eq_true_eq,decide_eq_false_iff_not,z'x]at hc)|fail
 ·rw[ZlK (by omega) hs hc]
 ·refine⟨⟨k+1,by omega,y'r hs hc⟩,Weak.sub ?_,by dsimp only;omega⟩
  simp[sub,upd]
 ·rw[Zn8 fun i hi=>hs i (by omega)]
theorem Zdh {α:Type} {f:α→ByteArray} {l:List α} {k:Nat} (d:α) (h:k<l.length):(l.take (k+1)).map f=(l.take k).map f++[f (l.getD k d)]:=by rw[Zae d h,z'A];rfl
theorem ZcK (p:Pg) (hp:v'm p):Pure Tryz.prog 59 [.agg (pgC p)] (x't (lcN p)):=by
 have hl:=hp.locs
 refine Fun.freeze (w'S (f:=fun s=>[sD s]) (fun _=>rfl) _) ?_
 refine Fun.of T [.tmp 2] Tryz.func59 rfl Tryz.ntmps59 Tryz.results59 rfl (by kernel_rfl) ?_
 repeat' first|refine vb (t:=26) rfl rfl rfl rfl ?_|refine mq0 ?_|fail
 refine VC.loop {q:Nat×Option (Nat×Nat)//q.1≤p.locs.length∧gOk q.2 q.1} (fun q=>⟨z'0 [(1,.pt (pgC p)),(3,.gs q.1.2 q.1.1),(4,iD (q.1.1:Nat))],shp q.1.2 9 1 (v'f ((p.locs.take q.1.1).map (·.nm))).flatten []⟩) (fun q=>p.locs.length-q.1.1) ⟨(0,none),z'm _,rfl⟩ ?_ ?_
 ·refine z'O rfl ?_
  simp[sub,upd]
 rintro⟨⟨k,g⟩,hk,hg⟩
 dsimp only at hk hg⊢
 rcases z'g k p.locs.length with hlt|hge
 case inr=>
  obtain rfl:k=p.locs.length:=by omega
  rw[y'w]
  repeat' first|refine mq1 @x'B ?_|with_reducible refine z'j (fun hc=>?_) (fun hc=>?_)<;>(try simp only[decide_eq_true_eq,decide_eq_false_iff_not,z'x]at hc)<;>(try(exfalso;omega))|fail
  exact z'r T (z'n _) ⟨g,9,by show _=D.gs g (v'f (lcN p)).length;rw[x'h,lcN,z'i];rfl,rfl⟩
 have hT:=Zdh (f:=(·.nm)) lv0 hlt
 repeat' first|refine mq1 (mqt5 @w'U @x'B @lvR.eq_1 @w64 @z'b) ?_|refine .wk ?_ ?_;focus(try omega)|refine vs T rfl fun K hK=>?_;(try simp (disch:=omega) only[go_sem,Nat.reduceBEq,Nat.reduceMul,Nat.reduceLeDiff,w'U,x'B,lvR,w64,z'b]);(first|refine⟨_,_,_,_,(by repeat (exact Sp.here)),?_,(by exact⟨rfl,rfl⟩),⟨by decide,?_⟩,fun g' hg'=>hK _ _ ?_⟩<;>clear hK K)|with_reducible refine z'j (fun hc=>?_) (fun hc=>?_)<;>(try simp only[decide_eq_true_eq,decide_eq_false_iff_not,z'x]at hc)<;>(try(exfalso;omega))|fail
 ·rw[v'f,w'e (f:=fun s=>[sD s]) (fun _=>rfl),z'i,z'T,v'G (by omega)]
 ·omega
 ·refine⟨⟨(k+1,g'),by dsimp only;exact⟨by omega,hg'⟩⟩,z'O (by dsimp only;rw[hT];unfold v'f;rw[w'u]) ?_,by dsimp only;omega⟩
  simp[sub,upd]
theorem Zge (p:Pg) (hp:v'm p):Pure Tryz.prog 80 [.agg (pgC p)] (x't (thN p)):=by
 have hl:=hp.ths
 refine Fun.freeze (w'S (f:=fun s=>[sD s]) (fun _=>rfl) _) ?_
 refine Fun.of T [.tmp 2] Tryz.func80 rfl Tryz.ntmps80 Tryz.results80 rfl (by kernel_rfl) ?_
 repeat' first|refine vb (t:=26) rfl rfl rfl rfl ?_|refine mq0 ?_|fail
 refine VC.loop {q:Nat×Option (Nat×Nat)//q.1≤p.ths.length∧gOk q.2 q.1} (fun q=>⟨z'0 [(1,.pt (pgC p)),(3,.gs q.1.2 q.1.1),(4,iD (q.1.1:Nat))],shp q.1.2 9 1 (v'f ((p.ths.take q.1.1).map (·.nm))).flatten []⟩) (fun q=>p.ths.length-q.1.1) ⟨(0,none),z'm _,rfl⟩ ?_ ?_
 ·refine z'O rfl ?_
  simp[sub,upd]
 rintro⟨⟨k,g⟩,hk,hg⟩
 dsimp only at hk hg⊢
 rcases z'g k p.ths.length with hlt|hge
 case inr=>
  obtain rfl:k=p.ths.length:=by omega
  rw[y'w]
  repeat' first|refine mq1 @y'X ?_|with_reducible refine z'j (fun hc=>?_) (fun hc=>?_)<;>(try simp only[decide_eq_true_eq,decide_eq_false_iff_not,z'x]at hc)<;>(try(exfalso;omega))|fail
  exact z'r T (z'n _) ⟨g,9,by show _=D.gs g (v'f (thN p)).length;rw[x'h,thN,z'i];rfl,rfl⟩
 have hT:=Zdh (f:=(·.nm)) td0 hlt
 repeat' first|refine mq1 (mqt5 @w'V @y'X @tdR.eq_1 @w64 @z'b) ?_|refine .wk ?_ ?_;focus(try omega)|refine vs T rfl fun K hK=>?_;(try simp (disch:=omega) only[go_sem,Nat.reduceBEq,Nat.reduceMul,Nat.reduceLeDiff,w'V,y'X,tdR,w64,z'b]);(first|refine⟨_,_,_,_,(by repeat (exact Sp.here)),?_,(by exact⟨rfl,rfl⟩),⟨by decide,?_⟩,fun g' hg'=>hK _ _ ?_⟩<;>clear hK K)|with_reducible refine z'j (fun hc=>?_) (fun hc=>?_)<;>(try simp only[decide_eq_true_eq,decide_eq_false_iff_not,z'x]at hc)<;>(try(exfalso;omega))|fail
 ·rw[v'f,w'e (f:=fun s=>[sD s]) (fun _=>rfl),z'i,z'T,v'G (by omega)]
 ·omega
 ·refine⟨⟨(k+1,g'),by dsimp only;exact⟨by omega,hg'⟩⟩,z'O (by dsimp only;rw[hT];unfold v'f;rw[w'u]) ?_,by dsimp only;omega⟩
  simp[sub,upd]
theorem Za1 (p:Pg):(lcN p).length=p.locs.length:=z'i ..
theorem Zik (p:Pg):(thN p).length=p.ths.length:=z'i ..
theorem Zrp (p:Pg) (hp:v'm p):Pure Tryz.prog 108 [.agg (pgC p)] (erD (ZgF p)):=by
 have hl:=hp.locs
 have c1:=ZcK p hp
 refine Fun.of T [.tmp 2,.tmp 3] Tryz.func108 rfl Tryz.ntmps108 Tryz.results108 rfl (by kernel_rfl) ?_
 repeat' first|refine vb (t:=26) rfl rfl rfl rfl ?_|refine mq3 c1 ?_|fail
 refine VC.loop {k:Nat//k≤p.locs.length∧ ∀i,i<k→(lcE p i).1=0} (fun q=>⟨z'0 [(1,.pt (pgC p)),(4,x't (lcN p)),(5,iD (q.1:Nat))],[]⟩) (fun q=>p.locs.length-q.1) ⟨0,z'm _,fun i hi=>by omega⟩ ?_ ?_
 ·refine Weak.sub ?_
  simp[sub,upd]
 rintro⟨k,hk,hs⟩
 dsimp only at hk hs⊢
 rcases z'g k p.locs.length with hlt|hge
 case inr=>
  have e1:decide ((k:Int)<(p.locs.length:Int))=false:=decide_eq_false (by omega)
  rw[show ZgF p=(0,0) from ZaU fun i hi=>hs i (by omega)]
  repeat' first|refine mq1 (mqt2 @x'B @e1) ?_|exact x'n T (z'a _) ⟨rfl,rfl⟩|fail
 have e1:decide ((k:Int)<(p.locs.length:Int))=true:=decide_eq_true (by omega)
 have c2:=x'7 (lcN p) (by rw[Za1];omega) (p.locs.getD k lv0).nm
 have hv: ∀e:Int×Int,lcE p k=e→e.1≠0→ZgF p=e:=fun e h1 h2=>h1▸Zbz hlt hs (h1▸h2)
 repeat' first|refine dr (id:=7) T 3 (by kernel_rfl) ?_|refine dr (id:=9) T 3 (by kernel_rfl) ?_|refine dr (id:=11) T 3 (by kernel_rfl) ?_|apply VCg.step T rfl rfl;focus((try simp (disch:=omega) only[go_sem,Nat.reduceBEq]);(exact rfl))|refine mq2 (mqt6 @w'U @x'B @lvR.eq_1 @w64 @z'b @e1) c2 ?_|refine mqn fun bq hbq=>?_|refine .wk ?_ ?_;focus(try omega)|refine x'n T (z'a _) ?_;(try simp only[upd,Nat.reduceBEq,cond_true,cond_false,and_true])|with_reducible refine z'j (fun hc=>?_) (fun hc=>?_)<;>(try simp only[decide_eq_true_eq,decide_eq_false_iff_not,ge_iff_le,y'j,z'x]at hc)|fail
 ·rw[hv (12,(p.locs.getD k lv0).pl) (by unfold lcE;rw[if_pos (by omega)]) (by show(12:Int)≠0;decide)]
 ·rw[hv (10,(p.locs.getD k lv0).pl) (by unfold lcE;rw[if_neg (by omega),if_pos hc]) (by show(10:Int)≠0;decide)]
 ·rw[hv (11,(p.locs.getD k lv0).pl) (by unfold lcE;rw[if_neg (by omega),if_neg (by omega),if_pos hc]) (by show(11:Int)≠0;decide)]
 ·refine⟨⟨k+1,by omega,y'r hs (by unfold lcE;rw[if_neg (by omega),if_neg (by omega),if_neg (by omega)])⟩,y'J rfl ?_,by dsimp only;omega⟩
  simp[sub,upd]
theorem ZiJ (p:Pg) (regs:List ByteArray) (hr:regs.length≤1000000) (l:List Nod) (hl:l.length≤1000):Pure Tryz.prog 240 [.agg (pgC p),x't regs,y'4 l] (erD (v'D p regs l)):=by
 refine Fun.of T [.tmp 6,.tmp 7] Tryz.func240 rfl Tryz.ntmps240 Tryz.results240 rfl (by kernel_rfl) ?_
 repeat' first|refine vb (t:=26) rfl rfl rfl rfl ?_|refine mq0 ?_|fail
 refine VC.loop {k:Nat//k≤l.length∧ ∀i,i<k→(ndE p regs (l.getD i z'J)).1=0} (fun q=>⟨z'0 [(1,x't regs),(2,y'4 l),(3,.pt (pgC p)),(8,iD (q.1:Nat))],[]⟩) (fun q=>l.length-q.1) ⟨0,z'm _,fun i hi=>by omega⟩ ?_ ?_
 ·refine Weak.sub ?_
  simp[sub,upd]
 rintro⟨k,hk,hs⟩
 dsimp only at hk hs⊢
 rcases z'g k l.length with hlt|hge
 case inr=>
  have e1:decide ((k:Int)<(l.length:Int))=false:=decide_eq_false (by omega)
  rw[show v'D p regs l=(0,0) from ZaU fun i hi=>hs i (by omega)]
  repeat' first|refine mq1 (mqt2 @z'Z @e1) ?_|exact x'n T (z'a _) ⟨rfl,rfl⟩|fail
 have e1:decide ((k:Int)<(l.length:Int))=true:=decide_eq_true (by omega)
 have c2:=x'7 regs hr (l.getD k z'J).nm
 have hv: ∀e:Int×Int,ndE p regs (l.getD k z'J)=e→e.1≠0→v'D p regs l=e:=fun e h1 h2=>h1▸Zbz (g:=fun i=>ndE p regs (l.getD i z'J)) hlt hs (h1▸h2)
 repeat' first|refine dr (id:=5) T 6 (by kernel_rfl) ?_|refine dr (id:=6) T 14 (by kernel_rfl) ?_|refine dr (id:=7) T 6 (by kernel_rfl) ?_|(first|apply VCg.step T rfl rfl|apply exF);focus((try simp (disch:=omega) only[go_sem,Nat.reduceBEq,y's,nodR,z'b]);(first|exact rfl|refine⟨?_,rfl⟩;try omega))|refine VCg.gstep T rfl rfl rfl rfl ?_;try simp only[GB]|refine mq2 (mqt6 @y's @z'Z @nodR.eq_1 @w64 @z'b @e1) c2 ?_|refine .wk ?_ ?_;focus(try omega)|refine x'n T (z'a _) ?_;(try simp only[upd,Nat.reduceBEq,cond_true,cond_false,and_true])|with_reducible refine z'j (fun hc=>?_) (fun hc=>?_)<;>(try simp only[decide_eq_true_eq,decide_eq_false_iff_not,beq_iff_eq,beq_eq_false_iff_ne,ne_eq,ge_iff_le,y'j,z'x]at hc)<;>(try(exfalso;omega))|fail
 ·rename_i h1
  rw[hv (9,(l.getD k z'J).pl) (by unfold ndE;rw[if_pos ⟨h1,hc⟩]) (by show(9:Int)≠0;decide)]
 ·refine⟨⟨k+1,by omega,y'r hs (by unfold ndE;rw[if_neg (by omega),if_neg (by omega)])⟩,Weak.sub ?_,by dsimp only;omega⟩
  simp[sub,upd]
 ·rw[hv (11,(l.getD k z'J).pl) (by unfold ndE;rw[if_neg (by omega),if_pos (by omega)]) (by show(11:Int)≠0;decide)]
 ·refine⟨⟨k+1,by omega,y'r hs (by unfold ndE;rw[if_neg (by omega),if_neg (by omega)])⟩,Weak.sub ?_,by dsimp only;omega⟩
  simp[sub,upd]
 ·refine⟨⟨k+1,by omega,y'r hs (by unfold ndE;rw[if_neg (by omega),if_neg (by omega)])⟩,Weak.sub ?_,by dsimp only;omega⟩
  simp[sub,upd]
theorem ZmY (l:List Sm) (hl:l.length≤1000) (hb: ∀x,x∈l→0≤x.body∧x.body≤1000) (a:Nat) (ha:a≤l.length):Pure Tryz.prog 239 [x'E l,iD (a:Nat)] (bD (lpB l a)):=by
 refine Fun.of T [.tmp 4] Tryz.func239 rfl Tryz.ntmps239 Tryz.results239 rfl (by kernel_rfl) ?_
 repeat' first|refine mq0 ?_|fail
 refine VC.loop {k:Nat//k≤a∧ ∀i,i<k→((decide ((l.getD i sm0).kind=11)||decide ((l.getD i sm0).kind=12))&&decide ((a:Int)≤i+(l.getD i sm0).body))=false} (fun q=>⟨z'0 [(0,x'E l),(1,iD (a:Nat)),(5,iD (q.1:Nat))],[]⟩) (fun q=>a-q.1) ⟨0,z'm _,fun i hi=>by omega⟩ ?_ ?_
 ·refine Weak.sub ?_
  simp[sub,upd]
 rintro⟨k,hk,hs⟩
 dsimp only at hk hs⊢
 rcases z'g k a with hlt|hge
 case inr=>
  have e1:decide ((k:Int)<(a:Int))=false:=decide_eq_false (by omega)
  rw[show lpB l a=false by unfold lpB;rw[List.any_eq_false];intro i hi;rw[hs i (by have:=z'Q.1 hi;omega)];exact Bool.false_ne_true]
  repeat' first|refine mq1 @e1 ?_|exact z'r T (z'a _) ⟨rfl,rfl⟩|fail
 have e1:decide ((k:Int)<(a:Int))=true:=decide_eq_true (by omega)
 have hB:=hb _ (z'8 (d:=sm0) (show k<l.length by omega))
 have yes:((decide ((l.getD k sm0).kind=11)||decide ((l.getD k sm0).kind=12))&&decide ((a:Int)≤k+(l.getD k sm0).body))=true→lpB l a=true:=fun h=>by
  unfold lpB;rw[List.any_eq_true];exact⟨k,z'Q.2 hlt,h⟩
 repeat' first|refine mq1 (mqt5 @y'M @smR.eq_1 @w64 @z'b @e1) ?_|refine .wk ?_ ?_;focus(try omega)|refine z'r T (z'a _) ?_;(try simp only[upd,Nat.reduceBEq,cond_true,cond_false,and_true])|with_reducible refine z'j (fun hc=>?_) (fun hc=>?_)<;>(try simp only[decide_eq_true_eq,decide_eq_false_iff_not,beq_iff_eq,beq_eq_false_iff_ne,ne_eq,y'j]at hc)|fail
 ·rw[yes (by simp only[z'd,z'1,decide_eq_true_eq];omega)]
 ·refine⟨⟨k+1,by omega,y'r hs (by rw[←Bool.not_eq_true];simp only[z'd,z'1,decide_eq_true_eq];omega)⟩,Weak.sub ?_,by dsimp only;omega⟩
  simp[sub,upd]
 ·rw[yes (by simp only[z'd,z'1,decide_eq_true_eq];omega)]
 ·refine⟨⟨k+1,by omega,y'r hs (by rw[←Bool.not_eq_true];simp only[z'd,z'1,decide_eq_true_eq];omega)⟩,Weak.sub ?_,by dsimp only;omega⟩
  simp[sub,upd]
 ·refine⟨⟨k+1,by omega,y'r hs (by rw[←Bool.not_eq_true];simp only[z'd,z'1,decide_eq_true_eq];omega)⟩,Weak.sub ?_,by dsimp only;omega⟩
  simp[sub,upd]
theorem Zjk (l:List Sm): ∀(n a b:Nat),b-a≤n→wh l a b=true→ ∀i,a≤i→i<b→0≤(l.getD i sm0).body∧0≤(l.getD i sm0).els∧(i:Int)+1+(l.getD i sm0).body+(l.getD i sm0).els≤b
 |0,a,b,h,_,i,h1,h2=>by omega
 |n+1,a,b,h,hw,i,h1,h2=>by
  obtain⟨q1,q2,q3,q4⟩:=v'l (show a<b by omega) hw
  have e1:mdS (l.getD a sm0) a=a+1+(l.getD a sm0).body.toNat:=rfl
  have e2:eeS (l.getD a sm0) a=a+1+(l.getD a sm0).body.toNat+(l.getD a sm0).els.toNat:=rfl
  by_cases c0:i=a
  ·subst c0;exact q1
  by_cases c1:i<mdS (l.getD a sm0) a
  ·have:=Zjk l n (a+1) (mdS (l.getD a sm0) a) (by omega) q2 i (by omega) c1
   omega
  by_cases c2:i<eeS (l.getD a sm0) a
  ·have:=Zjk l n (mdS (l.getD a sm0) a) (eeS (l.getD a sm0) a) (by omega) q3 i (by omega) c2
   omega
  ·exact Zjk l n (eeS (l.getD a sm0) a) b (by omega) q4 i (by omega) h2
theorem Ztl {l:List Sm} (h:wh l 0 l.length=true) (x:Sm) (hx:x∈l):0≤x.body∧x.body≤l.length∧0≤x.els∧x.els≤l.length:=by
 obtain⟨i,hi⟩:=y'u hx
 have hl:=(z'z.1 hi).1
 have:=Zjk l l.length 0 l.length (z'c _) h i (z'm _) hl
 rw[w'3 hi]at this
 omega
theorem Ztb {p:Pg} {t:Td} {k:Nat} (h1:(t.body.getD k sm0).kind=13→lpB t.body k=true) (h2:isE (t.body.getD k sm0).reg=true∨0≤ixF t.regs (t.body.getD k sm0).reg) (h3:isE (t.body.getD k sm0).loc=true∨0≤ixF (lcN p) (t.body.getD k sm0).loc):
  smE p t k=z'D (v'D p t.regs (t.body.getD k sm0).e) (v'D p t.regs (t.body.getD k sm0).f):=by
 unfold smE
 rw[if_neg,if_neg]
 ·rintro(⟨q1,q2⟩|⟨q1,q2⟩)
  ·rcases h2 with h|h
   ·rw[h]at q1;cases q1
   ·omega
  ·rcases h3 with h|h
   ·rw[h]at q1;cases q1
   ·omega
 ·rintro⟨q1,q2⟩
  rw[h1 q1]at q2;cases q2
theorem ZoW (p : Pg) (hp : v'm p) (t : Td) (hr : t.regs.length ≤ 1000) (hS : OkS t.body) (hw : wh t.body 0 t.body.length = true) : Pure Tryz.prog 168 [.agg (pgC p), .agg (tdR t)] (erD (bdE p t)) := by
  have hl := hS.1
  have c0 := ZcK p hp
  have d1 := fun x : Sm => show decide (x.reg = e0) = isE x.reg from rfl
  have d2 := fun x : Sm => show decide (x.loc = e0) = isE x.loc from rfl
  refine Fun.of T [.tmp 4, .tmp 5] Tryz.func168 rfl Tryz.ntmps168 Tryz.results168 rfl (by kernel_rfl) ?_
  repeat' first | refine vb (t := 26) rfl rfl rfl rfl ?_ | refine vb (t := 45) rfl rfl rfl rfl ?_ | refine vs T rfl fun K hK => ?_; (try simp (disch := omega) only [go_sem, tdR]); (refine hK _ _ ?_; clear hK K) | refine st rfl ?_ | refine nl ?_
  refine VC.loop {k : Nat // k ≤ t.body.length ∧ ∀ i, i < k → (smE p t i).1 = 0} (fun q => ⟨z'0 [(2, .pt (pgC p)), (3, .pt (tdR t)), (6, iD (q.1 : Nat))], []⟩) (fun q => t.body.length - q.1) ⟨0, z'm _, fun i hi => by omega⟩ ?_ ?_
  · refine Weak.sub ?_
    simp [sub, upd, tdR]
  rintro ⟨k, hk, hs⟩
  dsimp only at hk hs ⊢
  rcases z'g k t.body.length with hlt | hge
  case inr =>
    have e1 : decide ((k : Int) < (t.body.length : Int)) = false := decide_eq_false (by omega)
    rw [show bdE p t = (0, 0) from ZaU fun i hi => hs i (by omega)]
    repeat' first | refine vs T rfl fun K hK => ?_; (try simp (disch := omega) only [go_sem, Nat.reduceBEq, tdR, x'C, e1]); (refine hK _ _ ?_; clear hK K) | refine st rfl ?_ | refine sc rfl ?_ | refine nl ?_ | exact x'n T (z'a _) ⟨rfl, rfl⟩
  have e1 : decide ((k : Int) < (t.body.length : Int)) = true := decide_eq_true (by omega)
  have hE := hS.2 _ (z'8 (d := sm0) hlt)
  have c1 := ZmY t.body hl (fun x hx => by have := Ztl hw x hx; omega) k (by omega)
  have c2 := x'7 t.regs (by omega) (t.body.getD k sm0).reg
  have c3 := x'7 (lcN p) (by rw [Za1]; have := hp.locs; omega) (t.body.getD k sm0).loc
  have c4 := ZiJ p t.regs (by omega) (t.body.getD k sm0).e hE.1
  have c5 := ZiJ p t.regs (by omega) (t.body.getD k sm0).f hE.2
  have hv : ∀ e : Int × Int, smE p t k = e → e.1 ≠ 0 → bdE p t = e := fun e h1 h2 => h1 ▸ Zbz hlt hs (h1 ▸ h2)
  repeat' first | refine dr (id := 6) T 3 (by kernel_rfl) ?_ | refine dr (id := 7) T 20 (by kernel_rfl) ?_ | refine dr (id := 8) T 3 (by kernel_rfl) ?_ | refine gn ?_ | (first | apply VCg.step T rfl rfl | apply exF); focus ((try simp (disch := omega) only [go_sem, Nat.reduceBEq, Nat.reduceAdd, Nat.reduceLeDiff, tdR, d1, d2]); (first | exact rfl | refine Op1.callp rfl rfl (c0) rfl ?_; exact ⟨rfl, rfl⟩ | refine Op1.callp rfl rfl (c2) rfl ?_; exact ⟨rfl, rfl⟩)) | refine VCg.gstep T rfl rfl rfl rfl ?_; try simp only [GB] | refine VCg.gundef T rfl rfl rfl rfl ?_ | refine vs T rfl fun K hK => ?_; (try simp (disch := omega) only [go_sem, Nat.reduceBEq, Nat.reduceAdd, Nat.reduceLeDiff, tdR, y'M, x'C, smR, w64, z'b, e1]); (first | refine hK _ _ ?_; clear hK K | intro bq hbq; (try simp only [HB] at hbq); refine hK _ _ ?_; clear hK K | refine ⟨?_, hK _ _ ?_⟩ <;> clear hK K; focus (try omega) | refine Op1.callp rfl rfl (c1) rfl ?_; refine hK _ _ ?_; clear hK K | refine Op1.callp rfl rfl (c3) rfl ?_; refine hK _ _ ?_; clear hK K | refine Op1.callp rfl rfl (c4) rfl ?_; refine hK _ _ ?_; clear hK K | refine Op1.callp rfl rfl (c5) rfl ?_; refine hK _ _ ?_; clear hK K) | refine st rfl ?_ | refine sc rfl ?_ | refine nl ?_ | refine gs rfl rfl ?_ | refine gu rfl rfl ?_ | refine x'n T (z'a _) ?_; (try simp only [upd, Nat.reduceBEq, cond_true, cond_false, and_true]) | with_reducible refine z'j (fun hc => ?_) (fun hc => ?_) <;> (try simp only [decide_eq_true_eq, decide_eq_false_iff_not, beq_iff_eq, beq_eq_false_iff_ne, bne_iff_ne, bne_eq_false_iff_eq, ne_eq, z'y, z'G, z'x] at hc)
  all_goals clear c0 c1 c2 c3 c4 c5 d1 d2
  all_goals first
    | (have q : smE p t k = (13, (t.body.getD k sm0).pl) := by (clear hs hv; unfold smE z'D; simp_all [-List.getD_eq_getElem?_getD]; done)
       rw [hv _ q (by show (13 : Int) ≠ 0; decide)]; done)
    | (have q : smE p t k = (9, (t.body.getD k sm0).pl) := by (clear hs hv; unfold smE z'D; simp_all [-List.getD_eq_getElem?_getD]; done)
       rw [hv _ q (by show (9 : Int) ≠ 0; decide)]; done)
    | (have q0 := (Ztb (p := p) (t := t) (k := k) (by first | exact fun _ => by assumption | exact fun q => absurd q (by assumption)) (by first | exact .inl (by assumption) | exact .inr (by assumption)) (by first | exact .inl (by assumption) | exact .inr (by assumption)))
       first
       | (rw [hv (v'D p t.regs (t.body.getD k sm0).e) (by rw [q0, z'D, if_neg hc]) hc]; done)
       | (rw [hv (v'D p t.regs (t.body.getD k sm0).f) (by rw [q0, z'D, if_pos (by assumption)]) hc]; done)
       | (refine ⟨⟨k + 1, by omega, y'r hs (by rw [q0, z'D, if_pos (by assumption)]; exact hc)⟩, y'J rfl ?_, by dsimp only; omega⟩
          simp [sub, upd, tdR]; done))
theorem Zr2 (p:Pg) (hp:v'm p) (hB:pgB p=true):Pure Tryz.prog 109 [.agg (pgC p)] (erD (Zbs p)):=by
 have hl:=hp.ths
 have c0:=ZcK p hp
 have c1:=Zge p hp
 have hTB:p.ths.all tdB=true:=by simp only[pgB,z'd]at hB;exact hB.2.2.1
 refine Fun.of T [.tmp 2,.tmp 3] Tryz.func109 rfl Tryz.ntmps109 Tryz.results109 rfl (by kernel_rfl) ?_
 by_cases h0:p.ths.length=0
 ·have f0:((p.ths.length:Int) == 0)=true:=by simp[h0]
  rw[show Zbs p=(12,0) by rw[Zbs,if_pos h0]]
  repeat' first|refine vb (t:=26) rfl rfl rfl rfl ?_|refine mq1 (mqt2 @y'X @f0) ?_|exact x'n T (z'a _) ⟨rfl,rfl⟩|fail
 have f0:((p.ths.length:Int) == 0)=false:=beq_eq_false_iff_ne.2 (by omega)
 have hE:Zbs p=y'A p.ths.length (tdE p):=by rw[Zbs,if_neg h0]
 repeat' first|refine vb (t:=26) rfl rfl rfl rfl ?_|refine mq2 (mqt2 @y'X @f0) c1 ?_|fail
 refine VC.loop {k:Nat//k≤p.ths.length∧ ∀i,i<k→(tdE p i).1=0} (fun q=>⟨z'0 [(1,.pt (pgC p)),(4,x't (thN p)),(5,iD (q.1:Nat))],[]⟩) (fun q=>p.ths.length-q.1) ⟨0,z'm _,fun i hi=>by omega⟩ ?_ ?_
 ·refine Weak.sub ?_
  simp[sub,upd]
 rintro⟨k,hk,hs⟩
 dsimp only at hk hs⊢
 rcases z'g k p.ths.length with hlt|hge
 case inr=>
  have e1:decide ((k:Int)<(p.ths.length:Int))=false:=decide_eq_false (by omega)
  rw[show Zbs p=(0,0) by rw[hE];exact ZaU fun i hi=>hs i (by omega)]
  repeat' first|refine mq1 (mqt2 @y'X @e1) ?_|exact x'n T (z'a _) ⟨rfl,rfl⟩|fail
 have e1:decide ((k:Int)<(p.ths.length:Int))=true:=decide_eq_true (by omega)
 have hT:=hp.td _ (z'8 (d:=td0) hlt)
 have hTb:=(ZhM td0).1 hTB k hlt
 simp only[tdB,smB,z'd]at hTb
 have c2:=x'7 (thN p) (by rw[Zik];omega) (p.ths.getD k td0).nm
 have c3:=ZoW p hp (p.ths.getD k td0) hT.1 hT.2 hTb.2.1.2.1
 have hv: ∀e:Int×Int,tdE p k=e→e.1≠0→Zbs p=e:=fun e h1 h2=>by rw[hE];exact h1▸Zbz hlt hs (h1▸h2)
 have hr:=hT.1
 clear hTb hTB
 repeat' first|refine dr (id:=9) T 3 (by kernel_rfl) ?_|refine dr (id:=11) T 3 (by kernel_rfl) ?_|refine dr (id:=13) T 3 (by kernel_rfl) ?_|(apply VCg.step T rfl rfl);focus((try simp (disch:=omega) only[go_sem,Nat.reduceBEq]);(exact rfl))|refine mq2 (mqt6 @w'V @y'X @tdR.eq_1 @x'h @z'b @e1) c2 ?_|refine mqn fun bq hbq=>?_|refine .wk ?_ ?_;focus(try omega)|refine x'n T (z'a _) ?_;(try simp only[upd,Nat.reduceBEq,cond_true,cond_false,and_true])|with_reducible refine z'j (fun hc=>?_) (fun hc=>?_)<;>(try simp only[decide_eq_true_eq,decide_eq_false_iff_not,ge_iff_le,gt_iff_lt,y'j,z'x]at hc)|fail
 ·rw[hv (12,(p.ths.getD k td0).pl) (by unfold tdE;rw[if_pos (by omega)]) (by show(12:Int)≠0;decide)]
 ·rw[hv (10,(p.ths.getD k td0).pl) (by unfold tdE;rw[if_neg (by omega),if_pos hc]) (by show(10:Int)≠0;decide)]
 ·rw[hv (12,(p.ths.getD k td0).pl) (by unfold tdE;rw[if_neg (by omega),if_neg (by omega),if_pos (by omega)]) (by show(12:Int)≠0;decide)]
 rename_i h1 h2
 refine VC.loop {j:Nat//j≤(p.ths.getD k td0).regs.length∧ ∀i,i<j→rgB p (p.ths.getD k td0) i=false} (fun q=>⟨z'0 [(1,.pt (pgC p)),(4,x't (thN p)),(5,iD (k:Nat)),(6,ptB bq),(7,iD (q.1:Nat))],[(bq,.cells 45 4 (tdR (p.ths.getD k td0)))]⟩) (fun q=>(p.ths.getD k td0).regs.length-q.1) ⟨0,z'm _,fun i hi=>by omega⟩ ?_ ?_
 ·refine z'O rfl ?_
  simp[sub,upd]
 rintro⟨j,hj,hr2⟩
 dsimp only at hj hr2⊢
 rcases z'g j (p.ths.getD k td0).regs.length with hlj|hge
 case inr=>
  have e2:decide ((j:Int)<((p.ths.getD k td0).regs.length:Int))=false:=decide_eq_false (by omega)
  have hA:(List.range (p.ths.getD k td0).regs.length).any (rgB p (p.ths.getD k td0))=false:=by
   rw[List.any_eq_false];intro i hi;rw[hr2 i (by have:=z'Q.1 hi;omega)];exact Bool.false_ne_true
  have hq:tdE p k=bdE p (p.ths.getD k td0):=by unfold tdE;rw[if_neg (by omega),if_neg (by omega),if_neg (by omega),hA];rfl
  have tdRe: ∀x,tdR x=[sD x.nm,x't x.regs,x'E x.body,iD x.pl]:=fun _=>rfl
  repeat' first|refine mq2 (mqt4 @x'h @tdRe @w64 @e2) c3 ?_|refine x'n T (z'a _) ?_;(try simp only[upd,Nat.reduceBEq,cond_true,cond_false,and_true])|with_reducible refine z'j (fun hc=>?_) (fun hc=>?_)<;>(try simp only[bne_iff_ne,bne_eq_false_iff_eq,ne_eq]at hc)|fail
  ·rw[hv _ hq hc]
  ·refine⟨⟨k+1,by omega,y'r hs (by rw[hq];exact hc)⟩,y'J rfl ?_,by dsimp only;omega⟩
   simp[sub,upd]
 have e2:decide ((j:Int)<((p.ths.getD k td0).regs.length:Int))=true:=decide_eq_true (by omega)
 have d1:=x'7 (p.ths.getD k td0).regs (by omega) ((p.ths.getD k td0).regs.getD j e0)
 have d2:=x'7 (lcN p) (by rw[Za1];have:=hp.locs;omega) ((p.ths.getD k td0).regs.getD j e0)
 have bad:rgB p (p.ths.getD k td0) j=true→Zbs p=(10,(p.ths.getD k td0).pl):=fun h=>hv _ (by
  unfold tdE
  rw[if_neg (by omega),if_neg (by omega),if_neg (by omega),if_pos]
  rw[List.any_eq_true]
  exact⟨j,z'Q.2 hlj,h⟩) (by show(10:Int)≠0;decide)
 repeat' first|refine dr (id:=17) T 18 (by kernel_rfl) ?_|refine dr (id:=18) T 3 (by kernel_rfl) ?_|(first|apply VCg.step T rfl rfl|apply exF);focus((try simp (disch:=omega) only[go_sem,Nat.reduceBEq,Nat.reduceAdd,Nat.reduceLeDiff,w'4,tdR,z'b]);(first|exact rfl|refine⟨?_,rfl⟩;try omega|refine Op1.callp rfl rfl (c0) rfl ?_;exact⟨rfl,rfl⟩|refine Op1.callp rfl rfl (d1) rfl ?_;exact⟨rfl,rfl⟩))|refine VCg.gstep T rfl rfl rfl rfl ?_;try simp only[GB]|refine mq2 (mqt4 @x'h @tdR.eq_1 @w64 @e2) d2 ?_|refine x'n T (z'a _) ?_;(try simp only[upd,Nat.reduceBEq,cond_true,cond_false,and_true])|with_reducible refine z'j (fun hc=>?_) (fun hc=>?_)<;>(try simp only[decide_eq_true_eq,decide_eq_false_iff_not,ge_iff_le,y'j,z'x]at hc)|fail
 ·rw[bad (by rw[rgB,decide_eq_true hc];rfl)]
 ·rw[bad (by rw[rgB,decide_eq_true (p:=ixF (lcN p) _≥0) hc,Bool.or_true])]
 ·rename_i h5
  refine⟨⟨j+1,by omega,y'r hr2 (by rw[rgB,decide_eq_false (by omega),decide_eq_false (by omega)];rfl)⟩,z'O rfl ?_,by dsimp only;omega⟩
  simp[sub,upd, -List.getD_eq_getElem?_getD]
theorem ZqY (p:Pg) (hp:v'm p):Pure Tryz.prog 110 [.agg (pgC p)] (erD (Zgl p)):=by
 have hl:=hp.cms
 have c0:=ZcK p hp
 have c1:=Zge p hp
 refine Fun.of T [.tmp 2,.tmp 3] Tryz.func110 rfl Tryz.ntmps110 Tryz.results110 rfl (by kernel_rfl) ?_
 repeat' first|refine vb (t:=26) rfl rfl rfl rfl ?_|refine mq0 ?_|fail
 refine VC.loop {k:Nat//k≤p.cms.length∧ ∀i,i<k→(cmE p i).1=0} (fun q=>⟨z'0 [(1,.pt (pgC p)),(4,iD (q.1:Nat))],[]⟩) (fun q=>p.cms.length-q.1) ⟨0,z'm _,fun i hi=>by omega⟩ ?_ ?_
 ·refine Weak.sub ?_
  simp[sub,upd]
 rintro⟨k,hk,hs⟩
 dsimp only at hk hs⊢
 rcases z'g k p.cms.length with hlt|hge
 case inr=>
  have e1:decide ((k:Int)<(p.cms.length:Int))=false:=decide_eq_false (by omega)
  rw[show Zgl p=(0,0) from ZaU fun i hi=>hs i (by omega)]
  repeat' first|refine mq1 (mqt2 @v'b @e1) ?_|exact x'n T (z'a _) ⟨rfl,rfl⟩|fail
 have e1:decide ((k:Int)<(p.cms.length:Int))=true:=decide_eq_true (by omega)
 have hT:=hp.cm _ (z'8 (d:=cm0) hlt)
 have hv: ∀e:Int×Int,cmE p k=e→e.1≠0→Zgl p=e:=fun e h1 h2=>h1▸Zbz hlt hs (h1▸h2)
 repeat' first|refine dr (id:=5) T 7 (by kernel_rfl) ?_|(apply VCg.step T rfl rfl);focus((try simp (disch:=omega) only[go_sem,Nat.reduceBEq,ZdO,cmR,z'b]);(first|exact rfl|refine⟨?_,rfl⟩;try omega))|refine mq1 (mqt5 @ZdO @v'b @cmR.eq_1 @z'b @e1) ?_|refine .wk ?_ ?_;focus(try omega)|refine x'n T (z'a _) ?_;(try simp only[upd,Nat.reduceBEq,cond_true,cond_false,and_true])|with_reducible refine z'j (fun hc=>?_) (fun hc=>?_)<;>(try simp only[decide_eq_true_eq,decide_eq_false_iff_not,ge_iff_le,y'j]at hc)|fail
 ·rw[hv (12,(p.cms.getD k cm0).pl) (by unfold cmE;rw[if_pos (by omega)]) (by show(12:Int)≠0;decide)]
 have hC:cmE p k=y'A (p.cms.getD k cm0).e.length fun j=>cnE p ((p.cms.getD k cm0).e.getD j z'J):=by unfold cmE;rw[if_neg (by omega)]
 generalize (p.cms.getD k cm0).e=l at*
 have hll:l.length≤1000:=hT
 refine VC.loop {j:Nat//j≤l.length∧ ∀i,i<j→(cnE p (l.getD i z'J)).1=0} (fun q=>⟨z'0 [(1,.pt (pgC p)),(4,iD (k:Nat)),(5,y'4 l),(6,iD (q.1:Nat))],[]⟩) (fun q=>l.length-q.1) ⟨0,z'm _,fun i hi=>by omega⟩ ?_ ?_
 ·refine Weak.sub ?_
  simp[sub,upd]
 rintro⟨j,hj,hr⟩
 dsimp only at hj hr⊢
 rcases z'g j l.length with hlj|hge
 case inr=>
  have e2:decide ((j:Int)<(l.length:Int))=false:=decide_eq_false (by omega)
  repeat' first|refine mq1 (mqt3 @z'Z @w64 @e2) ?_|fail
  refine⟨⟨k+1,by omega,y'r hs (by rw[hC,ZaU fun i hi=>hr i (by omega)])⟩,Weak.sub ?_,by dsimp only;omega⟩
  simp[sub,upd]
 have e2:decide ((j:Int)<(l.length:Int))=true:=decide_eq_true (by omega)
 have d1:=x'7 (lcN p) (by rw[Za1];have:=hp.locs;omega) (l.getD j z'J).nm
 have d2:=x'7 (thN p) (by rw[Zik];have:=hp.ths;omega) (l.getD j z'J).inn
 have hth:0≤ixF (thN p) (l.getD j z'J).inn→ixF (thN p) (l.getD j z'J).inn<p.ths.length:=fun _=>by have:=Zhh (thN p) (l.getD j z'J).inn;rw[Zik]at this;omega
 have d3:Pure Tryz.prog 79 [x't (p.ths.getD (ixF (thN p) (l.getD j z'J).inn).toNat td0).regs,sD (l.getD j z'J).nm] (iD (ixF (p.ths.getD (ixF (thN p) (l.getD j z'J).inn).toNat td0).regs (l.getD j z'J).nm)):=by
  refine x'7 _ ?_ _
  by_cases h:(ixF (thN p) (l.getD j z'J).inn).toNat<p.ths.length
  ·have:=(hp.td _ (z'8 (d:=td0) h)).1;omega
  ·rw[z'f,x'd (by omega)];exact z'm _
 have bad: ∀e:Int×Int,cnE p (l.getD j z'J)=e→e.1≠0→Zgl p=e:=fun e h1 h2=>hv e (by rw[hC];exact h1▸Zbz (g:=fun j=>cnE p (l.getD j z'J)) hlj hr (h1▸h2)) h2
 repeat' first|refine dr (id:=11) T 8 (by kernel_rfl) ?_|refine dr (id:=12) T 3 (by kernel_rfl) ?_|refine dr (id:=14) T 4 (by kernel_rfl) ?_|refine dr (id:=15) T 11 (by kernel_rfl) ?_|refine dr (id:=16) T 3 (by kernel_rfl) ?_|refine dr (id:=18) T 3 (by kernel_rfl) ?_|(first|apply VCg.step T rfl rfl|apply exF);focus((try simp (disch:=omega) only[go_sem,Nat.reduceBEq,Nat.reduceAdd,Nat.reduceLeDiff,w'V,tdR]);(first|exact rfl|refine⟨?_,rfl⟩;try omega|refine Op1.callp rfl rfl (c0) rfl ?_;exact⟨rfl,rfl⟩|refine Op1.callp rfl rfl (c1) rfl ?_;exact⟨rfl,rfl⟩))|refine VCg.gstep T rfl rfl rfl rfl ?_;try simp only[GB]|refine mq2 (mqt6 @y's @z'Z @nodR.eq_1 @w64 @z'b @e2) (mqt3 d1 d2 d3) ?_|refine mqn fun bq hbq=>?_|refine .wk ?_ ?_;focus(try omega)|refine x'n T (z'a _) ?_;(try simp only[upd,Nat.reduceBEq,cond_true,cond_false,and_true])|with_reducible refine z'j (fun hc=>?_) (fun hc=>?_)<;>(try simp only[decide_eq_true_eq,decide_eq_false_iff_not,beq_iff_eq,beq_eq_false_iff_ne,ne_eq,ge_iff_le,y'j,z'x]at hc)<;>(try(exfalso;omega))|fail
 ·rw[bad (9,(l.getD j z'J).pl) (by unfold cnE;rw[if_pos (by omega)]) (by show(9:Int)≠0;decide)]
 ·refine⟨⟨j+1,by omega,y'r hr (by unfold cnE;rw[if_neg (by omega),if_neg (by omega),if_neg (by omega)])⟩,y'J rfl ?_,by dsimp only;omega⟩
  simp[sub,upd]
 ·rw[bad (9,(l.getD j z'J).pl) (by unfold cnE;rw[if_neg (by omega),if_pos (by omega)]) (by show(9:Int)≠0;decide)]
 ·rw[bad (9,(l.getD j z'J).pl) (by unfold cnE;rw[if_neg (by omega),if_pos (by omega)]) (by show(9:Int)≠0;decide)]
 ·refine⟨⟨j+1,by omega,y'r hr (by unfold cnE;rw[if_neg (by omega),if_neg (by omega),if_neg (by omega)])⟩,y'J rfl ?_,by dsimp only;omega⟩
  simp[sub,upd]
 ·rw[bad (11,(l.getD j z'J).pl) (by unfold cnE;rw[if_neg (by omega),if_neg (by omega),if_pos (by omega)]) (by show(11:Int)≠0;decide)]
 ·refine⟨⟨j+1,by omega,y'r hr (by unfold cnE;rw[if_neg (by omega),if_neg (by omega),if_neg (by omega)])⟩,y'J rfl ?_,by dsimp only;omega⟩
  simp[sub,upd]
 ·refine⟨⟨j+1,by omega,y'r hr (by unfold cnE;rw[if_neg (by omega),if_neg (by omega),if_neg (by omega)])⟩,y'J rfl ?_,by dsimp only;omega⟩
  simp[sub,upd]
theorem ZnA (p:Pg) (hp:v'm p):Pure Tryz.prog 57 [.agg (pgC p)] (erD (y'3 p)):=by
 have c1:=Zm1 p hp
 have c2:=Zrp p hp
 have c4:=ZqY p hp
 refine Fun.of T [.tmp 2,.tmp 3] Tryz.func57 rfl Tryz.ntmps57 Tryz.results57 rfl (by kernel_rfl) ?_
 cases hB:pgB p with
 |false=>
  rw[hB]at c1
  rw[show y'3 p=(8,0) by rw[y'3,if_pos hB]]
  repeat' first|refine vb (t:=26) rfl rfl rfl rfl ?_|refine mq3 c1 ?_|exact x'n T (z'a _) ⟨rfl,rfl⟩|fail
 |true=>
  rw[hB]at c1
  have c3:=Zr2 p hp hB
  have hnB: ¬pgB p=false:=by rw[hB];exact Bool.noConfusion
  repeat' first|refine vb (t:=26) rfl rfl rfl rfl ?_|refine mq3 (mqt4 c1 c2 c3 c4) ?_|refine x'n T (z'a _) ?_;(try simp only[upd,Nat.reduceBEq,cond_true,cond_false,and_true])|with_reducible refine z'j (fun hc=>?_) (fun hc=>?_)<;>(try simp only[decide_eq_true_eq,decide_eq_false_iff_not,bne_iff_ne,bne_eq_false_iff_eq,ne_eq,gt_iff_lt,z'x]at hc)|fail
  ·rw[show y'3 p=(11,0) by rw[y'3,if_neg hnB,if_pos (by omega)]]
  ·rw[show y'3 p=(11,0) by rw[y'3,if_neg hnB,if_pos (by omega)]]
  ·rw[show y'3 p=ZgF p by rw[y'3,if_neg hnB,if_neg (by omega),z'D,if_neg hc]]
  ·rename_i h
   rw[show y'3 p=Zbs p by rw[y'3,if_neg hnB,if_neg (by omega),z'D,if_pos h,z'D,if_neg hc]]
  ·rename_i h
   rw[show y'3 p=Zgl p by rw[y'3,if_neg hnB,if_neg (by omega),z'D,if_pos h,z'D,if_pos hc]]
end Go.Proofs.YthlkpnjjkgmlkaaGreat
