/- Contracts: the reference's statements, their form. No condition. -/
import Derived.Test.YthlkpnjjkgmlkaaGreatLd
namespace Go.Proofs.YthlkpnjjkgmlkaaGreat
set_option maxHeartbeats 16000000
set_option linter.unusedSimpArgs false
set_option linter.unusedVariables false
set_option maxRecDepth 20000
open Go Go.Proofs Go.Vc
attribute [local irreducible] x'r VCg VCw VCx
theorem Znw (k:Int):Pure Tryz.prog 270 [iD k] (bD (Zah k)):=by
 refine Fun.of T [.tmp 2] Tryz.func270 rfl Tryz.ntmps270 Tryz.results270 rfl (by kernel_rfl) ?_
 repeat' first|refine mq0 ?_|refine z'r T (z'a _) ?_;(try simp only[upd,Nat.reduceBEq,cond_true,cond_false,and_true])|with_reducible refine z'j (fun hc=>?_) (fun hc=>?_)<;>(try simp only[beq_iff_eq,beq_eq_false_iff_ne,ne_eq]at hc)|fail
 all_goals(congr 2;rw[z'9];simp only[Zah,z'1,decide_eq_true_eq,beq_iff_eq,y'x,true_iff,false_iff];omega)
theorem Zjc {x:Sm} {a:Nat} (h:0≤x.body):(a:Int)+1+x.body=(mdS x a:Nat):=by unfold mdS;omega
theorem Zi6 {x:Sm} {a:Nat} (h:0≤x.els):((mdS x a:Nat):Int)+x.els=(eeS x a:Nat):=by unfold mdS eeS;omega
theorem Zqt (l:List Sm) (hl:l.length≤1000) (n:Nat): ∀(a b:Nat),b-a≤n→b≤l.length→Pure Tryz.prog 235 [x'E l,iD (a:Nat),iD (b:Nat)] (bD (wh l a b)):=by
 induction n using Nat.strongRecOn with
 |_ n ih=>
 intro a b hn hb
 refine Fun.of T [.tmp 6] Tryz.func235 rfl Tryz.ntmps235 Tryz.results235 rfl (by kernel_rfl) ?_
 repeat' first|refine mq0 ?_|fail
 refine VC.loop {k:Nat//a≤k∧wh l a b=wh l k b} (fun p=>⟨z'0 [(0,x'E l),(1,iD (p.1:Nat)),(2,iD (b:Nat))],[]⟩) (fun p=>b-p.1) ⟨a,z'c _,rfl⟩ ?_ ?_
 ·refine Weak.sub ?_
  simp[sub,upd]
 rintro⟨k,hk,he⟩
 dsimp only at hk he⊢
 rw[he]
 rcases z'g k b with hlt|hge
 case inr=>
  have e1:decide ((k:Int)<(b:Int))=false:=decide_eq_false (by omega)
  rw[ZoT hge]
  repeat' first|refine mq1 @e1 ?_|exact z'r T (z'a _) ⟨rfl,rfl⟩|fail
 have e1:decide ((k:Int)<(b:Int))=true:=decide_eq_true (by omega)
 have w1:IntKind.i64.wrap ((b:Int)-k)=(b:Int)-k:=w64 (by omega)
 have w2:IntKind.i64.wrap ((b:Int)-k-1)=(b:Int)-k-1:=w64 (by omega)
 cases hq:Zce (l.getD k sm0) ((b:Int)-k-1)with
 |true=>
  rw[Zk2 hlt hq]
  repeat' first|refine vs T rfl fun K hK=>?_;(try simp (disch:=omega) only[go_sem,Nat.reduceBEq,Nat.reduceAdd,Nat.reduceLeDiff,e1,y'M,smR,z'b,w1,w2,w64]);(first|refine hK _ _ ?_;clear hK K|intro bq hbq;(try simp only[HB]at hbq);refine hK _ _ ?_;clear hK K|refine⟨?_,hK _ _ ?_⟩<;>clear hK K;focus(try omega)|skip)|refine st rfl ?_|refine sc rfl ?_|refine nl ?_|refine gs rfl rfl ?_|exact z'r T (z'a _) ⟨rfl,rfl⟩|with_reducible refine z'j (fun hc=>?_) (fun hc=>?_)<;>(try simp only[decide_eq_true_eq,decide_eq_false_iff_not,gt_iff_lt,z'x]at hc)
  all_goals(exfalso;simp only[Zce,z'1,decide_eq_true_eq]at hq;omega)
 |false=>
  have hB:=Zft hq
  rw[Znp hlt hq]
  have q1:mdS (l.getD k sm0) k=k+1+(l.getD k sm0).body.toNat:=rfl
  have q2:eeS (l.getD k sm0) k=k+1+(l.getD k sm0).body.toNat+(l.getD k sm0).els.toNat:=rfl
  have c1:=ih (mdS (l.getD k sm0) k-(k+1)) (by omega) (k+1) (mdS (l.getD k sm0) k) (z'c _) (by omega)
  have c2:=ih (eeS (l.getD k sm0) k-mdS (l.getD k sm0) k) (by omega) (mdS (l.getD k sm0) k) (eeS (l.getD k sm0) k) (z'c _) (by omega)
  rw[show((k+1:Nat):Int)=(k:Int)+1 by omega]at c1
  have w3:IntKind.i64.wrap ((k:Int)+1)=(k:Int)+1:=w64 (by omega)
  have w4:IntKind.i64.wrap ((k:Int)+1+(l.getD k sm0).body)=(mdS (l.getD k sm0) k:Nat):=by rw[Zjc (by omega)];exact w64 (by omega)
  have w5:IntKind.i64.wrap (((mdS (l.getD k sm0) k:Nat):Int)+(l.getD k sm0).els)=(eeS (l.getD k sm0) k:Nat):=by rw[Zi6 (by omega)];exact w64 (by omega)
  repeat' first|refine mq2 (mqt10 @e1 @y'M @smR.eq_1 @z'b @w1 @w2 @w3 @w4 @w5 @w64) (mqt2 c1 c2) ?_|refine mqn fun bq hbq=>?_|refine .wk ?_ ?_;focus(try omega)|refine z'r T (z'a _) ?_;(try simp only[upd,Nat.reduceBEq,cond_true,cond_false,and_true])|with_reducible refine z'j (fun hc=>?_) (fun hc=>?_)<;>(try simp only[decide_eq_true_eq,decide_eq_false_iff_not,z'y,z'G,gt_iff_lt,z'x]at hc)<;>(try(exfalso;omega))|fail
  ·rw[hc];rfl
  ·rename_i h1
   rw[hc,h1];rfl
  ·rename_i h1
   refine⟨⟨eeS (l.getD k sm0) k,by omega,?_⟩,y'J rfl ?_,by dsimp only;omega⟩
   ·rw[h1,hc];rfl
   ·simp[sub,upd, -List.getD_eq_getElem?_getD]
theorem Zmi (l:List Sm) (hl:l.length≤1000) (a b:Nat) (hb:b≤l.length) (hw:wh l a b=true):Pure Tryz.prog 269 [x'E l,iD (a:Nat),iD (b:Nat)] (w'H ((tp l a b).map fun(i:Nat)=>(i:Int))):=by
 refine Fun.freeze (Zh7 _) ?_
 refine Fun.of T [.tmp 6] Tryz.func269 rfl Tryz.ntmps269 Tryz.results269 rfl (by kernel_rfl) ?_
 repeat' first|refine mq0 ?_|fail
 refine VC.loop {p:(Nat×List Nat)×Option (Nat×Nat)//a≤p.1.1∧wh l p.1.1 b=true∧tp l a b=p.1.2++tp l p.1.1 b∧gOk p.2 p.1.2.length∧p.1.2.length≤p.1.1∧p.1.1≤max a b} (fun p=>⟨z'0 [(0,x'E l),(1,iD (p.1.1.1:Nat)),(2,iD (b:Nat)),(7,.gs p.1.2 p.1.1.2.length)],shp p.1.2 3 1 ((p.1.1.2.map fun(i:Nat)=>(i:Int)).map iD) []⟩) (fun p=>b-p.1.1.1) ⟨((a,[]),none),by dsimp only;exact⟨z'c _,hw,rfl,rfl,z'm _,by omega⟩⟩ ?_ ?_
 ·refine z'O rfl ?_
  simp[sub,upd]
 rintro⟨⟨⟨k,s⟩,g⟩,hk,hwk,he,hg,hs,hm⟩
 dsimp only at hk hwk he hg hs hm⊢
 rcases z'g k b with hlt|hge
 case inr=>
  have e1:decide ((k:Int)<(b:Int))=false:=decide_eq_false (by omega)
  rw[Zcc hge,z'u]at he
  subst he
  repeat' first|refine mq1 @e1 ?_|fail
  exact z'r T (z'n _) ⟨g,3,by rw[y'T,z'i];rfl,by rw[Zke]⟩
 have e1:decide ((k:Int)<(b:Int))=true:=decide_eq_true (by omega)
 obtain⟨h1,h2,h3,h4⟩:=v'l hlt hwk
 have q2:eeS (l.getD k sm0) k=k+1+(l.getD k sm0).body.toNat+(l.getD k sm0).els.toNat:=rfl
 have w4:IntKind.i64.wrap ((k:Int)+1+(l.getD k sm0).body)=(mdS (l.getD k sm0) k:Nat):=by rw[Zjc (by omega)];exact w64 (by unfold mdS;omega)
 have w5:IntKind.i64.wrap (((mdS (l.getD k sm0) k:Nat):Int)+(l.getD k sm0).els)=(eeS (l.getD k sm0) k:Nat):=by rw[Zi6 (by omega)];exact w64 (by omega)
 repeat' first|refine dr (id:=4) T 13 (by kernel_rfl) ?_|apply VCg.step T rfl rfl;focus((try simp (disch:=omega) only[go_sem,Nat.reduceBEq,y'M,smR,z'b,w4,w64]);(first|exact rfl|refine⟨?_,rfl⟩;try omega))|refine mq1 (mqt2 @e1 @w5) ?_|refine vs T rfl fun K hK=>?_;(try simp (disch:=omega) only[go_sem,Nat.reduceBEq,Nat.reduceMul,Nat.reduceLeDiff,e1,w5]);(first|refine⟨_,_,_,_,(by repeat (exact Sp.here)),?_,(by exact⟨rfl,rfl⟩),⟨by decide,?_⟩,fun g' hg'=>hK _ _ ?_⟩<;>clear hK K)|fail
 ·simp
 ·omega
 ·refine⟨⟨((eeS (l.getD k sm0) k,s++[k]),g'),by dsimp only;exact⟨by omega,h4,by rw[he,ZfU hlt,z'M];rfl,by rw[z'e];exact hg',by rw[z'e,List.length_singleton];omega,by omega⟩⟩,z'O (by dsimp only;rw[z'A,z'A];rfl) ?_,by dsimp only;omega⟩
  simp[sub,upd, -List.getD_eq_getElem?_getD]
theorem z'Y (s:ByteArray) (hs:s.size≤1000) (c:UInt8):Pure Tryz.prog 267 [sD s,.is (.int .u8 c.toNat)] (bD (z'S s c)):=by
 have hsz:s.data.toList.length=s.size:=z'6
 refine Fun.of T [.tmp 4] Tryz.func267 rfl Tryz.ntmps267 Tryz.results267 rfl (by kernel_rfl) ?_
 repeat' first|refine mq0 ?_|fail
 refine VC.loop {k:Nat//k≤s.size∧ ∀(i:Nat) (y:UInt8),i<k→s.data.toList[i]?=some y→ ¬y=c} (fun p=>⟨z'0 [(0,sD s),(1,.is (.int .u8 c.toNat)),(5,iD (p.1:Nat))],[]⟩) (fun p=>s.size-p.1) ⟨0,by omega,fun i y hi=>by omega⟩ ?_ ?_
 ·refine Weak.sub ?_
  simp[sub,upd]
 ·rintro⟨k,hk,hno⟩
  dsimp only
  rcases z'g k s.size with hlt|hge
  ·have hd:decide ((k:Int)<(s.size:Int))=true:=by simp;omega
   have hw:IntKind.i64.wrap ((k:Int)+1)=((k+1:Nat):Int):=by rw[w64 (by omega)];omega
   obtain⟨y,hy⟩: ∃y,s.data.toList[k]?=some y:=⟨_,z'k (by omega)⟩
   have hg:s.data.toList.getD k 0=y:=by rw[z'f,hy];rfl
   by_cases he:y=c
   ·have he':((y.toNat:Int) == (c.toNat:Int))=true:=by rw[he];simp
    have hr:z'S s c=true:=by
     unfold z'S
     rw[List.any_eq_true]
     exact⟨y,z'E hy,by simpa using he⟩
    rw[hr]
    repeat' first|refine mq1 (mqt3 @hd @hg @he') ?_|refine .wk ?_ ?_;focus(try omega)|exact z'r T (z'a _) ⟨rfl,rfl⟩|fail
   ·have he':((y.toNat:Int) == (c.toNat:Int))=false:=by
     rw[beq_eq_false_iff_ne]
     intro h
     exact he (UInt8.toNat.inj (by omega))
    repeat' first|refine mq1 (mqt4 @hd @hw @hg @he') ?_|refine .wk ?_ ?_;focus(try omega)|fail
    refine⟨⟨k+1,by omega,fun i z hi hz=>?_⟩,Weak.sub ?_,by simp only[];omega⟩
    ·rcases z'g i k with h'|h'
     ·exact hno i z h' hz
     ·obtain rfl:i=k:=by omega
      rw[hy]at hz;cases hz;exact he
    ·simp[sub,upd]
  ·have hd:decide ((k:Int)<(s.size:Int))=false:=by simp;omega
   have hr:z'S s c=false:=by
    unfold z'S
    rw[List.any_eq_false]
    intro y hy
    obtain⟨i,hi⟩:=y'u hy
    simpa using hno i y (by have:=(z'z.1 hi).1;omega) hi
   rw[hr]
   repeat' first|refine mq1 @hd ?_|exact z'r T (z'a _) ⟨rfl,rfl⟩|fail
theorem w'x (k:Int):Pure Tryz.prog 266 [iD k] (Zav (w'q k)):=by
 refine Fun.of T [.tmp 2,.tmp 3] Tryz.func266 rfl Tryz.ntmps266 Tryz.results266 rfl (by kernel_rfl) ?_
 by_cases h1:k=1
 ·subst h1
  repeat' first|refine mq0 ?_|exact x'n T (z'a _) ⟨rfl,rfl⟩|fail
  all_goals rfl
 have e1:(k == 1)=false:=by simpa using h1
 by_cases h2:k=2
 ·subst h2
  repeat' first|refine mq0 ?_|exact x'n T (z'a _) ⟨rfl,rfl⟩|fail
  all_goals rfl
 have e2:(k == 2)=false:=by simpa using h2
 by_cases h3:k=3
 ·subst h3
  repeat' first|refine mq0 ?_|exact x'n T (z'a _) ⟨rfl,rfl⟩|fail
  all_goals rfl
 have e3:(k == 3)=false:=by simpa using h3
 by_cases h4:k=4
 ·subst h4
  repeat' first|refine mq0 ?_|exact x'n T (z'a _) ⟨rfl,rfl⟩|fail
  all_goals rfl
 have e4:(k == 4)=false:=by simpa using h4
 by_cases h5:k=5
 ·subst h5
  repeat' first|refine mq0 ?_|exact x'n T (z'a _) ⟨rfl,rfl⟩|fail
  all_goals rfl
 have e5:(k == 5)=false:=by simpa using h5
 by_cases h6:k=6
 ·subst h6
  repeat' first|refine mq0 ?_|exact x'n T (z'a _) ⟨rfl,rfl⟩|fail
  all_goals rfl
 have e6:(k == 6)=false:=by simpa using h6
 by_cases h7:k=7
 ·subst h7
  repeat' first|refine mq0 ?_|exact x'n T (z'a _) ⟨rfl,rfl⟩|fail
  all_goals rfl
 have e7:(k == 7)=false:=by simpa using h7
 by_cases h8:k=8
 ·subst h8
  repeat' first|refine mq0 ?_|exact x'n T (z'a _) ⟨rfl,rfl⟩|fail
  all_goals rfl
 have e8:(k == 8)=false:=by simpa using h8
 by_cases h9:k=9
 ·subst h9
  repeat' first|refine mq0 ?_|exact x'n T (z'a _) ⟨rfl,rfl⟩|fail
  all_goals rfl
 have e9:(k == 9)=false:=by simpa using h9
 by_cases h10:k=10
 ·subst h10
  repeat' first|refine mq0 ?_|exact x'n T (z'a _) ⟨rfl,rfl⟩|fail
  all_goals rfl
 have e10:(k == 10)=false:=by simpa using h10
 by_cases h11:k=11
 ·subst h11
  repeat' first|refine mq0 ?_|exact x'n T (z'a _) ⟨rfl,rfl⟩|fail
  all_goals rfl
 have e11:(k == 11)=false:=by simpa using h11
 by_cases h12:k=12
 ·subst h12
  repeat' first|refine mq0 ?_|exact x'n T (z'a _) ⟨rfl,rfl⟩|fail
  all_goals rfl
 have e12:(k == 12)=false:=by simpa using h12
 by_cases h13:k=13
 ·subst h13
  repeat' first|refine mq0 ?_|exact x'n T (z'a _) ⟨rfl,rfl⟩|fail
  all_goals rfl
 have e13:(k == 13)=false:=by simpa using h13
 have hz:w'q k=none:=by simp only[w'q,h1,h2,h3,h4,h5,h6,h7,h8,h9,h10,h11,h12,h13,if_false]
 rw[hz]
 repeat' first|refine mq1 (mqt13 @e1 @e2 @e3 @e4 @e5 @e6 @e7 @e8 @e9 @e10 @e11 @e12 @e13) ?_|exact x'n T (z'a _) ⟨rfl,rfl⟩|fail
 all_goals rfl
theorem ZiI (l:List Nod) (hl:l.length≤1000000):Pure Tryz.prog 238 [y'4 l] (y'4 (y'R l)):=by
 refine Fun.freeze (w'S (f:=nodR) (fun _=>rfl) _) ?_
 refine Fun.of T [.tmp 2] Tryz.func238 rfl Tryz.ntmps238 Tryz.results238 rfl (by kernel_rfl) ?_
 repeat' first|refine mq0 ?_|fail
 refine VC.loop {p:Nat×Option (Nat×Nat)//p.1≤l.length∧gOk p.2 (y'R (l.take p.1)).length} (fun p=>⟨z'0 [(0,y'4 l),(3,.gs p.1.2 (y'R (l.take p.1.1)).length),(4,iD (p.1.1:Nat))],shp p.1.2 127 5 (ZeE (y'R (l.take p.1.1))).flatten []⟩) (fun p=>l.length-p.1.1) ⟨(0,none),z'm _,rfl⟩ ?_ ?_
 ·refine z'O rfl ?_
  simp[sub,upd,y'R]
 rintro⟨⟨k,g⟩,hk,hg⟩
 dsimp only at hk hg⊢
 have hL:(y'R (l.take k)).length≤k:=y'b (List.length_filter_le _ _) (by rw[z'T];omega)
 rcases z'g k l.length with hlt|hge
 case inr=>
  obtain rfl:k=l.length:=by omega
  rw[y'w]at hg⊢
  repeat' first|refine mq1 @z'Z ?_|with_reducible refine z'j (fun hc=>?_) (fun hc=>?_)<;>(try simp only[decide_eq_true_eq,decide_eq_false_iff_not,z'x]at hc)<;>(try(exfalso;omega))|fail
  exact z'r T (z'n _) ⟨g,127,by rw[z'Z];rfl,rfl⟩
 have hT:=Zae z'J hlt
 have hy:Zbf (l.getD k z'J)=true→y'R (l.take (k+1))=y'R (l.take k)++[l.getD k z'J]:=fun hn=>by unfold y'R;rw[hT,z'7,x'z,hn];rfl
 have hz:Zbf (l.getD k z'J)=false→y'R (l.take (k+1))=y'R (l.take k):=fun hn=>by unfold y'R;rw[hT,z'7,x'z,hn];simp
 repeat' first|refine mq1 (mqt5 @y's @z'Z @nodR.eq_1 @w64 @z'b) ?_|refine .wk ?_ ?_;focus(try omega)|refine vs T rfl fun K hK=>?_;(try simp (disch:=omega) only[go_sem,Nat.reduceBEq,Nat.reduceAdd,Nat.reduceMul,Nat.reduceLeDiff,y's,z'Z,nodR,w64,z'b]);(first|refine⟨_,_,_,_,(by repeat (exact Sp.here)),?_,(by exact⟨rfl,rfl⟩),?_,fun g' hg'=>hK _ _ ?_⟩<;>clear hK K)|with_reducible refine z'j (fun hc=>?_) (fun hc=>?_)<;>(try simp only[decide_eq_true_eq,decide_eq_false_iff_not,beq_iff_eq,beq_eq_false_iff_ne,ne_eq,z'x]at hc)<;>(try(exfalso;omega))|fail
 any_goals exact w'e (f:=nodR) (fun _=>rfl) _
 any_goals omega
 ·have hq:=hy (by simp[Zbf,hc, -List.getD_eq_getElem?_getD])
  refine⟨⟨(k+1,g'),by dsimp only;exact⟨by omega,by rw[hq,z'e];exact hg'⟩⟩,z'O (by dsimp only;rw[hq];unfold ZeE;rw[w'u];rfl) ?_,by dsimp only;omega⟩
  simp[sub,upd,hq]
 ·have hq:=hy (by simp[Zbf,hc, -List.getD_eq_getElem?_getD])
  refine⟨⟨(k+1,g'),by dsimp only;exact⟨by omega,by rw[hq,z'e];exact hg'⟩⟩,z'O (by dsimp only;rw[hq];unfold ZeE;rw[w'u];rfl) ?_,by dsimp only;omega⟩
  simp[sub,upd,hq]
 ·have hq:=hy (by simp[Zbf,hc, -List.getD_eq_getElem?_getD])
  refine⟨⟨(k+1,g'),by dsimp only;exact⟨by omega,by rw[hq,z'e];exact hg'⟩⟩,z'O (by dsimp only;rw[hq];unfold ZeE;rw[w'u];rfl) ?_,by dsimp only;omega⟩
  simp[sub,upd,hq]
 have hq:=hz (by simp only[Zbf,Bool.or_eq_false_iff,decide_eq_false_iff_not];omega)
 refine⟨⟨(k+1,g),by dsimp only;exact⟨by omega,by rw[hq];exact hg⟩⟩,z'O (by dsimp only;rw[hq]) ?_,by dsimp only;omega⟩
 simp[sub,upd,hq]
theorem x'l (l:List Nod) (hl:l.length≤1000):Pure Tryz.prog 268 [y'4 l] (bD (plB l)):=by
 have c1:=ZiI l (by omega)
 have c2:=Zmu l hl
 have hL:(y'R l).length≤l.length:=List.length_filter_le _ _
 refine Fun.of T [.tmp 2] Tryz.func268 rfl Tryz.ntmps268 Tryz.results268 rfl (by kernel_rfl) ?_
 repeat' first|refine mq3 c1 ?_|fail
 refine VC.loop {k:Nat//k≤(y'R l).length∧ ∀i,i<k→decide (((y'R l).getD i z'J).op=2)=true} (fun p=>⟨z'0 [(0,y'4 l),(3,y'4 (y'R l)),(4,iD (p.1:Nat))],[]⟩) (fun p=>(y'R l).length-p.1) ⟨0,z'm _,fun i hi=>by omega⟩ ?_ ?_
 ·refine Weak.sub ?_
  simp[sub,upd]
 rintro⟨k,hk,hs⟩
 dsimp only at hk hs⊢
 repeat' first|refine mq2 (mqt5 @y's @z'Z @nodR.eq_1 @w64 @z'b) c2 ?_|refine .wk ?_ ?_;focus(try omega)|refine z'r T (z'a _) ?_;(try simp only[upd,Nat.reduceBEq,cond_true,cond_false,and_true])|with_reducible refine z'j (fun hc=>?_) (fun hc=>?_)<;>(try simp only[decide_eq_true_eq,decide_eq_false_iff_not,bne_iff_ne,bne_eq_false_iff_eq,ne_eq,z'x]at hc)|fail
 ·rw[show plB l=false by unfold plB;rw[w'd (d:=z'J) (i:=k) (by omega) (decide_eq_false hc)];rfl]
 ·refine⟨⟨k+1,by omega,y'r hs (decide_eq_true hc)⟩,Weak.sub ?_,by dsimp only;omega⟩
  simp[sub,upd]
 ·rw[show plB l=exB l by unfold plB;rw[x'X (d:=z'J) (k:=k) (by omega) hs];rfl]
def v'e (p:ByteArray) (x:Sm):Bool:=decide (0≤x.pl)&&((z'S p 114 == nmB x.reg)&&((z'S p 114||isE x.reg)&&((z'S p 108 == nmB x.loc)&&((z'S p 108||isE x.loc)&&
  ((match z'S p 101 with|true=>plB x.e|false=>decide (x.e.length=0))&&((match z'S p 102 with|true=>plB x.f|false=>decide (x.f.length=0))&&
  ((z'S p 110|| !x.ne)&&((z'S p 98||decide (x.body=0))&&(z'S p 120||decide (x.els=0))))))))))
theorem ZkA (x:Sm) (hk:w'q x.kind=some ⟨#[]⟩) (he:x.e.length≤1000) (hf:x.f.length≤1000):Pure Tryz.prog 236 [.agg (smR x)] (bD (v'e ⟨#[]⟩ x)):=by
 have c0:=w'x x.kind
 rw[hk]at c0
 have b1:Pure Tryz.prog 267 [sD ⟨#[]⟩,.is (.int .u8 114)] (bD false):=z'Y ⟨#[]⟩ (by decide) 114
 have b2:Pure Tryz.prog 267 [sD ⟨#[]⟩,.is (.int .u8 108)] (bD false):=z'Y ⟨#[]⟩ (by decide) 108
 have b3:Pure Tryz.prog 267 [sD ⟨#[]⟩,.is (.int .u8 101)] (bD false):=z'Y ⟨#[]⟩ (by decide) 101
 have b4:Pure Tryz.prog 267 [sD ⟨#[]⟩,.is (.int .u8 102)] (bD false):=z'Y ⟨#[]⟩ (by decide) 102
 have b5:Pure Tryz.prog 267 [sD ⟨#[]⟩,.is (.int .u8 110)] (bD false):=z'Y ⟨#[]⟩ (by decide) 110
 have b6:Pure Tryz.prog 267 [sD ⟨#[]⟩,.is (.int .u8 98)] (bD false):=z'Y ⟨#[]⟩ (by decide) 98
 have b7:Pure Tryz.prog 267 [sD ⟨#[]⟩,.is (.int .u8 120)] (bD false):=z'Y ⟨#[]⟩ (by decide) 120
 have n1:=y'7 x.reg
 have n2:=y'7 x.loc
 have q1:=x'l x.e he
 have q2:=x'l x.f hf
 have d1:decide (x.reg=e0)=isE x.reg:=rfl
 have d2:decide (x.loc=e0)=isE x.loc:=rfl
 have h114:z'S ⟨#[]⟩ 114=false:=by decide
 have h108:z'S ⟨#[]⟩ 108=false:=by decide
 have h101:z'S ⟨#[]⟩ 101=false:=by decide
 have h102:z'S ⟨#[]⟩ 102=false:=by decide
 have h110:z'S ⟨#[]⟩ 110=false:=by decide
 have h98:z'S ⟨#[]⟩ 98=false:=by decide
 have h120:z'S ⟨#[]⟩ 120=false:=by decide
 refine Fun.of T [.tmp 2] Tryz.func236 rfl Tryz.ntmps236 Tryz.results236 rfl (by kernel_rfl) ?_
 repeat' first|refine vb rfl rfl rfl rfl ?_|refine dr (id:=4) T 21 (by kernel_rfl) ?_|refine gn ?_|(first|apply VCg.step T rfl rfl|apply exF);focus((try simp (disch:=omega) only[go_sem,Nat.reduceBEq,z'P,d1]);(first|exact rfl|refine Op1.callp rfl rfl (b1) rfl ?_;exact⟨rfl,rfl⟩|refine Op1.callp rfl rfl (b2) rfl ?_;exact⟨rfl,rfl⟩|refine Op1.callp rfl rfl (n1) rfl ?_;exact⟨rfl,rfl⟩))|refine VCg.gstep T rfl rfl rfl rfl ?_;try simp only[GB]|refine VCg.gundef T rfl rfl rfl rfl ?_|refine vs T rfl fun K hK=>?_;(try simp (disch:=omega) only[go_sem,Nat.reduceBEq,smR,Zav,Option.isSome_some,z'B,z'H,z'P,d2,z'Z]);(first|refine hK _ _ ?_;clear hK K|refine Op1.callp rfl rfl (c0) rfl ?_;refine hK _ _ ?_;clear hK K|refine Op1.callp rfl rfl (b2) rfl ?_;refine hK _ _ ?_;clear hK K|refine Op1.callp rfl rfl (b3) rfl ?_;refine hK _ _ ?_;clear hK K|refine Op1.callp rfl rfl (b4) rfl ?_;refine hK _ _ ?_;clear hK K|refine Op1.callp rfl rfl (b5) rfl ?_;refine hK _ _ ?_;clear hK K|refine Op1.callp rfl rfl (b6) rfl ?_;refine hK _ _ ?_;clear hK K|refine Op1.callp rfl rfl (b7) rfl ?_;refine hK _ _ ?_;clear hK K|refine Op1.callp rfl rfl (n2) rfl ?_;refine hK _ _ ?_;clear hK K)|refine st rfl ?_|refine sc rfl ?_|refine nl ?_|refine gs rfl rfl ?_|refine gu rfl rfl ?_|refine z'r T (z'a _) ?_;(try simp only[upd,Nat.reduceBEq,cond_true,cond_false,and_true])|with_reducible refine z'j (fun hc=>?_) (fun hc=>?_)<;>(try simp only[decide_eq_true_eq,decide_eq_false_iff_not,beq_iff_eq,beq_eq_false_iff_ne,bne_iff_ne,bne_eq_false_iff_eq,ne_eq,z'y,z'G,gt_iff_lt,z'x]at hc)
 all_goals
  clear c0 b1 b2 b3 b4 b5 b6 b7 n1 n2 q1 q2 d1 d2
  unfold v'e
  rw[h114,h108,h101,h102,h110,h98,h120]
  first|(simp_all;done)|(simp_all;omega)|(simp_all;rfl)|(simp_all;intros;simp_all)
theorem ZrC (x:Sm) (hk:w'q x.kind=some ⟨#[114,101]⟩) (he:x.e.length≤1000) (hf:x.f.length≤1000):Pure Tryz.prog 236 [.agg (smR x)] (bD (v'e ⟨#[114,101]⟩ x)):=by
 have c0:=w'x x.kind
 rw[hk]at c0
 have b1:Pure Tryz.prog 267 [sD ⟨#[114,101]⟩,.is (.int .u8 114)] (bD true):=z'Y ⟨#[114,101]⟩ (by decide) 114
 have b2:Pure Tryz.prog 267 [sD ⟨#[114,101]⟩,.is (.int .u8 108)] (bD false):=z'Y ⟨#[114,101]⟩ (by decide) 108
 have b3:Pure Tryz.prog 267 [sD ⟨#[114,101]⟩,.is (.int .u8 101)] (bD true):=z'Y ⟨#[114,101]⟩ (by decide) 101
 have b4:Pure Tryz.prog 267 [sD ⟨#[114,101]⟩,.is (.int .u8 102)] (bD false):=z'Y ⟨#[114,101]⟩ (by decide) 102
 have b5:Pure Tryz.prog 267 [sD ⟨#[114,101]⟩,.is (.int .u8 110)] (bD false):=z'Y ⟨#[114,101]⟩ (by decide) 110
 have b6:Pure Tryz.prog 267 [sD ⟨#[114,101]⟩,.is (.int .u8 98)] (bD false):=z'Y ⟨#[114,101]⟩ (by decide) 98
 have b7:Pure Tryz.prog 267 [sD ⟨#[114,101]⟩,.is (.int .u8 120)] (bD false):=z'Y ⟨#[114,101]⟩ (by decide) 120
 have n1:=y'7 x.reg
 have n2:=y'7 x.loc
 have q1:=x'l x.e he
 have q2:=x'l x.f hf
 have d1:decide (x.reg=e0)=isE x.reg:=rfl
 have d2:decide (x.loc=e0)=isE x.loc:=rfl
 have h114:z'S ⟨#[114,101]⟩ 114=true:=by decide
 have h108:z'S ⟨#[114,101]⟩ 108=false:=by decide
 have h101:z'S ⟨#[114,101]⟩ 101=true:=by decide
 have h102:z'S ⟨#[114,101]⟩ 102=false:=by decide
 have h110:z'S ⟨#[114,101]⟩ 110=false:=by decide
 have h98:z'S ⟨#[114,101]⟩ 98=false:=by decide
 have h120:z'S ⟨#[114,101]⟩ 120=false:=by decide
 refine Fun.of T [.tmp 2] Tryz.func236 rfl Tryz.ntmps236 Tryz.results236 rfl (by kernel_rfl) ?_
 repeat' first|refine vb rfl rfl rfl rfl ?_|refine dr (id:=4) T 21 (by kernel_rfl) ?_|refine gn ?_|(first|apply VCg.step T rfl rfl|apply exF);focus((try simp (disch:=omega) only[go_sem,Nat.reduceBEq,z'H]);(first|exact rfl|refine Op1.callp rfl rfl (b1) rfl ?_;exact⟨rfl,rfl⟩|refine Op1.callp rfl rfl (b2) rfl ?_;exact⟨rfl,rfl⟩|refine Op1.callp rfl rfl (n1) rfl ?_;exact⟨rfl,rfl⟩))|refine VCg.gstep T rfl rfl rfl rfl ?_;try simp only[GB]|refine VCg.gundef T rfl rfl rfl rfl ?_|refine vs T rfl fun K hK=>?_;(try simp (disch:=omega) only[go_sem,Nat.reduceBEq,smR,Zav,Option.isSome_some,z'B,z'H,z'P,d2,z'Z]);(first|refine hK _ _ ?_;clear hK K|refine Op1.callp rfl rfl (c0) rfl ?_;refine hK _ _ ?_;clear hK K|refine Op1.callp rfl rfl (b2) rfl ?_;refine hK _ _ ?_;clear hK K|refine Op1.callp rfl rfl (b3) rfl ?_;refine hK _ _ ?_;clear hK K|refine Op1.callp rfl rfl (b4) rfl ?_;refine hK _ _ ?_;clear hK K|refine Op1.callp rfl rfl (b5) rfl ?_;refine hK _ _ ?_;clear hK K|refine Op1.callp rfl rfl (b6) rfl ?_;refine hK _ _ ?_;clear hK K|refine Op1.callp rfl rfl (b7) rfl ?_;refine hK _ _ ?_;clear hK K|refine Op1.callp rfl rfl (n2) rfl ?_;refine hK _ _ ?_;clear hK K|refine Op1.callp rfl rfl (q1) rfl ?_;refine hK _ _ ?_;clear hK K)|refine st rfl ?_|refine sc rfl ?_|refine nl ?_|refine gs rfl rfl ?_|refine gu rfl rfl ?_|refine z'r T (z'a _) ?_;(try simp only[upd,Nat.reduceBEq,cond_true,cond_false,and_true])|with_reducible refine z'j (fun hc=>?_) (fun hc=>?_)<;>(try simp only[decide_eq_true_eq,decide_eq_false_iff_not,beq_iff_eq,beq_eq_false_iff_ne,bne_iff_ne,bne_eq_false_iff_eq,ne_eq,z'y,z'G,gt_iff_lt,z'x]at hc)
 all_goals
  clear c0 b1 b2 b3 b4 b5 b6 b7 n1 n2 q1 q2 d1 d2
  unfold v'e
  rw[h114,h108,h101,h102,h110,h98,h120]
  first|(simp_all;done)|(simp_all;omega)|(simp_all;rfl)|(simp_all;intros;simp_all)
theorem ZrD (x:Sm) (hk:w'q x.kind=some ⟨#[114,108]⟩) (he:x.e.length≤1000) (hf:x.f.length≤1000):Pure Tryz.prog 236 [.agg (smR x)] (bD (v'e ⟨#[114,108]⟩ x)):=by
 have c0:=w'x x.kind
 rw[hk]at c0
 have b1:Pure Tryz.prog 267 [sD ⟨#[114,108]⟩,.is (.int .u8 114)] (bD true):=z'Y ⟨#[114,108]⟩ (by decide) 114
 have b2:Pure Tryz.prog 267 [sD ⟨#[114,108]⟩,.is (.int .u8 108)] (bD true):=z'Y ⟨#[114,108]⟩ (by decide) 108
 have b3:Pure Tryz.prog 267 [sD ⟨#[114,108]⟩,.is (.int .u8 101)] (bD false):=z'Y ⟨#[114,108]⟩ (by decide) 101
 have b4:Pure Tryz.prog 267 [sD ⟨#[114,108]⟩,.is (.int .u8 102)] (bD false):=z'Y ⟨#[114,108]⟩ (by decide) 102
 have b5:Pure Tryz.prog 267 [sD ⟨#[114,108]⟩,.is (.int .u8 110)] (bD false):=z'Y ⟨#[114,108]⟩ (by decide) 110
 have b6:Pure Tryz.prog 267 [sD ⟨#[114,108]⟩,.is (.int .u8 98)] (bD false):=z'Y ⟨#[114,108]⟩ (by decide) 98
 have b7:Pure Tryz.prog 267 [sD ⟨#[114,108]⟩,.is (.int .u8 120)] (bD false):=z'Y ⟨#[114,108]⟩ (by decide) 120
 have n1:=y'7 x.reg
 have n2:=y'7 x.loc
 have q1:=x'l x.e he
 have q2:=x'l x.f hf
 have d1:decide (x.reg=e0)=isE x.reg:=rfl
 have d2:decide (x.loc=e0)=isE x.loc:=rfl
 have h114:z'S ⟨#[114,108]⟩ 114=true:=by decide
 have h108:z'S ⟨#[114,108]⟩ 108=true:=by decide
 have h101:z'S ⟨#[114,108]⟩ 101=false:=by decide
 have h102:z'S ⟨#[114,108]⟩ 102=false:=by decide
 have h110:z'S ⟨#[114,108]⟩ 110=false:=by decide
 have h98:z'S ⟨#[114,108]⟩ 98=false:=by decide
 have h120:z'S ⟨#[114,108]⟩ 120=false:=by decide
 refine Fun.of T [.tmp 2] Tryz.func236 rfl Tryz.ntmps236 Tryz.results236 rfl (by kernel_rfl) ?_
 repeat' first|refine vb rfl rfl rfl rfl ?_|refine dr (id:=4) T 21 (by kernel_rfl) ?_|refine gn ?_|(first|apply VCg.step T rfl rfl|apply exF);focus((try simp (disch:=omega) only[go_sem,Nat.reduceBEq,z'H]);(first|exact rfl|refine Op1.callp rfl rfl (b1) rfl ?_;exact⟨rfl,rfl⟩|refine Op1.callp rfl rfl (b2) rfl ?_;exact⟨rfl,rfl⟩|refine Op1.callp rfl rfl (n1) rfl ?_;exact⟨rfl,rfl⟩))|refine VCg.gstep T rfl rfl rfl rfl ?_;try simp only[GB]|refine VCg.gundef T rfl rfl rfl rfl ?_|refine vs T rfl fun K hK=>?_;(try simp (disch:=omega) only[go_sem,Nat.reduceBEq,smR,Zav,Option.isSome_some,z'B,z'H,z'P,z'Z]);(first|refine hK _ _ ?_;clear hK K|refine Op1.callp rfl rfl (c0) rfl ?_;refine hK _ _ ?_;clear hK K|refine Op1.callp rfl rfl (b2) rfl ?_;refine hK _ _ ?_;clear hK K|refine Op1.callp rfl rfl (b3) rfl ?_;refine hK _ _ ?_;clear hK K|refine Op1.callp rfl rfl (b4) rfl ?_;refine hK _ _ ?_;clear hK K|refine Op1.callp rfl rfl (b5) rfl ?_;refine hK _ _ ?_;clear hK K|refine Op1.callp rfl rfl (b6) rfl ?_;refine hK _ _ ?_;clear hK K|refine Op1.callp rfl rfl (b7) rfl ?_;refine hK _ _ ?_;clear hK K|refine Op1.callp rfl rfl (n2) rfl ?_;refine hK _ _ ?_;clear hK K)|refine st rfl ?_|refine sc rfl ?_|refine nl ?_|refine gs rfl rfl ?_|refine gu rfl rfl ?_|refine z'r T (z'a _) ?_;(try simp only[upd,Nat.reduceBEq,cond_true,cond_false,and_true])|with_reducible refine z'j (fun hc=>?_) (fun hc=>?_)<;>(try simp only[decide_eq_true_eq,decide_eq_false_iff_not,beq_iff_eq,beq_eq_false_iff_ne,bne_iff_ne,bne_eq_false_iff_eq,ne_eq,z'y,z'G,gt_iff_lt,z'x]at hc)
 all_goals
  clear c0 b1 b2 b3 b4 b5 b6 b7 n1 n2 q1 q2 d1 d2
  unfold v'e
  rw[h114,h108,h101,h102,h110,h98,h120]
  first|(simp_all;done)|(simp_all;omega)|(simp_all;rfl)|(simp_all;intros;simp_all)
theorem ZrA (x:Sm) (hk:w'q x.kind=some ⟨#[108,101]⟩) (he:x.e.length≤1000) (hf:x.f.length≤1000):Pure Tryz.prog 236 [.agg (smR x)] (bD (v'e ⟨#[108,101]⟩ x)):=by
 have c0:=w'x x.kind
 rw[hk]at c0
 have b1:Pure Tryz.prog 267 [sD ⟨#[108,101]⟩,.is (.int .u8 114)] (bD false):=z'Y ⟨#[108,101]⟩ (by decide) 114
 have b2:Pure Tryz.prog 267 [sD ⟨#[108,101]⟩,.is (.int .u8 108)] (bD true):=z'Y ⟨#[108,101]⟩ (by decide) 108
 have b3:Pure Tryz.prog 267 [sD ⟨#[108,101]⟩,.is (.int .u8 101)] (bD true):=z'Y ⟨#[108,101]⟩ (by decide) 101
 have b4:Pure Tryz.prog 267 [sD ⟨#[108,101]⟩,.is (.int .u8 102)] (bD false):=z'Y ⟨#[108,101]⟩ (by decide) 102
 have b5:Pure Tryz.prog 267 [sD ⟨#[108,101]⟩,.is (.int .u8 110)] (bD false):=z'Y ⟨#[108,101]⟩ (by decide) 110
 have b6:Pure Tryz.prog 267 [sD ⟨#[108,101]⟩,.is (.int .u8 98)] (bD false):=z'Y ⟨#[108,101]⟩ (by decide) 98
 have b7:Pure Tryz.prog 267 [sD ⟨#[108,101]⟩,.is (.int .u8 120)] (bD false):=z'Y ⟨#[108,101]⟩ (by decide) 120
 have n1:=y'7 x.reg
 have n2:=y'7 x.loc
 have q1:=x'l x.e he
 have q2:=x'l x.f hf
 have d1:decide (x.reg=e0)=isE x.reg:=rfl
 have d2:decide (x.loc=e0)=isE x.loc:=rfl
 have h114:z'S ⟨#[108,101]⟩ 114=false:=by decide
 have h108:z'S ⟨#[108,101]⟩ 108=true:=by decide
 have h101:z'S ⟨#[108,101]⟩ 101=true:=by decide
 have h102:z'S ⟨#[108,101]⟩ 102=false:=by decide
 have h110:z'S ⟨#[108,101]⟩ 110=false:=by decide
 have h98:z'S ⟨#[108,101]⟩ 98=false:=by decide
 have h120:z'S ⟨#[108,101]⟩ 120=false:=by decide
 refine Fun.of T [.tmp 2] Tryz.func236 rfl Tryz.ntmps236 Tryz.results236 rfl (by kernel_rfl) ?_
 repeat' first|refine vb rfl rfl rfl rfl ?_|refine dr (id:=4) T 21 (by kernel_rfl) ?_|refine gn ?_|(first|apply VCg.step T rfl rfl|apply exF);focus((try simp (disch:=omega) only[go_sem,Nat.reduceBEq,z'P,d1]);(first|exact rfl|refine Op1.callp rfl rfl (b1) rfl ?_;exact⟨rfl,rfl⟩|refine Op1.callp rfl rfl (b2) rfl ?_;exact⟨rfl,rfl⟩|refine Op1.callp rfl rfl (n1) rfl ?_;exact⟨rfl,rfl⟩))|refine VCg.gstep T rfl rfl rfl rfl ?_;try simp only[GB]|refine VCg.gundef T rfl rfl rfl rfl ?_|refine vs T rfl fun K hK=>?_;(try simp (disch:=omega) only[go_sem,Nat.reduceBEq,smR,Zav,Option.isSome_some,z'B,z'H,z'P,z'Z]);(first|refine hK _ _ ?_;clear hK K|refine Op1.callp rfl rfl (c0) rfl ?_;refine hK _ _ ?_;clear hK K|refine Op1.callp rfl rfl (b2) rfl ?_;refine hK _ _ ?_;clear hK K|refine Op1.callp rfl rfl (b3) rfl ?_;refine hK _ _ ?_;clear hK K|refine Op1.callp rfl rfl (b4) rfl ?_;refine hK _ _ ?_;clear hK K|refine Op1.callp rfl rfl (b5) rfl ?_;refine hK _ _ ?_;clear hK K|refine Op1.callp rfl rfl (b6) rfl ?_;refine hK _ _ ?_;clear hK K|refine Op1.callp rfl rfl (b7) rfl ?_;refine hK _ _ ?_;clear hK K|refine Op1.callp rfl rfl (n2) rfl ?_;refine hK _ _ ?_;clear hK K|refine Op1.callp rfl rfl (q1) rfl ?_;refine hK _ _ ?_;clear hK K)|refine st rfl ?_|refine sc rfl ?_|refine nl ?_|refine gs rfl rfl ?_|refine gu rfl rfl ?_|refine z'r T (z'a _) ?_;(try simp only[upd,Nat.reduceBEq,cond_true,cond_false,and_true])|with_reducible refine z'j (fun hc=>?_) (fun hc=>?_)<;>(try simp only[decide_eq_true_eq,decide_eq_false_iff_not,beq_iff_eq,beq_eq_false_iff_ne,bne_iff_ne,bne_eq_false_iff_eq,ne_eq,z'y,z'G,gt_iff_lt,z'x]at hc)
 all_goals
  clear c0 b1 b2 b3 b4 b5 b6 b7 n1 n2 q1 q2 d1 d2
  unfold v'e
  rw[h114,h108,h101,h102,h110,h98,h120]
  first|(simp_all;done)|(simp_all;omega)|(simp_all;rfl)|(simp_all;intros;simp_all)
theorem Zoe (x:Sm) (hk:w'q x.kind=some ⟨#[114,108,101,102]⟩) (he:x.e.length≤1000) (hf:x.f.length≤1000):Pure Tryz.prog 236 [.agg (smR x)] (bD (v'e ⟨#[114,108,101,102]⟩ x)):=by
 have c0:=w'x x.kind
 rw[hk]at c0
 have b1:Pure Tryz.prog 267 [sD ⟨#[114,108,101,102]⟩,.is (.int .u8 114)] (bD true):=z'Y ⟨#[114,108,101,102]⟩ (by decide) 114
 have b2:Pure Tryz.prog 267 [sD ⟨#[114,108,101,102]⟩,.is (.int .u8 108)] (bD true):=z'Y ⟨#[114,108,101,102]⟩ (by decide) 108
 have b3:Pure Tryz.prog 267 [sD ⟨#[114,108,101,102]⟩,.is (.int .u8 101)] (bD true):=z'Y ⟨#[114,108,101,102]⟩ (by decide) 101
 have b4:Pure Tryz.prog 267 [sD ⟨#[114,108,101,102]⟩,.is (.int .u8 102)] (bD true):=z'Y ⟨#[114,108,101,102]⟩ (by decide) 102
 have b5:Pure Tryz.prog 267 [sD ⟨#[114,108,101,102]⟩,.is (.int .u8 110)] (bD false):=z'Y ⟨#[114,108,101,102]⟩ (by decide) 110
 have b6:Pure Tryz.prog 267 [sD ⟨#[114,108,101,102]⟩,.is (.int .u8 98)] (bD false):=z'Y ⟨#[114,108,101,102]⟩ (by decide) 98
 have b7:Pure Tryz.prog 267 [sD ⟨#[114,108,101,102]⟩,.is (.int .u8 120)] (bD false):=z'Y ⟨#[114,108,101,102]⟩ (by decide) 120
 have n1:=y'7 x.reg
 have n2:=y'7 x.loc
 have q1:=x'l x.e he
 have q2:=x'l x.f hf
 have d1:decide (x.reg=e0)=isE x.reg:=rfl
 have d2:decide (x.loc=e0)=isE x.loc:=rfl
 have h114:z'S ⟨#[114,108,101,102]⟩ 114=true:=by decide
 have h108:z'S ⟨#[114,108,101,102]⟩ 108=true:=by decide
 have h101:z'S ⟨#[114,108,101,102]⟩ 101=true:=by decide
 have h102:z'S ⟨#[114,108,101,102]⟩ 102=true:=by decide
 have h110:z'S ⟨#[114,108,101,102]⟩ 110=false:=by decide
 have h98:z'S ⟨#[114,108,101,102]⟩ 98=false:=by decide
 have h120:z'S ⟨#[114,108,101,102]⟩ 120=false:=by decide
 refine Fun.of T [.tmp 2] Tryz.func236 rfl Tryz.ntmps236 Tryz.results236 rfl (by kernel_rfl) ?_
 repeat' first|refine vb rfl rfl rfl rfl ?_|refine dr (id:=4) T 21 (by kernel_rfl) ?_|refine gn ?_|(first|apply VCg.step T rfl rfl|apply exF);focus((try simp (disch:=omega) only[go_sem,Nat.reduceBEq,z'H]);(first|exact rfl|refine Op1.callp rfl rfl (b1) rfl ?_;exact⟨rfl,rfl⟩|refine Op1.callp rfl rfl (b2) rfl ?_;exact⟨rfl,rfl⟩|refine Op1.callp rfl rfl (n1) rfl ?_;exact⟨rfl,rfl⟩))|refine VCg.gstep T rfl rfl rfl rfl ?_;try simp only[GB]|refine VCg.gundef T rfl rfl rfl rfl ?_|refine vs T rfl fun K hK=>?_;(try simp (disch:=omega) only[go_sem,Nat.reduceBEq,smR,Zav,Option.isSome_some,z'B,z'H]);(first|refine hK _ _ ?_;clear hK K|refine Op1.callp rfl rfl (c0) rfl ?_;refine hK _ _ ?_;clear hK K|refine Op1.callp rfl rfl (b2) rfl ?_;refine hK _ _ ?_;clear hK K|refine Op1.callp rfl rfl (b3) rfl ?_;refine hK _ _ ?_;clear hK K|refine Op1.callp rfl rfl (b4) rfl ?_;refine hK _ _ ?_;clear hK K|refine Op1.callp rfl rfl (b5) rfl ?_;refine hK _ _ ?_;clear hK K|refine Op1.callp rfl rfl (b6) rfl ?_;refine hK _ _ ?_;clear hK K|refine Op1.callp rfl rfl (b7) rfl ?_;refine hK _ _ ?_;clear hK K|refine Op1.callp rfl rfl (n2) rfl ?_;refine hK _ _ ?_;clear hK K|refine Op1.callp rfl rfl (q1) rfl ?_;refine hK _ _ ?_;clear hK K|refine Op1.callp rfl rfl (q2) rfl ?_;refine hK _ _ ?_;clear hK K)|refine st rfl ?_|refine sc rfl ?_|refine nl ?_|refine gs rfl rfl ?_|refine gu rfl rfl ?_|refine z'r T (z'a _) ?_;(try simp only[upd,Nat.reduceBEq,cond_true,cond_false,and_true])|with_reducible refine z'j (fun hc=>?_) (fun hc=>?_)<;>(try simp only[decide_eq_true_eq,decide_eq_false_iff_not,beq_iff_eq,beq_eq_false_iff_ne,bne_iff_ne,bne_eq_false_iff_eq,ne_eq,z'y,z'G,z'x]at hc)
 all_goals
  clear c0 b1 b2 b3 b4 b5 b6 b7 n1 n2 q1 q2 d1 d2
  unfold v'e
  rw[h114,h108,h101,h102,h110,h98,h120]
  first|(simp_all;done)|(simp_all;omega)|(simp_all;rfl)|(simp_all;intros;simp_all)
end Go.Proofs.YthlkpnjjkgmlkaaGreat
