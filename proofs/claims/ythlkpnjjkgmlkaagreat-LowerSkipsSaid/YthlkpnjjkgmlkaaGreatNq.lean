/- Contracts: statements in one another. No condition. -/
import Derived.Test.YthlkpnjjkgmlkaaGreatNp
namespace Go.Proofs.YthlkpnjjkgmlkaaGreat
set_option maxHeartbeats 16000000
set_option linter.unusedSimpArgs false
set_option linter.unusedVariables false
set_option maxRecDepth 20000
open Go Go.Proofs Go.Vc
attribute [local irreducible] x'r VCg VCw VCx
abbrev dpH (b3 b7:Nat) (l:List Sm) (m:Int):Heap:=[(b7,.cells 3 1 [iD m]),(b3,.cells 43 1 [x'E l])]
def dpE (l:List Sm) (f a b:Nat):Int:=if wh l a b=true then(sdF l f a b:Int)else-1
theorem ZnH (l:List Sm) (f a b:Nat): -1≤dpE l f a b∧dpE l f a b≤f:=by
 have:=ZcU l f a b
 unfold dpE
 split<;>omega
abbrev dpM (l:List Sm) (f:Nat) (m:Int) (i:Nat):Int:=if Zah (l.getD i sm0).kind=true then max (max m (1+dpE l f (i+1) (mdS (l.getD i sm0) i))) (1+dpE l f (mdS (l.getD i sm0) i) (eeS (l.getD i sm0) i))else m
def DpP (l:List Sm) (f:Nat):Prop:= ∀a b:Nat,b-a≤f→b≤l.length→Pure Tryz.prog 284 [x'E l,iD (a:Nat),iD (b:Nat)] (iD (dpE l f a b))
theorem ZnG (l:List Sm) (hl:l.length≤1000) (f:Nat) (hf:f≤1000) (ih:DpP l f) (b3 b7 i:Nat) (m:Int) (hm:0≤m∧m≤1001) (hi:i<l.length) (hn:(l.getD i sm0).body.toNat≤f∧(l.getD i sm0).els.toNat≤f) (he:eeS (l.getD i sm0) i≤l.length):
  Fun Tryz.prog 297 [iD (i:Nat),iD (mdS (l.getD i sm0) i:Nat),iD (eeS (l.getD i sm0) i:Nat),ptB b3,ptB b7] (dpH b3 b7 l m) false
   (fun d H'=>d=bD (wh l (i+1) (mdS (l.getD i sm0) i)&&wh l (mdS (l.getD i sm0) i) (eeS (l.getD i sm0) i))∧H'=dpH b3 b7 l (dpM l f m i)):=by
 have e1:mdS (l.getD i sm0) i=i+1+(l.getD i sm0).body.toNat:=rfl
 have e2:eeS (l.getD i sm0) i=i+1+(l.getD i sm0).body.toNat+(l.getD i sm0).els.toNat:=rfl
 have c1:=ih (i+1) (mdS (l.getD i sm0) i) (by omega) (by omega)
 have c2:=ih (mdS (l.getD i sm0) i) (eeS (l.getD i sm0) i) (by omega) he
 rw[show((i+1:Nat):Int)=(i:Int)+1 by omega]at c1
 have c3:=ZoF (l.getD i sm0).kind
 have l1:=ZnH l f (i+1) (mdS (l.getD i sm0) i)
 have l2:=ZnH l f (mdS (l.getD i sm0) i) (eeS (l.getD i sm0) i)
 have hA:(dpE l f (i+1) (mdS (l.getD i sm0) i) != -1)=wh l (i+1) (mdS (l.getD i sm0) i):=by
  unfold dpE
  cases wh l (i+1) (mdS (l.getD i sm0) i)with
  |true=>rw[if_pos rfl];exact bne_iff_ne.2 (by omega)
  |false=>rw[if_neg (by simp)];rfl
 have hB:(dpE l f (mdS (l.getD i sm0) i) (eeS (l.getD i sm0) i) != -1)=wh l (mdS (l.getD i sm0) i) (eeS (l.getD i sm0) i):=by
  unfold dpE
  cases wh l (mdS (l.getD i sm0) i) (eeS (l.getD i sm0) i)with
  |true=>rw[if_pos rfl];exact bne_iff_ne.2 (by omega)
  |false=>rw[if_neg (by simp)];rfl
 unfold dpM
 generalize dpE l f (i+1) (mdS (l.getD i sm0) i)=A at*
 generalize dpE l f (mdS (l.getD i sm0) i) (eeS (l.getD i sm0) i)=B at*
 refine Fun.of T [.tmp 8] Tryz.func297 rfl Tryz.ntmps297 Tryz.results297 rfl (by kernel_rfl) ?_
 apply VC.nodup
 intro hnd
 have h37: ¬b7=b3:=by simpa[Heap.blocks]using hnd
 cases hb:Zah (l.getD i sm0).kind with
 |true=>
  rw[hb]at c3
  repeat' first|refine vt rfl fun K hK=>?_;refine Zov rfl rfl rfl rfl ?_;refine hK _ _ ?_;clear hK K;(try simp only[updO])|refine dr (id:=1) T 8 (by kernel_rfl) ?_|(apply VCg.step T rfl rfl);focus((try simp (disch:=omega) only[go_sem,Nat.reduceBEq,w64]);(first|exact rfl|refine Op1.callp rfl rfl (c1) rfl ?_;exact⟨rfl,rfl⟩))|refine mq2 (mqt6 @smR.eq_1 @y'M @w64 @z'b @hA @hB) (mqt2 c2 c3) ?_|refine .wk ?_ ?_;focus(try omega)|with_reducible refine z'j (fun hc=>?_) (fun hc=>?_)|fail
  all_goals first|exact z'r T (z'n _) ⟨by rw[hc,y'g];rfl,rfl⟩|exact z'r T (z'n _) ⟨by rw[hc,x'e];rfl,rfl⟩|exact z'r T (z'n _) ⟨by rw[hc,y'g],rfl⟩|exact z'r T (z'n _) ⟨by rw[hc,x'e],rfl⟩|trace_state
 |false=>
  rw[hb]at c3
  repeat' first|refine dr (id:=1) T 8 (by kernel_rfl) ?_|(apply VCg.step T rfl rfl);focus((try simp (disch:=omega) only[go_sem,Nat.reduceBEq,w64]);(first|exact rfl|refine Op1.callp rfl rfl (c1) rfl ?_;exact⟨rfl,rfl⟩))|refine mq2 (mqt5 @smR.eq_1 @y'M @z'b @hA @hB) (mqt2 c2 c3) ?_|refine .wk ?_ ?_;focus(try omega)|with_reducible refine z'j (fun hc=>?_) (fun hc=>?_)|fail
  all_goals first|exact z'r T (z'n _) ⟨by rw[hc,y'g];rfl,rfl⟩|exact z'r T (z'n _) ⟨by rw[hc,x'e];rfl,rfl⟩|exact z'r T (z'n _) ⟨by rw[hc,y'g],rfl⟩|exact z'r T (z'n _) ⟨by rw[hc,x'e],rfl⟩|trace_state
abbrev dpD (b3 b7:Nat):D:= .is (.func (.func 297) #[] #[.pointer (some ⟨b3,0,none⟩),.pointer (some ⟨b7,0,none⟩)])
theorem Zjw {l:List Sm} {f a b:Nat} (h:wh l a b=true):dpE l f a b=(sdF l f a b:Int):=by unfold dpE;rw[if_pos h]
theorem Zsn {l:List Sm} {f m i:Nat} (h1:wh l (i+1) (mdS (l.getD i sm0) i)=true) (h2:wh l (mdS (l.getD i sm0) i) (eeS (l.getD i sm0) i)=true):dpM l f m i=((sdK (sdF l f) l m i:Nat):Int):=by
 unfold dpM sdK
 rw[Zjw h1,Zjw h2]
 cases Zah (l.getD i sm0).kind with
 |true=>rw[if_pos rfl];dsimp only;omega
 |false=>rw[if_neg (by simp)]
theorem ZrV {l:List Sm} {f m i:Nat} (h:m≤f+1):sdK (sdF l f) l m i≤f+1:=ZhC (g:=sdF l f) (m:=f) (ZcU l f) l [i] m h
theorem Zqn (l:List Sm) (hl:l.length≤1000) (f:Nat) (hf:f≤1000) (b3 b7 a b:Nat) (ih:a<b→DpP l f) (hab:b-a≤f+1) (hb:b≤l.length):
  Fun Tryz.prog 296 [x'E l,iD (a:Nat),iD (b:Nat),dpD b3 b7] (dpH b3 b7 l 0) false
   (fun d H'=> ∃m:Int,(wh l a b=true→m=(sdF l (f+1) a b:Nat))∧d=bD (wh l a b)∧H'=dpH b3 b7 l m):=by
 have hd0:sdF l (f+1) a b=(tp l a b).foldl (sdK (sdF l f) l) 0:=rfl
 rw[hd0]
 refine Fun.of T [.tmp 8] Tryz.func296 rfl Tryz.ntmps296 Tryz.results296 rfl (by kernel_rfl) ?_
 repeat' first|refine mq0 ?_|fail
 refine VC.loop {p:Nat×Nat//(a≤p.1∧(p.1≤b∨p.1=a)∧p.2≤f+1)∧wh l a b=wh l p.1 b∧(wh l a b=true→(tp l p.1 b).foldl (sdK (sdF l f) l) p.2=(tp l a b).foldl (sdK (sdF l f) l) 0)}
  (fun p=>⟨z'0 [(0,x'E l),(1,iD (p.1.1:Nat)),(2,iD (b:Nat)),(3,dpD b3 b7)],dpH b3 b7 l (p.1.2:Nat)⟩) (fun p=>b-p.1.1) ⟨(a,0),⟨z'c _,.inr rfl,z'm _⟩,rfl,fun _=>rfl⟩ ?_ ?_
 ·refine z'O rfl ?_
  simp[sub,upd]
 rintro⟨⟨c,m⟩,⟨hc1,hc2,hm⟩,hw,ht⟩
 dsimp only at hc1 hc2 hm hw ht⊢
 rcases z'g c b with hlt|hge
 case inr=>
  have e1:decide ((c:Int)<(b:Int))=false:=decide_eq_false (by omega)
  rw[ZoT hge]at hw
  rw[Zcc hge]at ht
  rw[hw]
  repeat' first|refine mq1 @e1 ?_|fail
  exact z'r T (z'n _) ⟨m,fun _=>by rw[←ht hw];rfl,rfl,rfl⟩
 have e1:decide ((c:Int)<(b:Int))=true:=decide_eq_true (by omega)
 cases hq:Zce (l.getD c sm0) ((b:Int)-c-1)with
 |true=>
  rw[Zk2 hlt hq]at hw
  rw[hw]
  simp only[Zce,z'1,decide_eq_true_eq]at hq
  repeat' first|refine mq1 (mqt5 @smR.eq_1 @y'M @w64 @z'b @e1) ?_|refine mqn fun bq hbq=>?_|refine .wk ?_ ?_;focus(try omega)|with_reducible refine z'j (fun hc=>?_) (fun hc=>?_)<;>(try simp only[decide_eq_true_eq,decide_eq_false_iff_not,gt_iff_lt,z'x]at hc)<;>(try(exfalso;omega))|fail
  all_goals first|exact z'r T (z'I _ _) ⟨m,fun h=>(by cases h),rfl,rfl⟩|(exfalso;omega)
 |false=>
  have hq':=hq
  simp only[Zce,Bool.or_eq_false_iff,decide_eq_false_iff_not]at hq
  have g1:decide ((l.getD c sm0).body<0)=false:=decide_eq_false hq.1
  have g2:decide ((l.getD c sm0).els<0)=false:=decide_eq_false hq.2.1
  have g3:decide ((l.getD c sm0).body>(b:Int)-c-1)=false:=decide_eq_false hq.2.2.1
  have g4:decide ((l.getD c sm0).els>(b:Int)-c-1-(l.getD c sm0).body)=false:=decide_eq_false hq.2.2.2
  have n1:mdS (l.getD c sm0) c=c+1+(l.getD c sm0).body.toNat:=rfl
  have n2:eeS (l.getD c sm0) c=c+1+(l.getD c sm0).body.toNat+(l.getD c sm0).els.toNat:=rfl
  have w3:IntKind.i64.wrap ((c:Int)+1)=(c:Int)+1:=w64 (by omega)
  have w4:IntKind.i64.wrap ((c:Int)+1+(l.getD c sm0).body)=(mdS (l.getD c sm0) c:Nat):=by rw[w64 (by omega)];omega
  have w5:IntKind.i64.wrap ((mdS (l.getD c sm0) c:Nat)+(l.getD c sm0).els)=(eeS (l.getD c sm0) c:Nat):=by rw[w64 (by omega)];omega
  have c1:=ZnG l hl f hf (ih (by omega)) b3 b7 c m (by omega) (by omega) (by omega) (by omega)
  repeat' first|refine vs T rfl fun K hK=>?_;(try simp (disch:=omega) only[go_sem,Nat.reduceBEq,Nat.reduceAdd,Nat.reduceLeDiff,smR,y'M,w3,w4,w5,w64,z'b,e1,g1,g2,g3,g4]);(first|refine hK _ _ ?_;clear hK K|intro bq hbq;(try simp only[HB]at hbq);refine hK _ _ ?_;clear hK K|refine⟨?_,hK _ _ ?_⟩<;>clear hK K;focus(try omega)|skip)|refine st rfl ?_|refine sc rfl ?_|refine nl ?_|refine gs rfl rfl ?_
  refine Op1.callG (Hp:=dpH b3 b7 l m) (Hr:=[_]) rfl rfl rfl c1 (List.perm_append_comm (l₁:=[_]) (l₂:=dpH b3 b7 l m)) (fun d H' h=>?_)
  obtain⟨rfl,rfl⟩:=h
  refine hK _ _ ?_
  clear hK K
  rw[Znp hlt hq']at hw
  cases k1:wh l (c+1) (mdS (l.getD c sm0) c)&&wh l (mdS (l.getD c sm0) c) (eeS (l.getD c sm0) c)with
  |false=>
   rw[←Bool.and_assoc,k1,x'e]at hw
   rw[hw]
   repeat' first|refine mq0 ?_|fail
   exact z'r T (List.sublist_append_left _ _) ⟨_,fun h=>(by cases h),rfl,rfl⟩
  |true=>
   rw[←Bool.and_assoc,k1,y'g]at hw
   repeat' first|refine mq0 ?_|fail
   obtain⟨k2,k3⟩:=Bool.and_eq_true_iff.1 k1
   rw[ZfU hlt,List.foldl_cons]at ht
   refine⟨⟨(eeS (l.getD c sm0) c,sdK (sdF l f) l m c),⟨by dsimp only;omega,.inl (by dsimp only;omega),ZrV hm⟩,hw,ht⟩,?_,by dsimp only;omega⟩
   rw[Zsn k2 k3]
   refine Weak.subH (List.sublist_append_left _ _) ?_
   simp[sub,upd]
theorem ZhD (l:List Sm) (hl:l.length≤1000) (f:Nat) (hf:f≤1000) (a b:Nat) (ih:a<b→DpP l f) (hab:b-a≤f+1) (hb:b≤l.length):Pure Tryz.prog 284 [x'E l,iD (a:Nat),iD (b:Nat)] (iD (dpE l (f+1) a b)):=by
 have c1:=fun b3 b7=>Zqn l hl f hf b3 b7 a b ih hab hb
 refine Fun.of T [.tmp 6] Tryz.func284 rfl Tryz.ntmps284 Tryz.results284 rfl (by kernel_rfl) ?_
 repeat' first|refine vs T rfl fun K hK=>?_;(try simp (disch:=omega) only[go_sem,Nat.reduceBEq,Nat.reduceAdd,Nat.reduceLeDiff]);(first|refine hK _ _ ?_;clear hK K|intro bq hbq;(try simp only[HB]at hbq);refine hK _ _ ?_;clear hK K|skip)|refine st rfl ?_|refine nl ?_
 rename_i b3 hb3
 refine w'h (cs:=[.tmp 3,.tmp 7]) (us:=[.pointer (some ⟨b3,0,none⟩),.pointer (some ⟨bq,0,none⟩)]) rfl rfl ?_
 refine hK _ _ ?_
 clear hK K
 refine vs T rfl fun K hK=>?_
 refine Op1.cally (Hp:=dpH b3 bq l 0) (Hr:=[]) rfl rfl (c1 b3 bq) rfl (by rw[z'u]) (fun m hm=>?_)
 refine hK _ _ ?_
 clear hK K
 unfold dpE
 cases hw:wh l a b with
 |true=>
  rw[if_pos rfl, ←hm hw]
  repeat' first|refine mq0 ?_|exact z'r T (z'a _) ⟨rfl,rfl⟩|fail
 |false=>
  rw[if_neg (by simp)]
  repeat' first|refine mq0 ?_|exact z'r T (z'a _) ⟨rfl,rfl⟩|fail
theorem ZhE (l:List Sm) (hl:l.length≤1000): ∀f,f≤1001→DpP l f
 |0,_,a,b,hab,hb=>by
  have h:=ZhD l hl 0 (by omega) a b (fun h=>by omega) (by omega) hb
  rw[show dpE l 0 a b=dpE l (0+1) a b by unfold dpE;rw[show sdF l (0+1) a b=0 by show(tp l a b).foldl _ 0=0;rw[Zcc (by omega)];rfl];rfl]
  exact h
 |f+1,hf,a,b,hab,hb=>ZhD l hl f (by omega) a b (fun _=>ZhE l hl f (by omega)) hab hb
theorem Zoz (l:List Sm) (hl:l.length≤1000):Pure Tryz.prog 263 [x'E l] (iD (dpE l l.length 0 l.length)):=by
 have c1:=ZhE l hl l.length (by omega) 0 l.length (by omega) (z'c _)
 rw[show((0:Nat):Int)=0 from rfl]at c1
 refine Fun.of T [.tmp 2] Tryz.func263 rfl Tryz.ntmps263 Tryz.results263 rfl (by kernel_rfl) ?_
 repeat' first|refine mq2 @x'C c1 ?_|exact z'r T (z'a _) ⟨rfl,rfl⟩|fail
theorem Znc (l:List Sm) (hO:OkS l):Pure Tryz.prog 227 [x'E l] (bD (smB l)):=by
 have hl:=hO.1
 have c1:=Zoz l hl
 have hle:=ZcU l l.length 0 l.length
 refine Fun.of T [.tmp 2] Tryz.func227 rfl Tryz.ntmps227 Tryz.results227 rfl (by kernel_rfl) ?_
 cases hw:wh l 0 l.length with
 |false=>
  rw[show smB l=false by unfold smB;rw[hw];simp]
  rw[show dpE l l.length 0 l.length= -1 by unfold dpE;rw[hw];rfl]at c1
  repeat' first|refine mq3 c1 ?_|exact z'r T (z'a _) ⟨rfl,rfl⟩|fail
 |true=>
  rw[Zjw hw]at c1
  have e0':(((sdF l l.length 0 l.length:Nat):Int) == -1)=false:=beq_eq_false_iff_ne.2 (by omega)
  by_cases h1:sdF l l.length 0 l.length≤30
  case neg=>
   have e1:decide (((sdF l l.length 0 l.length:Nat):Int)>30)=true:=decide_eq_true (by omega)
   rw[show smB l=false by unfold smB;rw[decide_eq_false h1];simp]
   repeat' first|refine mq2 (mqt2 @e0' @e1) c1 ?_|exact z'r T (z'a _) ⟨rfl,rfl⟩|fail
  have e1:decide (((sdF l l.length 0 l.length:Nat):Int)>30)=false:=decide_eq_false (by omega)
  by_cases h2:l.length≤200
  case neg=>
   have e2:decide ((l.length:Int)>200)=true:=decide_eq_true (by omega)
   rw[show smB l=false by unfold smB;rw[decide_eq_false h2];simp]
   repeat' first|refine mq2 (mqt4 @e0' @e1 @e2 @x'C) c1 ?_|exact z'r T (z'a _) ⟨rfl,rfl⟩|fail
  have e2:decide ((l.length:Int)>200)=false:=decide_eq_false (by omega)
  have hS:smB l=l.all x'0:=by unfold smB;rw[hw,decide_eq_true h1,decide_eq_true h2];simp
  rw[hS]
  repeat' first|refine mq2 (mqt4 @e0' @e1 @e2 @x'C) c1 ?_|fail
  refine VC.loop {k:Nat//k≤l.length∧ ∀i,i<k→x'0 (l.getD i sm0)=true} (fun p=>⟨z'0 [(19,x'E l),(20,iD (l.length:Nat)),(21,iD (p.1:Nat))],[]⟩) (fun p=>l.length-p.1) ⟨0,z'm _,fun i hi=>by omega⟩ ?_ ?_
  ·refine Weak.sub ?_
   simp[sub,upd,x'C]
  rintro⟨j,hj,hs⟩
  dsimp only at hj hs⊢
  rcases z'g j l.length with hlt|hge
  case inr=>
   have e4:decide ((j:Int)<(l.length:Int))=false:=decide_eq_false (by omega)
   rw[x'X (p:=x'0) (d:=sm0) hge hs]
   repeat' first|refine mq1 @e4 ?_|exact z'r T (z'a _) ⟨rfl,rfl⟩|fail
  have e4:decide ((j:Int)<(l.length:Int))=true:=decide_eq_true (by omega)
  have hx:=hO.2 _ (z'8 (d:=sm0) hlt)
  have c3:=ZoE (l.getD j sm0) hx.1 hx.2
  cases hN:x'0 (l.getD j sm0)with
  |false=>
   rw[hN]at c3
   rw[w'd (p:=x'0) (d:=sm0) hlt hN]
   repeat' first|refine mq2 (mqt4 @y'M @z'b @smR.eq_1 @e4) c3 ?_|refine mqn fun bq hbq=>?_|refine .wk ?_ ?_;focus(try omega)|exact z'r T (z'a _) ⟨rfl,rfl⟩|fail
  |true=>
   rw[hN]at c3
   repeat' first|refine mq2 (mqt5 @y'M @z'b @smR.eq_1 @e4 @w64) c3 ?_|refine mqn fun bq hbq=>?_|refine .wk ?_ ?_;focus(try omega)|fail
   refine⟨⟨j+1,by omega,y'r hs hN⟩,y'J rfl ?_,by dsimp only;omega⟩
   simp[sub,upd]
end Go.Proofs.YthlkpnjjkgmlkaaGreat
