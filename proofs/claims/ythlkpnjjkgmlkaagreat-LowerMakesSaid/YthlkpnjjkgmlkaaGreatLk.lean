/- Contracts: the reference's statements: how deep, all; programs. No condition. -/
import Derived.Test.YthlkpnjjkgmlkaaGreatLi
namespace Go.Proofs.YthlkpnjjkgmlkaaGreat
set_option maxHeartbeats 16000000
set_option linter.unusedSimpArgs false
set_option linter.unusedVariables false
set_option maxRecDepth 20000
open Go Go.Proofs Go.Vc
attribute [local irreducible] x'r VCg VCw VCx
theorem Zmw {α β:Type} {g:β→α→β} {l:List α} {k:Nat} (d:α) (b:β) (h:k<l.length):(l.take (k+1)).foldl g b=g ((l.take k).foldl g b) (l.getD k d):=by
 rw[Zae d h,List.foldl_append];rfl
theorem Zov {P:Program} {o:Oper} {E:Operand→D} {H:Heap} {K:D→Heap→Prop} {x y z:Operand} {ts:Array TypeId} {k:IntKind} {a b c:Int} (ho:o.op= .call ⟨.builtin .max, #[x,y,z],ts⟩) (ha:E x= .is (.int k a)) (hb:E y= .is (.int k b)) (hc:E z= .is (.int k c)) (hk:K (.is (.int k (max (max a b) c))) H):Op1 P o E H K:=by
 refine Op1.value (d:= .is (.int k (max (max a b) c))) (fun w L0 ε hi hx=>?_) hk
 have h1:=hx x (by simp[ho,Op.operands,Call.operands])
 have h2:=hx y (by simp[ho,Op.operands,Call.operands])
 have h3:=hx z (by simp[ho,Op.operands,Call.operands])
 rw[ha]at h1;rw[hb]at h2;rw[hc]at h3
 have h1':ε x= .int k a:=h1
 have h2':ε y= .int k b:=h2
 have h3':ε z= .int k c:=h3
 refine⟨.int k (max (max a b) c),?_,rfl⟩
 simp only[execOp,ho,resolve,invoke,builtin]
 simp[go_sem,h1',h2',h3',Builtin.max_,Builtin.max2]
 split<;>split<;>omega
theorem Zo7 (l:List Sm) (hl:l.length≤1000): ∀(f a b:Nat),f≤1000→b-a≤f→b≤l.length→wh l a b=true→Pure Tryz.prog 237 [x'E l,iD (a:Nat),iD (b:Nat)] (iD (sdF l f a b:Nat)):=by
 intro f
 induction f with
 |zero=>
  intro a b _ h1 h2 h3
  have c1:=Zmi l hl a b h2 h3
  rw[Zcc (by omega)]at c1
  refine Fun.of T [.tmp 6] Tryz.func237 rfl Tryz.ntmps237 Tryz.results237 rfl (by kernel_rfl) ?_
  repeat' first|refine mq3 c1 ?_|fail
  refine VC.loop {k:Nat//True} (fun p=>⟨z'0 [(0,x'E l),(7,iD 0),(8,w'H []),(9,iD 0)],[]⟩) (fun p=>p.1) ⟨0,trivial⟩ ?_ ?_
  ·refine Weak.sub ?_
   simp[sub,upd]
  rintro⟨k,_⟩
  dsimp only
  repeat' first|refine mq1 @y'T ?_|exact z'r T (z'a _) ⟨rfl,rfl⟩|fail
 |succ f ih=>
  intro a b hf h1 h2 h3
  have c1:=Zmi l hl a b h2 h3
  have hlen:=ZoO l (b-a) a b (z'c _)
  have hall:=ZoN l (b-a) a b (z'c _) h3
  have hle:=fun ts=>ZhC (g:=sdF l f) (m:=f) (ZcU l f) l ts 0 (z'm _)
  have hd:sdF l (f+1) a b=(tp l a b).foldl (sdK (sdF l f) l) 0:=rfl
  rw[hd]
  generalize tp l a b=t at*
  have htl:(t.map fun(i:Nat)=>(i:Int)).length=t.length:=z'i ..
  have htg: ∀i,(t.map fun(i:Nat)=>(i:Int)).getD i 0=((t.getD i 0:Nat):Int):=fun i=>by
   rw[z'f,z'f,z'K]
   cases t[i]?<;>rfl
  refine Fun.of T [.tmp 6] Tryz.func237 rfl Tryz.ntmps237 Tryz.results237 rfl (by kernel_rfl) ?_
  repeat' first|refine mq3 c1 ?_|fail
  refine VC.loop {k:Nat//k≤t.length} (fun p=>⟨z'0 [(0,x'E l),(7,iD ((t.take p.1).foldl (sdK (sdF l f) l) 0:Nat)),(8,w'H (t.map fun(i:Nat)=>(i:Int))),(9,iD (p.1:Nat))],[]⟩) (fun p=>t.length-p.1) ⟨0,z'm _⟩ ?_ ?_
  ·refine Weak.sub ?_
   simp[sub,upd]
  rintro⟨k,hk⟩
  dsimp only at hk⊢
  rcases z'g k t.length with hlt|hge
  case inr=>
   obtain rfl:k=t.length:=by omega
   rw[y'w]
   repeat' first|refine mq1 (mqt2 @y'T @htl) ?_|exact z'r T (z'a _) ⟨rfl,rfl⟩|with_reducible refine z'j (fun hc=>?_) (fun hc=>?_)<;>(try simp only[decide_eq_true_eq,decide_eq_false_iff_not,z'x]at hc)<;>(try(exfalso;omega))|fail
  have e1:decide ((k:Int)<(t.length:Int))=true:=decide_eq_true (by omega)
  have hS:=Zmw (g:=sdK (sdF l f) l) 0 0 hlt
  have hT:=hle (t.take k)
  obtain⟨i,hti⟩: ∃i,t.getD k 0=i:=⟨_,rfl⟩
  obtain⟨g1,g2,g3,g4,g5,g6⟩:=hall (t.getD k 0) (z'8 hlt)
  rw[hti]at g1 g2 g3 g4 g5 g6 hS
  generalize (t.take k).foldl (sdK (sdF l f) l) 0=m at*
  have q1:mdS (l.getD i sm0) i=i+1+(l.getD i sm0).body.toNat:=rfl
  have q2:eeS (l.getD i sm0) i=i+1+(l.getD i sm0).body.toNat+(l.getD i sm0).els.toNat:=rfl
  have cb:=Znw (l.getD i sm0).kind
  have d1:=ih (i+1) (mdS (l.getD i sm0) i) (by omega) (by omega) (by omega) g5
  have d2:=ih (mdS (l.getD i sm0) i) (eeS (l.getD i sm0) i) (by omega) (by omega) (by omega) g6
  rw[show((i+1:Nat):Int)=(i:Int)+1 by omega]at d1
  have l1:=ZcU l f (i+1) (mdS (l.getD i sm0) i)
  have l2:=ZcU l f (mdS (l.getD i sm0) i) (eeS (l.getD i sm0) i)
  have w3:IntKind.i64.wrap ((i:Int)+1)=(i:Int)+1:=w64 (by omega)
  have w4:IntKind.i64.wrap ((i:Int)+1+(l.getD i sm0).body)=(mdS (l.getD i sm0) i:Nat):=by rw[Zjc (by omega)];exact w64 (by omega)
  have w5:IntKind.i64.wrap (((mdS (l.getD i sm0) i:Nat):Int)+(l.getD i sm0).els)=(eeS (l.getD i sm0) i:Nat):=by rw[Zi6 (by omega)];exact w64 (by omega)
  cases hb:Zah (l.getD i sm0).kind with
  |true=>
   rw[hb]at cb
   repeat' first|refine vt rfl fun K hK=>?_;refine Zov rfl rfl rfl rfl ?_;refine hK _ _ ?_;clear hK K;(try simp only[updO])|refine dr (id:=8) T 7 (by kernel_rfl) ?_|refine dr (id:=9) T 18 (by kernel_rfl) ?_|apply VCg.step T rfl rfl;focus((try simp (disch:=omega) only[go_sem,Nat.reduceBEq,Zia,htl,htg,hti,z'b,w3,w5,w64]);(first|exact rfl|refine⟨?_,rfl⟩;try omega|refine Op1.callp rfl rfl (d1) rfl ?_;exact⟨rfl,rfl⟩|refine Op1.callp rfl rfl (d2) rfl ?_;exact⟨rfl,rfl⟩))|refine mq2 (mqt11 @Zia @y'M @smR.eq_1 @y'T @htl @htg @hti @z'b @e1 @w4 @w64) cb ?_|refine mqn fun bq hbq=>?_|refine .wk ?_ ?_;focus(try omega)|fail
   refine⟨⟨k+1,by omega⟩,y'J rfl ?_,by dsimp only;omega⟩
   simp only[hS,sdK,hb]
   simp[sub,upd, -List.getD_eq_getElem?_getD]
   omega
  |false=>
   rw[hb]at cb
   repeat' first|refine mq2 (mqt10 @Zia @y'M @smR.eq_1 @y'T @htl @htg @hti @z'b @e1 @w64) cb ?_|refine mqn fun bq hbq=>?_|refine .wk ?_ ?_;focus(try omega)|fail
   refine⟨⟨k+1,by omega⟩,y'J rfl ?_,by dsimp only;omega⟩
   simp only[hS,sdK,hb]
   simp[sub,upd, -List.getD_eq_getElem?_getD]
theorem Zqk (l:List Sm) (hO:OkS l):Pure Tryz.prog 166 [x'E l] (bD (smB l)):=by
 have hl:=hO.1
 have cw:=Zqt l hl l.length 0 l.length (Nat.sub_le _ _) (z'c _)
 refine Fun.of T [.tmp 2] Tryz.func166 rfl Tryz.ntmps166 Tryz.results166 rfl (by kernel_rfl) ?_
 rcases z'g 200 l.length with h0|h0
 ·have e1:decide ((l.length:Int)>200)=true:=decide_eq_true (by omega)
  have:smB l=false:=by rw[smB,decide_eq_false (by omega)];rfl
  rw[this]
  repeat' first|refine mq1 (mqt2 @x'C @e1) ?_|exact z'r T (z'a _) ⟨rfl,rfl⟩|fail
 have e1:decide ((l.length:Int)>200)=false:=decide_eq_false (by omega)
 cases hw:wh l 0 l.length with
 |false=>
  rw[hw]at cw
  have:smB l=false:=by rw[smB,hw];simp
  rw[this]
  repeat' first|refine mq2 (mqt2 @x'C @e1) cw ?_|exact z'r T (z'a _) ⟨rfl,rfl⟩|fail
 |true=>
  rw[hw]at cw
  have c2:=Zo7 l hl l.length 0 l.length (by omega) (Nat.sub_le _ _) (z'c _) hw
  repeat' first|refine mq2 (mqt2 @x'C @e1) cw ?_|fail
  refine VC.loop {k:Nat//k≤l.length∧ ∀i,i<k→x'0 (l.getD i sm0)=true} (fun p=>⟨z'0 [(0,x'E l),(3,iD (p.1:Nat))],[]⟩) (fun p=>l.length-p.1) ⟨0,z'm _,fun i hi=>by omega⟩ ?_ ?_
  ·refine Weak.sub ?_
   simp[sub,upd]
  rintro⟨j,hj,hs⟩
  dsimp only at hj hs⊢
  rcases z'g j l.length with hlt|hge
  case inr=>
   have ha:=x'X (p:=x'0) (d:=sm0) hge hs
   have e4:decide ((j:Int)<(l.length:Int))=false:=decide_eq_false (by omega)
   have:smB l=decide (sdF l l.length 0 l.length≤30):=by rw[smB,decide_eq_true (by omega),hw,ha];rfl
   rw[this]
   repeat' first|refine mq2 (mqt2 @x'C @e4) c2 ?_|refine z'r T (z'a _) ?_;(try simp only[upd,Nat.reduceBEq,cond_true,cond_false,and_true])|fail
   congr 2
   rw[z'9,decide_eq_true_eq,decide_eq_true_eq]
   omega
  have e4:decide ((j:Int)<(l.length:Int))=true:=decide_eq_true (by omega)
  have hE:=hO.2 _ (z'8 (d:=sm0) hlt)
  have c3:=ZrB (l.getD j sm0) hE.1 hE.2
  repeat' first|refine mq2 (mqt5 @y'M @x'C @z'b @e4 @w64) c3 ?_|refine .wk ?_ ?_;focus(try omega)|refine z'r T (z'a _) ?_;(try simp only[upd,Nat.reduceBEq,cond_true,cond_false,and_true])|with_reducible refine z'j (fun hc=>?_) (fun hc=>?_)<;>(try simp only[z'y,z'G]at hc)|fail
  ·exact z'c _
  ·rw[show smB l=false by rw[smB,w'd hlt hc];simp]
  ·refine⟨⟨j+1,by omega,y'r hs hc⟩,Weak.sub ?_,by dsimp only;omega⟩
   simp[sub,upd]
theorem ZlI (n:Int):Pure Tryz.prog 164 [iD n] (bD (in4 n)):=by
 refine Fun.of T [.tmp 2] Tryz.func164 rfl Tryz.ntmps164 Tryz.results164 rfl (by kernel_rfl) ?_
 repeat' first|refine mq0 ?_|refine z'r T (z'a _) ?_;(try simp only[upd,Nat.reduceBEq,cond_true,cond_false,and_true])|with_reducible refine z'j (fun hc=>?_) (fun hc=>?_)<;>(try simp only[decide_eq_true_eq,decide_eq_false_iff_not,ge_iff_le,y'j]at hc)|fail
 all_goals(congr 2;rw[z'9];simp only[in4,z'd,decide_eq_true_eq,y'x,true_iff,false_iff];omega)
theorem Zk8 (l:List Nod) (hl:l.length≤1000):Pure Tryz.prog 167 [y'4 l] (bD (Za7 l)):=by
 have c1:=ZiI l (by omega)
 have c2:=Zmu l hl
 have hL:(y'R l).length≤l.length:=List.length_filter_le _ _
 refine Fun.of T [.tmp 2] Tryz.func167 rfl Tryz.ntmps167 Tryz.results167 rfl (by kernel_rfl) ?_
 repeat' first|refine mq3 c1 ?_|fail
 refine VC.loop {k:Nat//k≤(y'R l).length∧ ∀i,i<k→(!decide (((y'R l).getD i z'J).op=2))=true} (fun p=>⟨z'0 [(0,y'4 l),(3,y'4 (y'R l)),(4,iD (p.1:Nat))],[]⟩) (fun p=>(y'R l).length-p.1) ⟨0,z'm _,fun i hi=>by omega⟩ ?_ ?_
 ·refine Weak.sub ?_
  simp[sub,upd]
 rintro⟨k,hk,hs⟩
 dsimp only at hk hs⊢
 repeat' first|refine mq2 (mqt5 @y's @z'Z @nodR.eq_1 @w64 @z'b) c2 ?_|refine .wk ?_ ?_;focus(try omega)|refine z'r T (z'a _) ?_;(try simp only[upd,Nat.reduceBEq,cond_true,cond_false,and_true])|with_reducible refine z'j (fun hc=>?_) (fun hc=>?_)<;>(try simp only[decide_eq_true_eq,decide_eq_false_iff_not,beq_iff_eq,beq_eq_false_iff_ne,ne_eq,z'x]at hc)|fail
 ·rw[show Za7 l=false by unfold Za7;rw[w'd (d:=z'J) (i:=k) (by omega) (by rw[decide_eq_true hc];rfl)];rfl]
 ·refine⟨⟨k+1,by omega,y'r hs (by rw[decide_eq_false hc];rfl)⟩,Weak.sub ?_,by dsimp only;omega⟩
  simp[sub,upd]
 ·rw[show Za7 l=exB l by unfold Za7;rw[x'X (d:=z'J) (k:=k) (by omega) hs];rfl]
theorem Zm1 (p:Pg) (hp:v'm p):Pure Tryz.prog 107 [.agg (pgC p)] (bD (pgB p)):=by
 have hl1:=hp.locs
 have hl2:=hp.ths
 have hl3:=hp.cms
 have c1:=ZlI p.md
 refine Fun.of T [.tmp 2] Tryz.func107 rfl Tryz.ntmps107 Tryz.results107 rfl (by kernel_rfl) ?_
 cases hm:in4 p.md with
 |false=>
  rw[hm]at c1
  rw[show pgB p=false by rw[pgB,hm];rfl]
  repeat' first|refine vb (t:=26) rfl rfl rfl rfl ?_|refine mq3 c1 ?_|exact z'r T (z'a _) ⟨rfl,rfl⟩|fail
 |true=>
 rw[hm]at c1
 repeat' first|refine vb (t:=26) rfl rfl rfl rfl ?_|refine mq3 c1 ?_|fail
 refine VC.loop {k:Nat//k≤p.locs.length∧ ∀i,i<k→lvB (p.locs.getD i lv0)=true} (fun q=>⟨z'0 [(1,.pt (pgC p)),(3,iD (q.1:Nat))],[]⟩) (fun q=>p.locs.length-q.1) ⟨0,z'm _,fun i hi=>by omega⟩ ?_ ?_
 ·refine Weak.sub ?_
  simp[sub,upd]
 rintro⟨k,hk,hs⟩
 dsimp only at hk hs⊢
 have n1:=y'7 (p.locs.getD k lv0).nm
 have n2:=ZlI (p.locs.getD k lv0).n
 have no1:k<p.locs.length→lvB (p.locs.getD k lv0)=false→pgB p=false:=fun h1 h2=>by rw[pgB,w'd h1 h2];simp
 repeat' first|refine mq2 (mqt5 @w'U @x'B @lvR.eq_1 @w64 @z'b) (mqt2 n1 n2) ?_|refine .wk ?_ ?_;focus(try omega)|refine z'r T (z'a _) ?_;(try simp only[upd,Nat.reduceBEq,cond_true,cond_false,and_true])|with_reducible refine z'j (fun hc=>?_) (fun hc=>?_)<;>(try simp only[decide_eq_true_eq,decide_eq_false_iff_not,z'y,z'G,z'x]at hc)|fail
 ·rw[no1 (by omega) (by rw[lvB,hc];rfl)]
 ·rw[no1 (by omega) (by rw[lvB,hc];simp)]
 ·rw[no1 (by omega) (by rw[lvB,decide_eq_false (by omega)];simp)]
 ·rename_i h1 h2
  refine⟨⟨k+1,by omega,y'r hs (by rw[lvB,h1,h2,decide_eq_true hc];rfl)⟩,Weak.sub ?_,by dsimp only;omega⟩
  simp[sub,upd]
 have hA:=x'X (p:=lvB) (d:=lv0) (l:=p.locs) (by omega) hs
 clear hs n1 n2 no1 hc hk
 repeat' first
  |(refine vs T rfl fun K hK=>?_;(try simp (disch:=omega) only[go_sem,Nat.reduceBEq,Nat.reduceAdd,Nat.reduceMul,Nat.reduceSub,Nat.reduceLeDiff,Int.reduceToNat]);(first|(refine hK _ _ ?_;clear hK K)|(intro bq hbq;(try simp only[HB]at hbq);refine hK _ _ ?_;clear hK K)|(refine⟨?_,hK _ _ ?_⟩<;>clear hK K;focus(try(first|omega|exact⟨rfl,by decide⟩|exact rfl)))|(refine⟨_,?_,hK _ _ ?_⟩<;>clear hK K)|skip))
  |(refine st rfl ?_)
  |(refine sc rfl ?_)
  |(refine nl ?_)
  |(refine gs rfl rfl ?_)
  |(refine gu rfl rfl ?_)
  |(refine ov ?_)
  |(exact z'r T (z'a _) rfl)
  |(exact z'r T (z'a _) ⟨rfl,rfl⟩)
  |(refine z'r T (z'a _) ?_;(try simp only[upd,Nat.reduceBEq,cond_true,cond_false,and_true]))
  |(with_reducible refine gt ?_ ?_;focus(simp (disch:=omega) only[go_sem,Nat.reduceBEq,Nat.reduceAdd,Nat.reduceMul,Nat.reduceSub,Nat.reduceLeDiff,Int.reduceToNat];done))
  |(with_reducible refine gf ?_ ?_;focus(simp (disch:=omega) only[go_sem,Nat.reduceBEq,Nat.reduceAdd,Nat.reduceMul,Nat.reduceSub,Nat.reduceLeDiff,Int.reduceToNat];done))
  |(with_reducible refine z'j (fun hc=>?_) (fun hc=>?_)<;>(try simp only[decide_eq_true_eq,decide_eq_false_iff_not,beq_iff_eq,beq_eq_false_iff_ne,bne_iff_ne,bne_eq_false_iff_eq,ne_eq,z'y,z'G,Bool.not_eq_true,Bool.not_eq_false,ge_iff_le,gt_iff_lt,y'j,z'x,Decidable.not_not]at hc)<;>(try(exfalso;omega)))
 refine VC.loop {k:Nat//k≤p.ths.length∧ ∀i,i<k→tdB (p.ths.getD i td0)=true} (fun q=>⟨z'0 [(1,.pt (pgC p)),(4,iD (q.1:Nat))],[]⟩) (fun q=>p.ths.length-q.1) ⟨0,z'm _,fun i hi=>by omega⟩ ?_ ?_
 ·refine Weak.sub ?_
  simp[sub,upd]
 rintro⟨k,hk,hs⟩
 dsimp only at hk hs⊢
 rcases z'g k p.ths.length with hlt|hge
 ·have e1:decide ((k:Int)<(p.ths.length:Int))=true:=decide_eq_true (by omega)
  have hT:=hp.td _ (z'8 (d:=td0) hlt)
  have n1:=y'7 (p.ths.getD k td0).nm
  have n2:=Zqk (p.ths.getD k td0).body hT.2
  have no1:tdB (p.ths.getD k td0)=false→pgB p=false:=fun h2=>by rw[pgB,w'd hlt h2];simp
  repeat' first|refine mq2 (mqt5 @w'V @y'X @tdR.eq_1 @z'b @e1) (mqt2 n1 n2) ?_|refine mqn fun bq hbq=>?_|refine .wk ?_ ?_;focus(try omega)|refine z'r T (z'a _) ?_;(try simp only[upd,Nat.reduceBEq,cond_true,cond_false,and_true])|with_reducible refine z'j (fun hc=>?_) (fun hc=>?_)<;>(try simp only[decide_eq_true_eq,decide_eq_false_iff_not,z'y,z'G,z'x]at hc)|fail
  ·rw[no1 (by rw[tdB,hc];rfl)]
  ·rw[no1 (by rw[tdB,hc];simp)]
  ·rw[no1 (by rw[tdB,decide_eq_false (by omega)];simp)]
  rename_i h1 h2
  clear n1 n2
  repeat' first
   |(refine vs T rfl fun K hK=>?_;(try simp (disch:=omega) only[go_sem,Nat.reduceBEq,Nat.reduceAdd,Nat.reduceMul,Nat.reduceSub,Nat.reduceLeDiff,Int.reduceToNat]);(first|(refine hK _ _ ?_;clear hK K)|(intro bq hbq;(try simp only[HB]at hbq);refine hK _ _ ?_;clear hK K)|(refine⟨?_,hK _ _ ?_⟩<;>clear hK K;focus(try(first|omega|exact⟨rfl,by decide⟩|exact rfl)))|(refine⟨_,?_,hK _ _ ?_⟩<;>clear hK K)|skip))
   |(refine st rfl ?_)
   |(refine sc rfl ?_)
   |(refine nl ?_)
   |(refine gs rfl rfl ?_)
   |(refine gu rfl rfl ?_)
   |(refine ov ?_)
   |(exact z'r T (z'a _) rfl)
   |(exact z'r T (z'a _) ⟨rfl,rfl⟩)
   |(refine z'r T (z'a _) ?_;(try simp only[upd,Nat.reduceBEq,cond_true,cond_false,and_true]))
   |(with_reducible refine gt ?_ ?_;focus(simp (disch:=omega) only[go_sem,Nat.reduceBEq,Nat.reduceAdd,Nat.reduceMul,Nat.reduceSub,Nat.reduceLeDiff,Int.reduceToNat];done))
   |(with_reducible refine gf ?_ ?_;focus(simp (disch:=omega) only[go_sem,Nat.reduceBEq,Nat.reduceAdd,Nat.reduceMul,Nat.reduceSub,Nat.reduceLeDiff,Int.reduceToNat];done))
   |(with_reducible refine z'j (fun hc=>?_) (fun hc=>?_)<;>(try simp only[decide_eq_true_eq,decide_eq_false_iff_not,beq_iff_eq,beq_eq_false_iff_ne,bne_iff_ne,bne_eq_false_iff_eq,ne_eq,z'y,z'G,Bool.not_eq_true,Bool.not_eq_false,ge_iff_le,gt_iff_lt,y'j,z'x,Decidable.not_not]at hc)<;>(try(exfalso;omega)))
  refine VC.loop {j:Nat//j≤(p.ths.getD k td0).regs.length∧ ∀i,i<j→nmB ((p.ths.getD k td0).regs.getD i e0)=true} (fun q=>⟨z'0 [(1,.pt (pgC p)),(4,iD (k:Nat)),(5,ptB bq),(6,iD (q.1:Nat))],[(bq,.cells 45 4 (tdR (p.ths.getD k td0)))]⟩) (fun q=>(p.ths.getD k td0).regs.length-q.1) ⟨0,z'm _,fun i hi=>by omega⟩ ?_ ?_
  ·refine z'O rfl ?_
   simp[sub,upd]
  rintro⟨j,hj,hr⟩
  dsimp only at hj hr⊢
  have hj1:=hT.1
  rcases z'g j (p.ths.getD k td0).regs.length with hlj|hge
  ·have e2:decide ((j:Int)<((p.ths.getD k td0).regs.length:Int))=true:=decide_eq_true (by omega)
   have n1:=y'7 ((p.ths.getD k td0).regs.getD j e0)
   repeat' first|refine mq2 (mqt6 @w'4 @x'h @tdR.eq_1 @w64 @z'b @e2) n1 ?_|refine .wk ?_ ?_;focus(try omega)|refine z'r T (z'a _) ?_;(try simp only[upd,Nat.reduceBEq,cond_true,cond_false,and_true])|with_reducible refine z'j (fun hc=>?_) (fun hc=>?_)<;>(try simp only[z'y,z'G]at hc)|fail
   ·rw[no1 (by rw[tdB,w'd hlj hc];simp)]
   ·refine⟨⟨j+1,by omega,y'r hr hc⟩,z'O rfl ?_,by dsimp only;omega⟩
    simp[sub,upd, -List.getD_eq_getElem?_getD]
  have e2:decide ((j:Int)<((p.ths.getD k td0).regs.length:Int))=false:=decide_eq_false (by omega)
  have hR:=x'X (p:=nmB) (d:=e0) (l:=(p.ths.getD k td0).regs) (by omega) hr
  repeat' first|refine mq1 (mqt4 @x'h @tdR.eq_1 @w64 @e2) ?_|fail
  refine⟨⟨k+1,by omega,y'r hs (by rw[tdB,h1,h2,decide_eq_true hc,hR];rfl)⟩,y'J rfl ?_,by dsimp only;omega⟩
  simp[sub,upd]
 have e1:decide ((k:Int)<(p.ths.length:Int))=false:=decide_eq_false (by omega)
 have hB:=x'X (p:=tdB) (d:=td0) (l:=p.ths) (by omega) hs
 clear hs
 repeat' first|refine mq1 (mqt2 @y'X @e1) ?_|fail
 refine VC.loop {k:Nat//k≤p.cms.length∧ ∀i,i<k→cmB (p.cms.getD i cm0)=true} (fun q=>⟨z'0 [(1,.pt (pgC p)),(7,iD (q.1:Nat))],[]⟩) (fun q=>p.cms.length-q.1) ⟨0,z'm _,fun i hi=>by omega⟩ ?_ ?_
 ·refine Weak.sub ?_
  simp[sub,upd]
 rintro⟨k,hk,hs⟩
 dsimp only at hk hs⊢
 rcases z'g k p.cms.length with hlt|hge
 ·have e1:decide ((k:Int)<(p.cms.length:Int))=true:=decide_eq_true (by omega)
  have hT:=hp.cm _ (z'8 (d:=cm0) hlt)
  have n1:=Zk8 (p.cms.getD k cm0).e hT
  have no1:cmB (p.cms.getD k cm0)=false→pgB p=false:=fun h2=>by rw[pgB,w'd hlt h2];simp
  repeat' first|refine mq2 (mqt6 @ZdO @v'b @cmR.eq_1 @w64 @z'b @e1) n1 ?_|refine mqn fun bq hbq=>?_|refine .wk ?_ ?_;focus(try omega)|refine z'r T (z'a _) ?_;(try simp only[upd,Nat.reduceBEq,cond_true,cond_false,and_true])|with_reducible refine z'j (fun hc=>?_) (fun hc=>?_)<;>(try simp only[decide_eq_true_eq,decide_eq_false_iff_not,z'y,z'G,gt_iff_lt,z'x]at hc)|fail
  ·rw[no1 (by rw[cmB,decide_eq_false (by omega)];simp)]
  ·rw[no1 (by rw[cmB,decide_eq_false (p:=(p.cms.getD k cm0).kind≤3) (by omega)];simp)]
  ·rw[no1 (by rw[cmB,hc];simp)]
  ·rw[no1 (by rw[cmB,decide_eq_false (p:=0≤(p.cms.getD k cm0).pl) (by omega)];simp)]
  ·rename_i h1 h2 h3
   refine⟨⟨k+1,by omega,y'r hs (by rw[cmB,decide_eq_true h1,decide_eq_true h2,h3,decide_eq_true hc];rfl)⟩,y'J rfl ?_,by dsimp only;omega⟩
   simp[sub,upd]
 have e1:decide ((k:Int)<(p.cms.length:Int))=false:=decide_eq_false (by omega)
 have hC:=x'X (p:=cmB) (d:=cm0) (l:=p.cms) (by omega) hs
 rw[show pgB p=true by rw[pgB,hm,hA,hB,hC];rfl]
 repeat' first|refine mq1 (mqt2 @v'b @e1) ?_|exact z'r T (z'a _) ⟨rfl,rfl⟩|fail
end Go.Proofs.YthlkpnjjkgmlkaaGreat
