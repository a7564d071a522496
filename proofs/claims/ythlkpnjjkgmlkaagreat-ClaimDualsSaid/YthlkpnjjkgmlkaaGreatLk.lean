/- Contracts: the reference's statements: how deep, all; programs. No condition. -/
import Derived.Test.YthlkpnjjkgmlkaaGreatLi
namespace Go.Proofs.YthlkpnjjkgmlkaaGreat
set_option maxHeartbeats 16000000
set_option linter.unusedSimpArgs false
set_option linter.unusedVariables false
set_option maxRecDepth 20000
open Go Go.Proofs Go.Vc
attribute [local irreducible] x'v VCg VCw VCx
theorem ZnX {α β:Type} {g:β→α→β} {l:List α} {k:Nat} (d:α) (b:β) (h:k<l.length):(l.take (k+1)).foldl g b=g ((l.take k).foldl g b) (l.getD k d):=by
 rw[Zde d h,List.foldl_append];rfl
theorem ZuA {P:Program} {o:Oper} {E:Operand→D} {H:Heap} {K:D→Heap→Prop} {x y z:Operand} {ts:Array TypeId} {k:IntKind} {a b c:Int} (ho:o.op= .call ⟨.builtin .max, #[x,y,z],ts⟩) (ha:E x= .is (.int k a)) (hb:E y= .is (.int k b)) (hc:E z= .is (.int k c)) (hk:K (.is (.int k (max (max a b) c))) H):Op1 P o E H K:=by
 refine Op1.value (d:= .is (.int k (max (max a b) c))) (fun w L0 ε hi hx=>?_) hk
 have h1:=hx x (by simp[ho,Op.operands,Call.operands])
 have h2:=hx y (by simp[ho,Op.operands,Call.operands])
 have h3:=hx z (by simp[ho,Op.operands,Call.operands])
 rw[ha]at h1;rw[hb]at h2;rw[hc]at h3
 have h1':ε x= .int k a:=h1
 have h2':ε y= .int k b:=h2
 have h3':ε z= .int k c:=h3
 refine⟨.int k (max (max a b) c),?_,rfl⟩
 simp only[execOp,ho,resolve,invoke,builtin]
 simp[go_sem,h1',h2',h3',Builtin.max_,Builtin.max2]
 split<;>split<;>omega
theorem Zqp (l:List Sm) (hl:l.length≤1000): ∀(f a b:Nat),f≤1000→b-a≤f→b≤l.length→wh l a b=true→Pure Tryz.prog 237 [v'I l,iD (a:Nat),iD (b:Nat)] (iD (sdF l f a b:Nat)):=by
 intro f
 induction f with
 |zero=>
  intro a b _ h1 h2 h3
  have c1:=ZnE l hl a b h2 h3
  rw[ZeS (by omega)]at c1
  refine Fun.of T [.tmp 6] Tryz.func237 rfl Tryz.ntmps237 Tryz.results237 rfl (by kernel_rfl) ?_
  repeat' first|refine mq3 c1 ?_|fail
  refine VC.loop {k:Nat//True} (fun p=>⟨z'T [(0,v'I l),(7,iD 0),(8,y'r []),(9,iD 0)],[]⟩) (fun p=>p.1) ⟨0,trivial⟩ ?_ ?_
  ·refine Weak.sub ?_
   simp[sub,upd]
  rintro⟨k,_⟩
  dsimp only
  repeat' first|refine mq1 @z'o ?_|exact z'p T (z'a _) ⟨rfl,rfl⟩|fail
 |succ f ih=>
  intro a b hf h1 h2 h3
  have c1:=ZnE l hl a b h2 h3
  have hlen:=Zp7 l (b-a) a b (z'h _)
  have hall:=Zp6 l (b-a) a b (z'h _) h3
  have hle:=fun ts=>Zma (g:=sdF l f) (m:=f) (ZiB l f) l ts 0 (z'A _)
  have hd:sdF l (f+1) a b=(tp l a b).foldl (sdK (sdF l f) l) 0:=rfl
  rw[hd]
  generalize tp l a b=t at*
  have htl:(t.map fun(i:Nat)=>(i:Int)).length=t.length:=z'm ..
  have htg: ∀i,(t.map fun(i:Nat)=>(i:Int)).getD i 0=((t.getD i 0:Nat):Int):=fun i=>by
   rw[z'g,z'g,y'c]
   cases t[i]?<;>rfl
  refine Fun.of T [.tmp 6] Tryz.func237 rfl Tryz.ntmps237 Tryz.results237 rfl (by kernel_rfl) ?_
  repeat' first|refine mq3 c1 ?_|fail
  refine VC.loop {k:Nat//k≤t.length} (fun p=>⟨z'T [(0,v'I l),(7,iD ((t.take p.1).foldl (sdK (sdF l f) l) 0:Nat)),(8,y'r (t.map fun(i:Nat)=>(i:Int))),(9,iD (p.1:Nat))],[]⟩) (fun p=>t.length-p.1) ⟨0,z'A _⟩ ?_ ?_
  ·refine Weak.sub ?_
   simp[sub,upd]
  rintro⟨k,hk⟩
  dsimp only at hk⊢
  rcases z'i k t.length with hlt|hge
  case inr=>
   obtain rfl:k=t.length:=by omega
   rw[y'g]
   repeat' first|refine mq1 (z'X @z'o @htl) ?_|exact z'p T (z'a _) ⟨rfl,rfl⟩|with_reducible refine z'n (fun hc=>?_) (fun hc=>?_)<;>(try simp only[decide_eq_true_eq,decide_eq_false_iff_not,z'w]at hc)<;>(try(exfalso;omega))|fail
  have e1:decide ((k:Int)<(t.length:Int))=true:=decide_eq_true (by omega)
  have hS:=ZnX (g:=sdK (sdF l f) l) 0 0 hlt
  have hT:=hle (t.take k)
  obtain⟨i,hti⟩: ∃i,t.getD k 0=i:=⟨_,rfl⟩
  obtain⟨g1,g2,g3,g4,g5,g6⟩:=hall (t.getD k 0) (x'p hlt)
  rw[hti]at g1 g2 g3 g4 g5 g6 hS
  generalize (t.take k).foldl (sdK (sdF l f) l) 0=m at*
  have q1:mdS (l.getD i sm0) i=i+1+(l.getD i sm0).body.toNat:=rfl
  have q2:eeS (l.getD i sm0) i=i+1+(l.getD i sm0).body.toNat+(l.getD i sm0).els.toNat:=rfl
  have cb:=ZoV (l.getD i sm0).kind
  have d1:=ih (i+1) (mdS (l.getD i sm0) i) (by omega) (by omega) (by omega) g5
  have d2:=ih (mdS (l.getD i sm0) i) (eeS (l.getD i sm0) i) (by omega) (by omega) (by omega) g6
  rw[show((i+1:Nat):Int)=(i:Int)+1 by omega]at d1
  have l1:=ZiB l f (i+1) (mdS (l.getD i sm0) i)
  have l2:=ZiB l f (mdS (l.getD i sm0) i) (eeS (l.getD i sm0) i)
  have w3:IntKind.i64.wrap ((i:Int)+1)=(i:Int)+1:=w64 (by omega)
  have w4:IntKind.i64.wrap ((i:Int)+1+(l.getD i sm0).body)=(mdS (l.getD i sm0) i:Nat):=by rw[Zkt (by omega)];exact w64 (by omega)
  have w5:IntKind.i64.wrap (((mdS (l.getD i sm0) i:Nat):Int)+(l.getD i sm0).els)=(eeS (l.getD i sm0) i:Nat):=by rw[Zkm (by omega)];exact w64 (by omega)
  cases hb:Zei (l.getD i sm0).kind with
  |true=>
   rw[hb]at cb
   repeat' first|refine vt rfl fun K hK=>?_;refine ZuA rfl rfl rfl rfl ?_;refine hK _ _ ?_;clear hK K;(try simp only[updO])|refine dr (id:=8) T 7 (by kernel_rfl) ?_|refine dr (id:=9) T 18 (by kernel_rfl) ?_|apply VCg.step T rfl rfl;focus((try simp (disch:=omega) only[go_sem,Nat.reduceBEq,x'F,htl,htg,hti,z'e,w3,w5,w64]);(first|exact rfl|refine⟨?_,rfl⟩;try omega|refine Op1.callp rfl rfl (d1) rfl ?_;exact⟨rfl,rfl⟩|refine Op1.callp rfl rfl (d2) rfl ?_;exact⟨rfl,rfl⟩))|refine mq2 (Zdc @x'F @x'T @smR.eq_1 @z'o @htl @htg @hti @z'e @e1 @w4 @w64) cb ?_|refine mqn fun bq hbq=>?_|refine .wk ?_ ?_;focus(try omega)|fail
   refine⟨⟨k+1,by omega⟩,y'U rfl ?_,by dsimp only;omega⟩
   simp only[hS,sdK,hb]
   simp[sub,upd, -List.getD_eq_getElem?_getD]
   omega
  |false=>
   rw[hb]at cb
   repeat' first|refine mq2 (Zaa @x'F @x'T @smR.eq_1 @z'o @htl @htg @hti @z'e @e1 @w64) cb ?_|refine mqn fun bq hbq=>?_|refine .wk ?_ ?_;focus(try omega)|fail
   refine⟨⟨k+1,by omega⟩,y'U rfl ?_,by dsimp only;omega⟩
   simp only[hS,sdK,hb]
   simp[sub,upd, -List.getD_eq_getElem?_getD]
theorem ZrK (l:List Sm) (hO:OkS l):Pure Tryz.prog 166 [v'I l] (bD (smB l)):=by
 have hl:=hO.1
 have cw:=ZrU l hl l.length 0 l.length (Nat.sub_le _ _) (z'h _)
 refine Fun.of T [.tmp 2] Tryz.func166 rfl Tryz.ntmps166 Tryz.results166 rfl (by kernel_rfl) ?_
 rcases z'i 200 l.length with h0|h0
 ·have e1:decide ((l.length:Int)>200)=true:=decide_eq_true (by omega)
  have:smB l=false:=by rw[smB,decide_eq_false (by omega)];rfl
  rw[this]
  repeat' first|refine mq1 (z'X @v's @e1) ?_|exact z'p T (z'a _) ⟨rfl,rfl⟩|fail
 have e1:decide ((l.length:Int)>200)=false:=decide_eq_false (by omega)
 cases hw:wh l 0 l.length with
 |false=>
  rw[hw]at cw
  have:smB l=false:=by rw[smB,hw];simp
  rw[this]
  repeat' first|refine mq2 (z'X @v's @e1) cw ?_|exact z'p T (z'a _) ⟨rfl,rfl⟩|fail
 |true=>
  rw[hw]at cw
  have c2:=Zqp l hl l.length 0 l.length (by omega) (Nat.sub_le _ _) (z'h _) hw
  repeat' first|refine mq2 (z'X @v's @e1) cw ?_|fail
  refine VC.loop {k:Nat//k≤l.length∧ ∀i,i<k→Zc4 (l.getD i sm0)=true} (fun p=>⟨z'T [(0,v'I l),(3,iD (p.1:Nat))],[]⟩) (fun p=>l.length-p.1) ⟨0,z'A _,fun i hi=>by omega⟩ ?_ ?_
  ·refine Weak.sub ?_
   simp[sub,upd]
  rintro⟨j,hj,hs⟩
  dsimp only at hj hs⊢
  rcases z'i j l.length with hlt|hge
  case inr=>
   have ha:=w'3 (p:=Zc4) (d:=sm0) hge hs
   have e4:decide ((j:Int)<(l.length:Int))=false:=decide_eq_false (by omega)
   have:smB l=decide (sdF l l.length 0 l.length≤30):=by rw[smB,decide_eq_true (by omega),hw,ha];rfl
   rw[this]
   repeat' first|refine mq2 (z'X @v's @e4) c2 ?_|refine z'p T (z'a _) ?_;(try simp only[upd,Nat.reduceBEq,cond_true,cond_false,and_true])|fail
   congr 2
   rw[x'g,decide_eq_true_eq,decide_eq_true_eq]
   omega
  have e4:decide ((j:Int)<(l.length:Int))=true:=decide_eq_true (by omega)
  have hE:=hO.2 _ (x'p (d:=sm0) hlt)
  have c3:=Zs3 (l.getD j sm0) hE.1 hE.2
  repeat' first|refine mq2 (y'Z @x'T @v's @z'e @e4 @w64) c3 ?_|refine .wk ?_ ?_;focus(try omega)|refine z'p T (z'a _) ?_;(try simp only[upd,Nat.reduceBEq,cond_true,cond_false,and_true])|with_reducible refine z'n (fun hc=>?_) (fun hc=>?_)<;>(try simp only[z'x,z'B]at hc)|fail
  ·exact z'h _
  ·rw[show smB l=false by rw[smB,v'D hlt hc];simp]
  ·refine⟨⟨j+1,by omega,y's hs hc⟩,Weak.sub ?_,by dsimp only;omega⟩
   simp[sub,upd]
theorem Zm6 (n:Int):Pure Tryz.prog 164 [iD n] (bD (in4 n)):=by
 refine Fun.of T [.tmp 2] Tryz.func164 rfl Tryz.ntmps164 Tryz.results164 rfl (by kernel_rfl) ?_
 repeat' first|refine mq0 ?_|refine z'p T (z'a _) ?_;(try simp only[upd,Nat.reduceBEq,cond_true,cond_false,and_true])|with_reducible refine z'n (fun hc=>?_) (fun hc=>?_)<;>(try simp only[decide_eq_true_eq,decide_eq_false_iff_not,ge_iff_le,y'b]at hc)|fail
 all_goals(congr 2;rw[x'g];simp only[in4,z'f,decide_eq_true_eq,x'c,true_iff,false_iff];omega)
theorem Zms (l:List Nod) (hl:l.length≤1000):Pure Tryz.prog 167 [w'5 l] (bD (ZiI l)):=by
 have c1:=ZjP l (by omega)
 have c2:=ZnU l hl
 have hL:(v'y l).length≤l.length:=List.length_filter_le _ _
 refine Fun.of T [.tmp 2] Tryz.func167 rfl Tryz.ntmps167 Tryz.results167 rfl (by kernel_rfl) ?_
 repeat' first|refine mq3 c1 ?_|fail
 refine VC.loop {k:Nat//k≤(v'y l).length∧ ∀i,i<k→(!decide (((v'y l).getD i y'e).op=2))=true} (fun p=>⟨z'T [(0,w'5 l),(3,w'5 (v'y l)),(4,iD (p.1:Nat))],[]⟩) (fun p=>(v'y l).length-p.1) ⟨0,z'A _,fun i hi=>by omega⟩ ?_ ?_
 ·refine Weak.sub ?_
  simp[sub,upd]
 rintro⟨k,hk,hs⟩
 dsimp only at hk hs⊢
 repeat' first|refine mq2 (y'Z @w'R @y'K @nodR.eq_1 @w64 @z'e) c2 ?_|refine .wk ?_ ?_;focus(try omega)|refine z'p T (z'a _) ?_;(try simp only[upd,Nat.reduceBEq,cond_true,cond_false,and_true])|with_reducible refine z'n (fun hc=>?_) (fun hc=>?_)<;>(try simp only[decide_eq_true_eq,decide_eq_false_iff_not,beq_iff_eq,beq_eq_false_iff_ne,ne_eq,z'w]at hc)|fail
 ·rw[show ZiI l=false by unfold ZiI;rw[v'D (d:=y'e) (i:=k) (by omega) (by rw[decide_eq_true hc];rfl)];rfl]
 ·refine⟨⟨k+1,by omega,y's hs (by rw[decide_eq_false hc];rfl)⟩,Weak.sub ?_,by dsimp only;omega⟩
  simp[sub,upd]
 ·rw[show ZiI l=exB l by unfold ZiI;rw[w'3 (d:=y'e) (k:=k) (by omega) hs];rfl]
theorem Zoo (p:Pg) (hp:Zeg p):Pure Tryz.prog 107 [.agg (pgC p)] (bD (pgB p)):=by
 have hl1:=hp.locs
 have hl2:=hp.ths
 have hl3:=hp.cms
 have c1:=Zm6 p.md
 refine Fun.of T [.tmp 2] Tryz.func107 rfl Tryz.ntmps107 Tryz.results107 rfl (by kernel_rfl) ?_
 cases hm:in4 p.md with
 |false=>
  rw[hm]at c1
  rw[show pgB p=false by rw[pgB,hm];rfl]
  repeat' first|refine vb (t:=26) rfl rfl rfl rfl ?_|refine mq3 c1 ?_|exact z'p T (z'a _) ⟨rfl,rfl⟩|fail
 |true=>
 rw[hm]at c1
 repeat' first|refine vb (t:=26) rfl rfl rfl rfl ?_|refine mq3 c1 ?_|fail
 refine VC.loop {k:Nat//k≤p.locs.length∧ ∀i,i<k→lvB (p.locs.getD i lv0)=true} (fun q=>⟨z'T [(1,.pt (pgC p)),(3,iD (q.1:Nat))],[]⟩) (fun q=>p.locs.length-q.1) ⟨0,z'A _,fun i hi=>by omega⟩ ?_ ?_
 ·refine Weak.sub ?_
  simp[sub,upd]
 rintro⟨k,hk,hs⟩
 dsimp only at hk hs⊢
 have n1:=x'u (p.locs.getD k lv0).nm
 have n2:=Zm6 (p.locs.getD k lv0).n
 have no1:k<p.locs.length→lvB (p.locs.getD k lv0)=false→pgB p=false:=fun h1 h2=>by rw[pgB,v'D h1 h2];simp
 repeat' first|refine mq2 (y'Z @ZeJ @v'o @lvR.eq_1 @w64 @z'e) (z'X n1 n2) ?_|refine .wk ?_ ?_;focus(try omega)|refine z'p T (z'a _) ?_;(try simp only[upd,Nat.reduceBEq,cond_true,cond_false,and_true])|with_reducible refine z'n (fun hc=>?_) (fun hc=>?_)<;>(try simp only[decide_eq_true_eq,decide_eq_false_iff_not,z'x,z'B,z'w]at hc)|fail
 ·rw[no1 (by omega) (by rw[lvB,hc];rfl)]
 ·rw[no1 (by omega) (by rw[lvB,hc];simp)]
 ·rw[no1 (by omega) (by rw[lvB,decide_eq_false (by omega)];simp)]
 ·rename_i h1 h2
  refine⟨⟨k+1,by omega,y's hs (by rw[lvB,h1,h2,decide_eq_true hc];rfl)⟩,Weak.sub ?_,by dsimp only;omega⟩
  simp[sub,upd]
 have hA:=w'3 (p:=lvB) (d:=lv0) (l:=p.locs) (by omega) hs
 clear hs n1 n2 no1 hc hk
 repeat' first
  |(refine vs T rfl fun K hK=>?_;(try simp (disch:=omega) only[go_sem,Nat.reduceBEq,Nat.reduceAdd,Nat.reduceMul,Nat.reduceSub,Nat.reduceLeDiff,Int.reduceToNat]);(first|(refine hK _ _ ?_;clear hK K)|(intro bq hbq;(try simp only[HB]at hbq);refine hK _ _ ?_;clear hK K)|(refine⟨?_,hK _ _ ?_⟩<;>clear hK K;focus(try(first|omega|exact⟨rfl,by decide⟩|exact rfl)))|(refine⟨_,?_,hK _ _ ?_⟩<;>clear hK K)|skip))
  |(refine st rfl ?_)
  |(refine sc rfl ?_)
  |(refine nl ?_)
  |(refine gs rfl rfl ?_)
  |(refine gu rfl rfl ?_)
  |(refine ov ?_)
  |(exact z'p T (z'a _) rfl)
  |(exact z'p T (z'a _) ⟨rfl,rfl⟩)
  |(refine z'p T (z'a _) ?_;(try simp only[upd,Nat.reduceBEq,cond_true,cond_false,and_true]))
  |(with_reducible refine gt ?_ ?_;focus(simp (disch:=omega) only[go_sem,Nat.reduceBEq,Nat.reduceAdd,Nat.reduceMul,Nat.reduceSub,Nat.reduceLeDiff,Int.reduceToNat];done))
  |(with_reducible refine gf ?_ ?_;focus(simp (disch:=omega) only[go_sem,Nat.reduceBEq,Nat.reduceAdd,Nat.reduceMul,Nat.reduceSub,Nat.reduceLeDiff,Int.reduceToNat];done))
  |(with_reducible refine z'n (fun hc=>?_) (fun hc=>?_)<;>(try simp only[decide_eq_true_eq,decide_eq_false_iff_not,beq_iff_eq,beq_eq_false_iff_ne,bne_iff_ne,bne_eq_false_iff_eq,ne_eq,z'x,z'B,Bool.not_eq_true,Bool.not_eq_false,ge_iff_le,gt_iff_lt,y'b,z'w,Decidable.not_not]at hc)<;>(try(exfalso;omega)))
 refine VC.loop {k:Nat//k≤p.ths.length∧ ∀i,i<k→tdB (p.ths.getD i td0)=true} (fun q=>⟨z'T [(1,.pt (pgC p)),(4,iD (q.1:Nat))],[]⟩) (fun q=>p.ths.length-q.1) ⟨0,z'A _,fun i hi=>by omega⟩ ?_ ?_
 ·refine Weak.sub ?_
  simp[sub,upd]
 rintro⟨k,hk,hs⟩
 dsimp only at hk hs⊢
 rcases z'i k p.ths.length with hlt|hge
 ·have e1:decide ((k:Int)<(p.ths.length:Int))=true:=decide_eq_true (by omega)
  have hT:=hp.td _ (x'p (d:=td0) hlt)
  have n1:=x'u (p.ths.getD k td0).nm
  have n2:=ZrK (p.ths.getD k td0).body hT.2
  have no1:tdB (p.ths.getD k td0)=false→pgB p=false:=fun h2=>by rw[pgB,v'D hlt h2];simp
  repeat' first|refine mq2 (y'Z @ZcT @w'D @tdR.eq_1 @z'e @e1) (z'X n1 n2) ?_|refine mqn fun bq hbq=>?_|refine .wk ?_ ?_;focus(try omega)|refine z'p T (z'a _) ?_;(try simp only[upd,Nat.reduceBEq,cond_true,cond_false,and_true])|with_reducible refine z'n (fun hc=>?_) (fun hc=>?_)<;>(try simp only[decide_eq_true_eq,decide_eq_false_iff_not,z'x,z'B,z'w]at hc)|fail
  ·rw[no1 (by rw[tdB,hc];rfl)]
  ·rw[no1 (by rw[tdB,hc];simp)]
  ·rw[no1 (by rw[tdB,decide_eq_false (by omega)];simp)]
  rename_i h1 h2
  clear n1 n2
  repeat' first
   |(refine vs T rfl fun K hK=>?_;(try simp (disch:=omega) only[go_sem,Nat.reduceBEq,Nat.reduceAdd,Nat.reduceMul,Nat.reduceSub,Nat.reduceLeDiff,Int.reduceToNat]);(first|(refine hK _ _ ?_;clear hK K)|(intro bq hbq;(try simp only[HB]at hbq);refine hK _ _ ?_;clear hK K)|(refine⟨?_,hK _ _ ?_⟩<;>clear hK K;focus(try(first|omega|exact⟨rfl,by decide⟩|exact rfl)))|(refine⟨_,?_,hK _ _ ?_⟩<;>clear hK K)|skip))
   |(refine st rfl ?_)
   |(refine sc rfl ?_)
   |(refine nl ?_)
   |(refine gs rfl rfl ?_)
   |(refine gu rfl rfl ?_)
   |(refine ov ?_)
   |(exact z'p T (z'a _) rfl)
   |(exact z'p T (z'a _) ⟨rfl,rfl⟩)
   |(refine z'p T (z'a _) ?_;(try simp only[upd,Nat.reduceBEq,cond_true,cond_false,and_true]))
   |(with_reducible refine gt ?_ ?_;focus(simp (disch:=omega) only[go_sem,Nat.reduceBEq,Nat.reduceAdd,Nat.reduceMul,Nat.reduceSub,Nat.reduceLeDiff,Int.reduceToNat];done))
   |(with_reducible refine gf ?_ ?_;focus(simp (disch:=omega) only[go_sem,Nat.reduceBEq,Nat.reduceAdd,Nat.reduceMul,Nat.reduceSub,Nat.reduceLeDiff,Int.reduceToNat];done))
   |(with_reducible refine z'n (fun hc=>?_) (fun hc=>?_)<;>(try simp only[decide_eq_true_eq,decide_eq_false_iff_not,beq_iff_eq,beq_eq_false_iff_ne,bne_iff_ne,bne_eq_false_iff_eq,ne_eq,z'x,z'B,Bool.not_eq_true,Bool.not_eq_false,ge_iff_le,gt_iff_lt,y'b,z'w,Decidable.not_not]at hc)<;>(try(exfalso;omega)))
  refine VC.loop {j:Nat//j≤(p.ths.getD k td0).regs.length∧ ∀i,i<j→nmB ((p.ths.getD k td0).regs.getD i e0)=true} (fun q=>⟨z'T [(1,.pt (pgC p)),(4,iD (k:Nat)),(5,ptB bq),(6,iD (q.1:Nat))],[(bq,.cells 45 4 (tdR (p.ths.getD k td0)))]⟩) (fun q=>(p.ths.getD k td0).regs.length-q.1) ⟨0,z'A _,fun i hi=>by omega⟩ ?_ ?_
  ·refine z'Q rfl ?_
   simp[sub,upd]
  rintro⟨j,hj,hr⟩
  dsimp only at hj hr⊢
  have hj1:=hT.1
  rcases z'i j (p.ths.getD k td0).regs.length with hlj|hge
  ·have e2:decide ((j:Int)<((p.ths.getD k td0).regs.length:Int))=true:=decide_eq_true (by omega)
   have n1:=x'u ((p.ths.getD k td0).regs.getD j e0)
   repeat' first|refine mq2 (x'V @ZeK @w'W @tdR.eq_1 @w64 @z'e @e2) n1 ?_|refine .wk ?_ ?_;focus(try omega)|refine z'p T (z'a _) ?_;(try simp only[upd,Nat.reduceBEq,cond_true,cond_false,and_true])|with_reducible refine z'n (fun hc=>?_) (fun hc=>?_)<;>(try simp only[z'x,z'B]at hc)|fail
   ·rw[no1 (by rw[tdB,v'D hlj hc];simp)]
   ·refine⟨⟨j+1,by omega,y's hr hc⟩,z'Q rfl ?_,by dsimp only;omega⟩
    simp[sub,upd, -List.getD_eq_getElem?_getD]
  have e2:decide ((j:Int)<((p.ths.getD k td0).regs.length:Int))=false:=decide_eq_false (by omega)
  have hR:=w'3 (p:=nmB) (d:=e0) (l:=(p.ths.getD k td0).regs) (by omega) hr
  repeat' first|refine mq1 (x'f @w'W @tdR.eq_1 @w64 @e2) ?_|fail
  refine⟨⟨k+1,by omega,y's hs (by rw[tdB,h1,h2,decide_eq_true hc,hR];rfl)⟩,y'U rfl ?_,by dsimp only;omega⟩
  simp[sub,upd]
 have e1:decide ((k:Int)<(p.ths.length:Int))=false:=decide_eq_false (by omega)
 have hB:=w'3 (p:=tdB) (d:=td0) (l:=p.ths) (by omega) hs
 clear hs
 repeat' first|refine mq1 (z'X @w'D @e1) ?_|fail
 refine VC.loop {k:Nat//k≤p.cms.length∧ ∀i,i<k→cmB (p.cms.getD i cm0)=true} (fun q=>⟨z'T [(1,.pt (pgC p)),(7,iD (q.1:Nat))],[]⟩) (fun q=>p.cms.length-q.1) ⟨0,z'A _,fun i hi=>by omega⟩ ?_ ?_
 ·refine Weak.sub ?_
  simp[sub,upd]
 rintro⟨k,hk,hs⟩
 dsimp only at hk hs⊢
 rcases z'i k p.cms.length with hlt|hge
 ·have e1:decide ((k:Int)<(p.cms.length:Int))=true:=decide_eq_true (by omega)
  have hT:=hp.cm _ (x'p (d:=cm0) hlt)
  have n1:=Zms (p.cms.getD k cm0).e hT
  have no1:cmB (p.cms.getD k cm0)=false→pgB p=false:=fun h2=>by rw[pgB,v'D hlt h2];simp
  repeat' first|refine mq2 (x'V @Zim @Zbw @cmR.eq_1 @w64 @z'e @e1) n1 ?_|refine mqn fun bq hbq=>?_|refine .wk ?_ ?_;focus(try omega)|refine z'p T (z'a _) ?_;(try simp only[upd,Nat.reduceBEq,cond_true,cond_false,and_true])|with_reducible refine z'n (fun hc=>?_) (fun hc=>?_)<;>(try simp only[decide_eq_true_eq,decide_eq_false_iff_not,z'x,z'B,gt_iff_lt,z'w]at hc)|fail
  ·rw[no1 (by rw[cmB,decide_eq_false (by omega)];simp)]
  ·rw[no1 (by rw[cmB,decide_eq_false (p:=(p.cms.getD k cm0).kind≤3) (by omega)];simp)]
  ·rw[no1 (by rw[cmB,hc];simp)]
  ·rw[no1 (by rw[cmB,decide_eq_false (p:=0≤(p.cms.getD k cm0).pl) (by omega)];simp)]
  ·rename_i h1 h2 h3
   refine⟨⟨k+1,by omega,y's hs (by rw[cmB,decide_eq_true h1,decide_eq_true h2,h3,decide_eq_true hc];rfl)⟩,y'U rfl ?_,by dsimp only;omega⟩
   simp[sub,upd]
 have e1:decide ((k:Int)<(p.cms.length:Int))=false:=decide_eq_false (by omega)
 have hC:=w'3 (p:=cmB) (d:=cm0) (l:=p.cms) (by omega) hs
 rw[show pgB p=true by rw[pgB,hm,hA,hB,hC];rfl]
 repeat' first|refine mq1 (z'X @Zbw @e1) ?_|exact z'p T (z'a _) ⟨rfl,rfl⟩|fail
end Go.Proofs.YthlkpnjjkgmlkaaGreat
