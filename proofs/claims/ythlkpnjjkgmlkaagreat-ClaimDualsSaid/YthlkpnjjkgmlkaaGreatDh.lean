/- Contracts: the reference makes a graph. No condition. -/
import Derived.Test.YthlkpnjjkgmlkaaGreatLa
import Derived.Test.YthlkpnjjkgmlkaaGreatYd
import Derived.Test.YthlkpnjjkgmlkaaGreatZr
namespace Go.Proofs.YthlkpnjjkgmlkaaGreat
set_option maxHeartbeats 16000000
set_option linter.unusedSimpArgs false
set_option linter.unusedVariables false
set_option maxRecDepth 20000
open Go Go.Proofs Go.Vc
attribute [local irreducible] x'v VCg VCw VCx
theorem Zql (l:List Ed) (i:Nat):(l.countP fun e=>decide (0≤e.1)&&decide (e.1<(i:Int)))+(l.countP fun e=>e.1 == (i:Int))=l.countP fun e=>decide (0≤e.1)&&decide (e.1<((i+1:Nat):Int)):=by
 induction l with
 |nil=>rfl
 |cons x l ih=>
  rw[List.countP_cons,List.countP_cons,List.countP_cons, ←ih]
  have key:(if (decide (0≤x.1)&&decide (x.1<(i:Int)))=true then 1 else 0)+(if (x.1 == (i:Int))=true then 1 else 0)=(if (decide (0≤x.1)&&decide (x.1<((i+1:Nat):Int)))=true then 1 else 0):=by
   simp only[z'f,decide_eq_true_eq,beq_iff_eq]
   split<;>split<;>split<;>omega
  omega
theorem ZnF (l:List Ed): ∀i,(upE l i).length=l.countP fun e=>decide (0≤e.1)&&decide (e.1<(i:Int))
 |0=>by
  symm
  rw[ZrQ,z'N,List.countP_eq_zero]
  intro e _
  simp only[z'f,decide_eq_true_eq];omega
 |i+1=>by rw[ZhP,z'j,ZnF l i, ←Zql];unfold Zgg;rw[List.countP_eq_length_filter (p:=fun e:Ed=>e.1 == (i:Int))]
theorem ZuY (l:List Ed) (i:Nat):(upE l i).length≤l.length:=by rw[ZnF];exact List.countP_le_length
def upK (l:List Ed) (i k:Nat):List Ed:=upE l i++Zgg (l.take k) i
theorem Zsd (l:List Ed) (i:Nat):upK l i 0=upE l i:=by simp[upK,Zgg]
theorem ZnG (l:List Ed) (i:Nat):upK l i l.length=upE l (i+1):=by rw[upK,y'g,ZhP]
theorem Zmk {l:List Ed} {i k:Nat} (hk:k<l.length):upK l i (k+1)=upK l i k++(match (l.getD k (0,0,0)).1 == (i:Int)with|true=>[l.getD k (0,0,0)]|false=>[]):=by
 unfold upK Zgg
 rw[x'U,Zae (d:=(0,0,0)) hk,y'j]
 congr 1
 rw[Option.toList_some,z'6]
 have h0: ∀x:Ed,[x].filter (fun e=>e.1 == (i:Int))=match x.1 == (i:Int)with|true=>[x]|false=>[]:=fun x=>by
  rw[x'1,List.filter_nil]
  cases x.1 == (i:Int)<;>rfl
 rw[h0]
theorem ZuZ (l:List Ed) (i k:Nat):(upK l i k).length≤l.length:=by
 have h1:=ZuY l (i+1)
 have h2:(Zgg (l.take k) i).length≤(Zgg l i).length:=((List.take_sublist k l).filter _).length_le
 rw[ZhP,z'j]at h1
 rw[upK,z'j];omega
def stK (l:List Ed) (i:Nat):List Int:=(List.range (i+1)).map fun j=>((upE l j).length:Int)
theorem ZrI (l:List Ed) (i:Nat):stK l (i+1)=stK l i++[((upE l (i+1)).length:Int)]:=by
 unfold stK;rw[y'p,z'E];rfl
theorem ZnB (l:List Ed) (i:Nat):(stK l i).length=i+1:=by simp[stK]
def Zey (n:Int) (l:List Ed):Cs×Int:=match decide (0≤n)&&(decide (n≤100000)&&ZnT n.toNat l)with|true=>(ZkM n.toNat l,0)|false=>(⟨[],[],[]⟩,1)
theorem Zjs {n:Int} {l:List Ed} (h: ¬(0≤n∧n≤100000∧ ∀e,e∈l→0≤e.1∧e.1<n∧0≤e.2.2∧e.2.2<n∧0≤e.2.1)):Zey n l=(⟨[],[],[]⟩,1):=by
 unfold Zey
 split
 ·rename_i hd
  simp only[z'f,decide_eq_true_eq,ZnT,z'q]at hd
  obtain⟨h1,h2,h3⟩:=hd
  exact absurd ⟨h1,h2,fun e he=>by have:=h3 e he;omega⟩ h
 ·rfl
theorem Zjt {n:Nat} {l:List Ed} (h2:n≤100000) (h: ∀e,e∈l→0≤e.1∧e.1<n∧0≤e.2.2∧e.2.2<n∧0≤e.2.1):Zey n l=(ZkM n l,0):=by
 unfold Zey
 have:(decide ((0:Int)≤n)&&(decide ((n:Int)≤100000)&&ZnT (n:Int).toNat l))=true:=by
  simp only[z'f,decide_eq_true_eq,ZnT,z'q,z'e]
  exact⟨by omega,by omega,fun e he=>by have:=h e he;omega⟩
 rw[this]
 rfl
abbrev csD (ga gb gc:Option (Nat×Nat)) (a b c:Nat):List D:=[.gs ga a,.gs gb b,.gs gc c]
abbrev csW (ga gb gc:Option (Nat×Nat)) (S:List Int) (L:List Ed) (H:Heap):Heap:=shp ga 3 1 (S.map iD) (shp gb 3 1 ((L.map (·.2.1)).map iD) (shp gc 3 1 ((L.map (·.2.2)).map iD) H))
theorem Zo8 {H:Heap} {a:D}:Fz H (.tup [.agg (csC ⟨[],[],[]⟩),a]) (.tup [.agg [.gs none 0,.gs none 0,.gs none 0],a]):=
 ⟨_,rfl,z'u ⟨_,rfl,z'u z'1 (z'u z'1 (z'u z'1 x'9))⟩ (FzL.refl _ _)⟩
theorem ZtV {ga gb gc:Option (Nat×Nat)} {S:List Int} {L:List Ed} {H:Heap} {a:D} {n:Nat} (hS:S.length=n) (h1:gOk ga n) (h2:gOk gb L.length) (h3:gOk gc L.length) (hm: ∀x,x∈csW ga gb gc S L []→x∈H):
  Fz H (.tup [.agg (csC ⟨S,L.map (·.2.1),L.map (·.2.2)⟩),a]) (.tup [.agg (csD ga gb gc n L.length L.length),a]):=by
 subst hS
 have z1:=w'H (e:=3) (s:=S) (H:=H) h1 fun b c e=>hm _ (by subst e;exact x'J)
 have z2:=w'H (e:=3) (s:=L.map (·.2.1)) (g:=gb) (H:=H) (by rw[z'm];exact h2) fun b c e=>hm _ (w'w (by subst e;exact x'J))
 have z3:=w'H (e:=3) (s:=L.map (·.2.2)) (g:=gc) (H:=H) (by rw[z'm];exact h3) fun b c e=>hm _ (w'w (w'w (by subst e;exact x'J)))
 rw[z'm]at z2 z3
 exact⟨_,rfl,z'u ⟨_,rfl,z'u z1 (z'u z2 (z'u z3 x'9))⟩ (FzL.refl _ _)⟩
theorem ZnO (n:Int) (l:List Ed) (hl:l.length≤1000000):Pure Tryz.prog 95 [iD n,ZkW l] (.tup [.agg (csC (Zey n l).1),iD (Zey n l).2]):=by
 refine Fun.fz ?_
 refine Fun.of T [.cell 4 55,.tmp 5] Tryz.func95 rfl Tryz.ntmps95 Tryz.results95 rfl (by kernel_rfl) ?_
 repeat' first|refine mq0 ?_|refine mqn fun bq hbq=>?_|with_reducible refine z'n (fun hc=>?_) (fun hc=>?_)<;>(try simp only[decide_eq_true_eq,decide_eq_false_iff_not,gt_iff_lt,z'w]at hc)|fail
 any_goals(rw[Zjs fun h=>by omega];exact x'8 T rfl (by(try simp (disch:=omega) only[hget_ne,hget_eq]);rfl) rfl rfl rfl (z'a _) Zo8)
 rename Nat=>b8
 refine VC.loop {k:Nat//k≤l.length∧ ∀i,i<k→0≤(l.getD i (0,0,0)).1∧(l.getD i (0,0,0)).1<n∧0≤(l.getD i (0,0,0)).2.2∧(l.getD i (0,0,0)).2.2<n∧0≤(l.getD i (0,0,0)).2.1}
  (fun p=>⟨z'T [(0,iD n),(1,ZkW l),(4,.is (.pointer (some ⟨b8,0,none⟩))),(6,iD (p.1:Nat))],[(b8,.cells 55 3 [.gs none 0,.gs none 0,.gs none 0])]⟩) (fun p=>l.length-p.1) ⟨0,by omega,fun i hi=>by omega⟩ ?_ ?_
 ·refine Weak.sub ?_
  simp[sub,upd]
 rintro⟨k,hk,hs⟩
 dsimp only
 repeat' first|refine mq1 (y'Z @Zf7 @Zdu @edR.eq_1 @w64 @z'e) ?_|refine mqn fun bq hbq=>?_|refine .wk ?_ ?_;focus(try omega)|refine vs T rfl fun K hK=>?_;(try simp (disch:=omega) only[go_sem,Nat.reduceBEq,Nat.reduceAdd,Nat.reduceMul,Nat.reduceLeDiff,Zf7,Zdu,edR,w64,z'e]);(first|refine⟨_,_,_,_,(by repeat (first|apply Sp.cons|exact Sp.nil)),?_,(by exact⟨rfl,rfl⟩),⟨by decide,?_⟩,fun g' hg'=>hK _ _ ?_⟩<;>clear hK K)|with_reducible refine z'n (fun hc=>?_) (fun hc=>?_)<;>(try simp only[decide_eq_true_eq,decide_eq_false_iff_not,ge_iff_le,y'b,z'w]at hc)|fail
 any_goals(rw[Zjs fun h=>by have:=h.2.2 _ (x'p (d:=(0,0,0)) (show k<l.length by omega));omega];exact x'8 T rfl (by(try simp (disch:=omega) only[hget_ne,hget_eq]);rfl) rfl rfl rfl (z'a _) Zo8)
 ·refine⟨⟨k+1,by omega,fun i hi=>?_⟩,Weak.sub ?_,by simp only[];omega⟩
  ·rcases z'i i k with h|h
   ·exact hs i h
   ·obtain rfl:i=k:=by omega
    omega
  ·simp[sub,upd]
 ·rfl
 ·decide
 obtain rfl:k=l.length:=by omega
 obtain⟨n,rfl⟩: ∃m:Nat,n=(m:Int):=⟨n.toNat,by omega⟩
 have hE: ∀e,e∈l→0≤e.1∧e.1<n∧0≤e.2.2∧e.2.2<n∧0≤e.2.1:=fun e he=>by
  obtain⟨i,hi⟩:=List.mem_iff_getElem?.1 he
  have:=hs i (z'b.1 hi).1
  rw[Zba hi]at this
  exact this
 have hn:n≤100000:=by omega
 rw[Zjt (by omega) hE]
 have hnb: ¬bq=b8:=hbq
 refine VC.loop {p:Nat×Option (Nat×Nat)×Option (Nat×Nat)×Option (Nat×Nat)//p.1≤n∧gOk p.2.1 (p.1+1)∧gOk p.2.2.1 (upE l p.1).length∧gOk p.2.2.2 (upE l p.1).length}
  (fun p=>⟨z'T [(0,iD n),(1,ZkW l),(4,.is (.pointer (some ⟨b8,0,none⟩))),(7,.is (.pointer (some ⟨bq,0,none⟩))),(8,iD (p.1.1:Nat))],(bq,.cells 55 3 (csD p.1.2.1 p.1.2.2.1 p.1.2.2.2 (p.1.1+1) (upE l p.1.1).length (upE l p.1.1).length))::(b8,.cells 55 3 [.gs none 0,.gs none 0,.gs none 0])::csW p.1.2.1 p.1.2.2.1 p.1.2.2.2 (stK l p.1.1) (upE l p.1.1) []⟩)
  (fun p=>n-p.1.1) ⟨(0,g',none,none),by dsimp only;exact⟨z'A _,hg',rfl,rfl⟩⟩ ?_ ?_
 ·refine z'Q rfl ?_
  simp[sub,upd]
 rintro⟨⟨i,ga,gb,gc⟩,hi,h1,h2,h3⟩
 dsimp only at hi h1 h2 h3⊢
 repeat' first|refine mq0 ?_|with_reducible refine z'n (fun hc=>?_) (fun hc=>?_)<;>(try simp only[decide_eq_true_eq,decide_eq_false_iff_not,z'w]at hc)|fail
 ·refine VC.loop {p:Nat×Option (Nat×Nat)×Option (Nat×Nat)//p.1≤l.length∧gOk p.2.1 (upK l i p.1).length∧gOk p.2.2 (upK l i p.1).length}
   (fun p=>⟨z'T [(0,iD n),(1,ZkW l),(4,.is (.pointer (some ⟨b8,0,none⟩))),(7,.is (.pointer (some ⟨bq,0,none⟩))),(8,iD (i:Nat)),(9,iD (p.1.1:Nat))],(bq,.cells 55 3 (csD ga p.1.2.1 p.1.2.2 (i+1) (upK l i p.1.1).length (upK l i p.1.1).length))::(b8,.cells 55 3 [.gs none 0,.gs none 0,.gs none 0])::csW ga p.1.2.1 p.1.2.2 (stK l i) (upK l i p.1.1) []⟩)
   (fun p=>l.length-p.1.1) ⟨(0,gb,gc),by dsimp only;rw[Zsd];exact⟨z'A _,h2,h3⟩⟩ ?_ ?_
  ·refine z'Q (by dsimp only;rw[Zsd]) ?_
   simp[sub,upd]
  rintro⟨⟨k,gb,gc⟩,hk,h2,h3⟩
  dsimp only at hk h2 h3⊢
  have hle:=ZuZ l i k
  have hst:=ZnB l i
  repeat' first|refine dr (id:=17) T 8 (by kernel_rfl) ?_|refine dr (id:=18) T 8 (by kernel_rfl) ?_|(first|apply VCg.step T rfl rfl|apply exF);focus((try simp (disch:=omega) only[go_sem,Nat.reduceBEq,Nat.reduceMul,Nat.reduceLeDiff,Zf7,edR,z'e]);(first|exact rfl|refine⟨?_,rfl⟩;try omega))|refine mq1 (y'Z @Zf7 @edR.eq_1 @Zdu @w64 @z'e) ?_|refine .wk ?_ ?_;focus(try omega)|refine vs T rfl fun K hK=>?_;(try simp (disch:=omega) only[go_sem,Nat.reduceBEq,Nat.reduceAdd,Nat.reduceMul,Nat.reduceLeDiff,Zf7,edR,Zdu,w64,z'e]);(first|refine⟨_,_,_,_,(by repeat (first|exact Sp.here|apply Sp.cons|apply Sp.over)),?_,(by exact⟨rfl,rfl⟩),⟨by decide,?_⟩,fun g' hg'=>hK _ _ ?_⟩<;>clear hK K)|with_reducible refine z'n (fun hc=>?_) (fun hc=>?_)<;>(try simp only[decide_eq_true_eq,decide_eq_false_iff_not,beq_iff_eq,beq_eq_false_iff_ne,ne_eq,z'w]at hc)|fail
  ·simp
  ·omega
  ·simp
  ·omega
  ·rename_i ga' hga'
   have hb:((l.getD k (0,0,0)).1 == (i:Int))=true:=beq_iff_eq.2 hc
   have hK:upK l i (k+1)=upK l i k++[l.getD k (0,0,0)]:=by rw[Zmk (by omega),hb]
   refine⟨⟨(k+1,_,_),by dsimp only;rw[hK,z'j];exact⟨by omega,hga',hg'⟩⟩,z'Q ?_ ?_,by dsimp only;omega⟩
   ·dsimp only
    rw[hK,z'j]
    simp only[csW,z'E,z's,y'Q]
    rfl
   ·simp[sub,upd]
  ·have hb:((l.getD k (0,0,0)).1 == (i:Int))=false:=by simpa using hc
   have hK:upK l i (k+1)=upK l i k:=by rw[Zmk (by omega),hb,z'I]
   refine⟨⟨(k+1,gb,gc),by dsimp only;rw[hK];exact⟨by omega,h2,h3⟩⟩,z'Q ?_ ?_,by dsimp only;omega⟩
   ·dsimp only
    rw[hK]
   ·simp[sub,upd]
  ·simp[hst]
  ·omega
  ·obtain rfl:k=l.length:=by omega
   refine⟨⟨(i+1,_,gb,gc),by dsimp only;rw[←ZnG];exact⟨by omega,hg',h2,h3⟩⟩,z'Q ?_ ?_,by dsimp only;omega⟩
   ·dsimp only
    rw[ZrI, ←ZnG]
    simp only[csW,z'E,z's,y'Q]
   ·simp[sub,upd]
 obtain rfl:i=n:=by omega
 refine x'8 T rfl (by(try simp (disch:=omega) only[hget_ne,hget_eq]);rfl) rfl rfl rfl (z'v _) ?_
 exact ZtV (ZnB l i) h1 h2 h3 fun x hx=>z'd _ (z'd _ hx)
structure ZcY (n:Nat) (P B:List Int):Prop where
 len:n≤1000000
 pl:P.length=n
 bl:B.length=n
 par: ∀j,0<j→j<n→0≤P.getD j 0∧P.getD j 0<j
def toK (P B:List Int):Nat→Nat→List Int
 |0,_=>[]
 |_+1,0=>[]
 |n+1,i+1=>toK P B n (P.getD (i+1) 0).toNat++[B.getD (i+1) 0]
theorem ZoF {n:Nat} {P B:List Int} (h:ZcY n P B): ∀{i k q:Nat},i<n→i≤k→i≤q→toK P B k i=toK P B q i:=by
 intro i
 induction i using Nat.strongRecOn with
 |_ i ih=>
  intro k q hi hk hq
  cases i with
  |zero=>cases k<;>cases q<;>rfl
  |succ i=>
   cases k with
   |zero=>omega
   |succ k=>
    cases q with
    |zero=>omega
    |succ q=>
     have:=h.par (i+1) (by omega) hi
     rw[toK,toK,ih (P.getD (i+1) 0).toNat (by omega) (k:=k) (q:=q) (by omega) (by omega) (by omega)]
def toF (P B:List Int) (i:Nat):List Int:=toK P B i i
theorem Zvm (P B:List Int):toF P B 0=[]:=rfl
theorem ZhO {n:Nat} {P B:List Int} (h:ZcY n P B) {i:Nat} (h0:0<i) (hi:i<n):toF P B i=toF P B (P.getD i 0).toNat++[B.getD i 0]:=by
 cases i with
 |zero=>omega
 |succ i=>
  have:=h.par (i+1) (by omega) hi
  unfold toF
  rw[toK,ZoF h (k:=i) (q:=(P.getD (i+1) 0).toNat) (by omega) (by omega) (z'h _)]
theorem ZnD {n:Nat} {P B:List Int} (h:ZcY n P B): ∀i,i<n→(toF P B i).length≤i:=by
 intro i
 induction i using Nat.strongRecOn with
 |_ i ih=>
  intro hi
  rcases w'f i with rfl|h0
  ·exact z'h _
  ·have h1:=h.par i h0 hi
   have:=ih (P.getD i 0).toNat (by omega) (by omega)
   rw[ZhO h h0 hi,z'j,z'r,z'N];omega
def toI (n:Nat) (P B:List Int) (i:Int):List Int:=match decide (0<i)&&decide (i<n)with|true=>toF P B i.toNat|false=>[]
def Zax (L:List Int) (i:Nat):List Int:=(List.range L.length).map fun j=>if j<i∨L.length≤j+i then L.getD (L.length-1-j) 0 else L.getD j 0
theorem v'q (L:List Int) (i:Nat):(Zax L i).length=L.length:=by simp[Zax]
theorem Zdm {L:List Int} {i j:Nat} (h:j<L.length):(Zax L i).getD j 0=if j<i∨L.length≤j+i then L.getD (L.length-1-j) 0 else L.getD j 0:=by
 rw[z'g,Zax,y'c,List.getElem?_range h];rfl
theorem ZuG (L:List Int):Zax L 0=L:=Zhs (d:=0) (v'q L 0) fun j hj=>by
 rw[v'q]at hj
 rw[Zdm hj,if_neg (by omega)]
theorem Zry {L:List Int} {i:Nat} (h:L.length≤2*i+1):Zax L i=L.reverse:=Zhs (d:=0) (by rw[v'q,List.length_reverse]) fun j hj=>by
 rw[v'q]at hj
 rw[Zdm hj,z'g (l:=L.reverse),List.getElem?_reverse hj, ←z'g]
 split
 ·rfl
 ·rw[show L.length-1-j=j by omega]
theorem ZpP {L:List Int} {i:Nat} (h:2*i+1<L.length):Zax L (i+1)=((Zax L i).set i ((Zax L i).getD (L.length-1-i) 0)).set (L.length-1-i) ((Zax L i).getD i 0):=by
 have a1:(Zax L i).getD (L.length-1-i) 0=L.getD (L.length-1-i) 0:=by rw[Zdm (by omega),if_neg (by omega)]
 have a2:(Zax L i).getD i 0=L.getD i 0:=by rw[Zdm (by omega),if_neg (by omega)]
 rw[a1,a2]
 refine Zhs (d:=0) (by simp[v'q]) fun j hj=>?_
 rw[v'q]at hj
 rw[Zdm hj,z'g (l:=List.set _ _ _),v'X,v'X,x'w,v'q]
 by_cases h1:L.length-1-i=j
 ·rw[if_pos h1,if_pos (by omega),if_pos (by omega)]
  subst h1
  rw[show L.length-1-(L.length-1-i)=i by omega];rfl
 ·rw[if_neg h1]
  by_cases h2:i=j
  ·subst h2
   rw[if_pos rfl,if_pos (by omega),if_pos (by omega)];rfl
  ·rw[if_neg h2, ←z'g,Zdm hj]
   by_cases h3:j<i∨L.length≤j+i
   ·rw[if_pos h3,if_pos (by omega)]
   ·rw[if_neg h3,if_neg (by omega)]
theorem VCx.step {P:Program} (T:Tab P) {W:Nat→Bool} {st:Nat} {H H1:Heap} {K:(Nat→D)→Prop} {m i:Nat} {E:Nat→D} {o:Oper} {l:List Oper} {d:D} {t:Tmp} (hg:o.guard=none) (ht:o.dst=some t) (hi:Nat.beq i st=false)
  (h1:opC T o (evD E) H (fun d' H'=>d'=d∧H'=H)) (h1':opC T o (evD E) H1 (fun d' H'=>d'=d∧H'=H1)) (h2:VCx T W st H H1 K m (i+1) l (upd E t d)):VCx T W st H H1 K (m+1) i (o::l) E:=by
 unfold VCx
 exact⟨d,⟨hg,fun _=>⟨Za2 T h1,.inr (Za2 T h1')⟩,fun e=>by subst e;rw[v'u]at hi;cases hi⟩,by rw[ht];exact h2⟩
theorem VCx.nil {P:Program} (T:Tab P) {W:Nat→Bool} {st:Nat} {H H1:Heap} {K:(Nat→D)→Prop} {i:Nat} {E:Nat→D} {l:List Oper} (h:K E):VCx T W st H H1 K 0 i l E:=by unfold VCx;exact h
theorem ZrT {ops:Array Oper} {st:Nat} {l:List Nat} (h:l.all (y'q ops st)=true): ∀i,l.contains i=true→y'q ops st i=true:=fun i hi=>z'q.1 h i (by simpa using hi)
theorem ZmA (g:Option (Nat×Nat)) (L:List Int) (hg:gOk g L.length) (hL:L.length≤1000000):Fun Tryz.prog 134 [.gs g L.length] (shp g 3 1 (L.map iD) []) false
  (fun d H'=> ∃x:Unit,True∧d= .gs g L.length∧H'=shp g 3 1 (L.reverse.map iD) []):=by
 refine Fun.of T [.tmp 2] Tryz.func134 rfl Tryz.ntmps134 Tryz.results134 rfl (by kernel_rfl) ?_
 rcases g with _|⟨b,cap⟩
 ·have h0:L=[]:=z'9 hg
  subst h0
  simp only[shp,z'N]
  repeat' first|refine mq1 @w64 ?_|fail
  refine VC.loop Unit (fun _=>⟨z'T [(0,.gs none 0),(3,iD 0),(4,iD (-1))],[]⟩) (fun _=>0) () ?_ ?_
  ·refine Weak.sub ?_
   simp[sub,upd]
  intro _
  repeat' first|refine mq0 ?_|fail
  exact z'p T (z'a _) ⟨(),trivial,rfl,rfl⟩
 have hcap:L.length≤cap:=hg
 simp only[shp]
 repeat' first|refine mq1 @w64 ?_|fail
 refine VC.loop {i:Nat//2*i≤L.length+1} (fun p=>⟨z'T [(0,.gs (some (b,cap)) L.length),(3,iD (p.1:Nat)),(4,iD ((L.length:Int)-1-(p.1:Nat)))],[(b,.cells 3 (cap*1) ((Zax L p.1).map iD))]⟩) (fun p=>L.length-p.1) ⟨0,by omega⟩ ?_ ?_
 ·refine z'Q (by rw[ZuG]) ?_
  simp[sub,upd]
 rintro⟨i,hi⟩
 dsimp only
 rcases z'i (2*i+1) L.length with hlt|hge
 case inr=>
  repeat' first|refine mq0 ?_|with_reducible refine z'n (fun hc=>?_) (fun hc=>?_)<;>(try simp only[decide_eq_true_eq,decide_eq_false_iff_not,z'w]at hc)<;>(try(exfalso;omega))|fail
  exact z'p T (z'v _) ⟨(),trivial,rfl,by rw[Zry hge]⟩
 have r1:(Zax L i)[i]?=some ((Zax L i).getD i 0):=Zae (by rw[v'q];omega)
 have r2:(Zax L i)[L.length-1-i]?=some ((Zax L i).getD (L.length-1-i) 0):=Zae (by rw[v'q];omega)
 have e2:((L.length:Int)-1-i).toNat=L.length-1-i:=by omega
 repeat' first|refine VC.drawS (id:=4) (by kernel_rfl) ?_|refine mq0 ?_|with_reducible refine z'n (fun hc=>?_) (fun hc=>?_)<;>(try simp only[decide_eq_true_eq,decide_eq_false_iff_not,z'w]at hc)<;>(try(exfalso;omega))|fail
 refine VCd.groupX T (fun i=>[0,1,4,5,6,7,8,9,10,11,12].contains i) [(b,.cells 3 (cap*1) (((Zax L i).map iD).set i (iD ((Zax L i).getD (L.length-1-i) 0))))] 13 14 14 rfl rfl rfl (by kernel_rfl) (by kernel_rfl) (by kernel_rfl) (ZrT (by kernel_rfl)) ?_
 repeat' first
  |(apply VCx.stepW T rfl rfl (by rfl) (by rfl);focus((try simp (disch:=omega) only[go_sem,Nat.reduceBEq,Nat.reduceAdd,Nat.reduceLeDiff,w64,z'e,v'q,e2,r1,r2,y'd]);(first|exact rfl|exact⟨rfl,rfl⟩|(refine⟨?_,rfl⟩;omega))))
  |(apply VCx.step T rfl rfl (by rfl);(case h1=>(simp (disch:=omega) only[go_sem];exact rfl));(case h1'=>(simp (disch:=omega) only[go_sem])))
  |(refine VCx.write T rfl rfl (by rfl) ?_ ?_;focus((try simp (disch:=omega) only[go_sem,Nat.reduceBEq,Nat.reduceAdd,Nat.reduceLeDiff,v'q]);first|omega|(refine⟨?_,?_⟩;focus omega;rfl)))
  |refine VCx.nil T ?_
 repeat' first|refine VCd.tail (f:=14) (by kernel_rfl) ?_;(try simp only[v'z,x's])|refine vs T rfl fun K hK=>?_;(try simp (disch:=omega) only[go_sem,Nat.reduceBEq,w64,v'q,e2,y'd,x'w]);(first|refine hK _ _ ?_;clear hK K|refine⟨?_,hK _ _ ?_⟩<;>clear hK K;focus(try omega))|refine st rfl ?_|refine nl ?_|refine ov ?_
 refine⟨⟨i+1,by omega⟩,z'Q ?_ ?_,by dsimp only;omega⟩
 ·dsimp only
  rw[ZpP hlt,y'P,y'P,y'd]
 ·simp[sub,upd]
  omega
abbrev OwnI (L:List Int):D→Heap→Prop:=fun d H'=> ∃x:Option (Nat×Nat),gOk x L.length∧d= .gs x L.length∧H'=shp x 3 1 (L.map iD) []
theorem OwnI.freeze {f:Nat} {args:List D} {L:List Int} (h:Fun Tryz.prog f args [] false (OwnI L)):Pure Tryz.prog f args (y'r L):=
 Fun.freeze (ZeI _) (h.mono fun d H' ⟨x,hx,h1,h2⟩=>⟨x,3,by rw[h1,z'o],by rw[h2,Zfs]⟩)
theorem ZoG (C:List Cf) (g:Cs) (P B:List Int) (h:ZcY C.length P B) (i:Int):Pure Tryz.prog 74 [.agg (spC C g P B),iD i] (y'r (toI C.length P B i)):=by
 have hpl:=h.pl
 have hbl:=h.bl
 have hc:=h.len
 refine OwnI.freeze ?_
 refine Fun.of T [.tmp 4] Tryz.func74 rfl Tryz.ntmps74 Tryz.results74 rfl (by kernel_rfl) ?_
 repeat' first|refine vb (t:=57) rfl rfl rfl rfl ?_|refine mq1 @w'd ?_|with_reducible refine z'n (fun hc=>?_) (fun hc=>?_)<;>(try simp only[decide_eq_true_eq,decide_eq_false_iff_not,ge_iff_le,y'b,z'w]at hc)|fail
 any_goals(rw[show toI C.length P B i=[] by unfold toI;split<;>first|rfl|(rename_i hd;simp only[z'f,decide_eq_true_eq]at hd;omega)];exact z'p T (z'a _) ⟨none,rfl,rfl,rfl⟩)
 obtain⟨i,rfl⟩: ∃k:Nat,i=(k:Int):=⟨i.toNat,by omega⟩
 have e1:toI C.length P B (i:Nat)=toF P B i:=by
  unfold toI
  rcases w'f i with rfl|h0
  ·rw[decide_eq_false (by omega)];rfl
  ·rw[decide_eq_true (by omega),decide_eq_true (by omega)];rfl
 rw[e1]
 refine VC.loop {p:Nat×List Int×Option (Nat×Nat)//p.1<C.length∧p.1+p.2.1.length≤i∧toF P B i=toF P B p.1++p.2.1.reverse} (fun p=>⟨z'T [(1,iD (p.1.1:Nat)),(2,.pt (spC C g P B)),(5,.gs p.1.2.2 p.1.2.1.length)],shp p.1.2.2 3 1 (p.1.2.1.map iD) []⟩) (fun p=>p.1.1) ⟨(i,[],none),by dsimp only;exact⟨by omega,by simp,by simp⟩⟩ ?_ ?_
 ·refine z'Q rfl ?_
  simp[sub,upd]
 rintro⟨⟨k,L,a⟩,hk,hL,hF⟩
 dsimp only at hk hL hF⊢
 refine ZaD (t:=5) rfl fun hga=>?_
 have cr:=ZmA a L hga (by omega)
 repeat' first|refine vs T rfl fun K hK=>?_;(try simp (disch:=omega) only[go_sem,Nat.reduceBEq,Nat.reduceMul,Nat.reduceLeDiff,x'F,z'e,gt_iff_lt]);(first|refine hK _ _ ?_;clear hK K|refine⟨_,_,_,_,(by repeat (exact Sp.here)),?_,(by exact⟨rfl,rfl⟩),⟨by decide,?_⟩,fun g' hg'=>hK _ _ ?_⟩<;>clear hK K|refine⟨?_,hK _ _ ?_⟩<;>clear hK K;focus(try omega)|skip)|refine st rfl ?_|refine sc rfl ?_|refine nl ?_|with_reducible refine z'n (fun hc=>?_) (fun hc=>?_)<;>(try simp only[decide_eq_true_eq,decide_eq_false_iff_not,z'w]at hc)
 ·simp
 ·omega
 ·have hp:=h.par k (by omega) hk
  refine⟨⟨((P.getD k 0).toNat,L++[B.getD k 0],g'),by dsimp only;exact⟨by omega,by rw[z'j,z'r,z'N];omega,by rw[hF,ZhO h (by omega) hk,List.reverse_append];simp⟩⟩,z'Q ?_ ?_,by dsimp only;omega⟩
  ·dsimp only
   rw[z'E];rfl
  ·simp[sub,upd, -List.getD_eq_getElem?_getD]
   omega
 ·obtain rfl:k=0:=by omega
  rw[Zvm,y'i]at hF
  refine Op1.cally (Hr:=[]) rfl rfl cr rfl (by rw[z'I]) (fun q hq=>?_)
  refine hK _ _ ?_
  clear hK K
  rw[z'I]
  repeat' first|refine mq0 ?_|fail
  exact z'p T (z'v _) ⟨a,by rw[hF,List.length_reverse];exact hga,by rw[hF,List.length_reverse];rfl,by rw[hF]⟩
end Go.Proofs.YthlkpnjjkgmlkaaGreat
