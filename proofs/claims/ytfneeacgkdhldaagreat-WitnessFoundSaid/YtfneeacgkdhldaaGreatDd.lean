/- Contracts: the reference's edges. No condition. -/
import Derived.Test.YtfneeacgkdhldaaGreatDb
import Derived.Test.YtfneeacgkdhldaaGreatWb
namespace Go.Proofs.YtfneeacgkdhldaaGreat
set_option maxHeartbeats 16000000
set_option linter.unusedSimpArgs false
set_option linter.unusedVariables false
set_option maxRecDepth 20000
open Go Go.Proofs Go.Vc
attribute [local irreducible] y'5 VCg VCw VCx
theorem ZaL (g:Cs) (hg:OkG g):Pure Tryz.prog 82 [.agg (csC g)] (iD (z'O g:Nat)):=by
 have h1:=hg.st
 have c1:=Zbq g hg
 unfold z'O
 refine Fun.of T [.tmp 2] Tryz.func82 rfl Tryz.ntmps82 Tryz.results82 rfl (by kernel_rfl) ?_
 cases hR:w'j g with
 |false=>
  rw[hR]at c1
  repeat' first|refine vb (t:=32) rfl rfl rfl rfl ?_|refine vs T rfl fun K hK=>?_;(try simp (disch:=omega) only[go_sem,Nat.reduceBEq,Nat.reduceAdd,Nat.reduceLeDiff,z'r]);(first|refine hK _ _ ?_;clear hK K|refine Op1.callp rfl rfl (c1) rfl ?_;refine hK _ _ ?_;clear hK K)|refine st rfl ?_|refine sc rfl ?_|refine nl ?_|exact z'n T (z'a _) ⟨rfl,rfl⟩
 |true=>
  rw[hR]at c1
  have:=(x'G.1 hR).one
  have hw:IntKind.i64.wrap ((g.st.length:Int)-1)=((g.st.length-1:Nat):Int):=by rw[w64 (by omega)];omega
  repeat' first|refine vb (t:=32) rfl rfl rfl rfl ?_|refine vs T rfl fun K hK=>?_;(try simp (disch:=omega) only[go_sem,Nat.reduceBEq,Nat.reduceAdd,Nat.reduceLeDiff,z'l,z'k,hw]);(first|refine hK _ _ ?_;clear hK K|refine Op1.callp rfl rfl (c1) rfl ?_;refine hK _ _ ?_;clear hK K)|refine st rfl ?_|refine sc rfl ?_|refine nl ?_|exact z'n T (z'a _) ⟨rfl,rfl⟩
theorem Zmv (g:Cs) (hg:OkG g) (i:Int):Pure Tryz.prog 84 [.agg (csC g),iD i] (Zaw (v'B g i)):=by
 have h1:=hg.st
 have h2:=hg.ag
 have h3:=hg.to
 have c1:=ZaL g hg
 refine Fun.freeze (Zds _) ?_
 refine Fun.of T [.tmp 4] Tryz.func84 rfl Tryz.ntmps84 Tryz.results84 rfl (by kernel_rfl) ?_
 cases hd:decide (0≤i)&&decide (i<(z'O g:Int))with
 |false=>
  have:v'B g i=[]:=by simp[v'B,hd]
  rw[this]
  simp only[x'Z,decide_eq_false_iff_not]at hd
  repeat' first|refine vb (t:=32) rfl rfl rfl rfl ?_|refine vs T rfl fun K hK=>?_;(try simp (disch:=omega) only[go_sem,Nat.reduceBEq,Nat.reduceAdd,Nat.reduceLeDiff]);(first|refine hK _ _ ?_;clear hK K|refine Op1.callp rfl rfl (c1) rfl ?_;refine hK _ _ ?_;clear hK K)|refine st rfl ?_|refine sc rfl ?_|refine nl ?_|refine gs rfl rfl ?_|with_reducible refine z'j (fun hc=>?_) (fun hc=>?_)<;>(try simp only[decide_eq_true_eq,decide_eq_false_iff_not,ge_iff_le,y'e,z'm]at hc)<;>(try(exfalso;omega))
  all_goals exact z'n T (z'a _) ⟨none,0,rfl,rfl⟩
 |true=>
  have hO:v'B g i=ZaQ g i.toNat:=by simp only[v'B,hd]
  rw[hO]
  simp only[z'i,decide_eq_true_eq]at hd
  obtain⟨i,rfl⟩: ∃n:Nat,i=(n:Int):=⟨i.toNat,by omega⟩
  have hR:w'j g=true:=by
   cases hR:w'j g with
   |true=>rfl
   |false=>simp[z'O,hR]at hd;omega
  have hn:z'O g=g.st.length-1:=by simp[z'O,hR]
  have gr:=x'G.1 hR
  have b1:=gr.bnd (i:=i) (by omega)
  have b2:=gr.bnd (i:=i+1) (by omega)
  have b3:=gr.up i (by omega)
  have b4:=gr.ag
  have b5:=gr.one
  rw[hn]at hd c1
  rw[z'f]
  repeat' first|refine vb (t:=32) rfl rfl rfl rfl ?_|refine vs T rfl fun K hK=>?_;(try simp (disch:=omega) only[go_sem,Nat.reduceBEq,Nat.reduceAdd,Nat.reduceLeDiff,y'w]);(first|refine hK _ _ ?_;clear hK K|refine⟨?_,hK _ _ ?_⟩<;>clear hK K;focus(try omega)|refine Op1.callp rfl rfl (c1) rfl ?_;refine hK _ _ ?_;clear hK K)|refine st rfl ?_|refine sc rfl ?_|refine nl ?_|refine gs rfl rfl ?_|with_reducible refine z'j (fun hc=>?_) (fun hc=>?_)<;>(try simp only[decide_eq_true_eq,decide_eq_false_iff_not,ge_iff_le,y'e]at hc)<;>(try(exfalso;omega))
  refine VC.loop {p:Nat×Option (Nat×Nat)//(g.st.getD i 0).toNat≤p.1∧p.1≤(g.st.getD (i+1) 0).toNat} (fun p=>⟨z'J [(1,iD (i:Nat)),(2,.pt (csC g)),(5,.gs p.1.2 (Zaz g i p.1.1).length),(6,iD (p.1.1:Nat))],shp p.1.2 70 3 (Zam (Zaz g i p.1.1)).flatten []⟩) (fun p=>g.to.length-p.1.1) ⟨((g.st.getD i 0).toNat,none),by dsimp only;omega⟩ ?_ ?_
  ·refine z'v (by rw[ZfV];rfl) ?_
   simp[sub,upd,ZfV, -List.getD_eq_getElem?_getD]
   omega
  rintro⟨⟨k,a⟩,hk1,hk2⟩
  dsimp only at hk1 hk2⊢
  have hl:=ZdI g i k
  repeat' first|refine dr (id:=7) T 14 (by kernel_rfl) ?_|refine gn ?_|(first|apply VCg.step T rfl rfl|apply exF);focus((try simp (disch:=omega) only[go_sem,Nat.reduceBEq,Nat.reduceAdd,Nat.reduceMul,Nat.reduceLeDiff,y'w,z'f]);(first|exact rfl|refine⟨?_,rfl⟩;try omega))|refine vs T rfl fun K hK=>?_;(try simp (disch:=omega) only[go_sem,Nat.reduceBEq,y'w,w64,Zin]);(first|refine hK _ _ ?_;clear hK K|refine⟨_,_,_,_,(by repeat (exact Sp.here)),?_,(by exact⟨rfl,rfl⟩),?_,fun g' hg'=>hK _ _ ?_⟩<;>clear hK K|refine⟨?_,hK _ _ ?_⟩<;>clear hK K;focus(try omega))|refine st rfl ?_|refine sc rfl ?_|refine nl ?_|with_reducible refine z'j (fun hc=>?_) (fun hc=>?_)<;>(try simp only[decide_eq_true_eq,decide_eq_false_iff_not,z'm]at hc)
  ·exact Zc6 _
  ·omega
  ·refine⟨⟨(k+1,g'),by dsimp only;omega⟩,z'v ?_ ?_,by dsimp only;omega⟩
   ·dsimp only
    rw[ZcP hk1,Zch]
    rfl
   ·simp[sub,upd,ZcP hk1]
  ·obtain rfl:k=(g.st.getD (i+1) 0).toNat:=by omega
   exact z'n T (z'p _) ⟨a,70,by rw[x'h];rfl,rfl⟩
def isB (l:List Bool) (i:Int):Bool:=decide (i<l.length)&&l.getD i.toNat false
theorem Zi4 (l:List Bool) (i:Int) (h0:0≤i):Pure Tryz.prog 112 [x'F l,iD i] (bD (isB l i)):=by
 refine Fun.of T [.tmp 4] Tryz.func112 rfl Tryz.ntmps112 Tryz.results112 rfl (by kernel_rfl) ?_
 repeat' first|refine vs T rfl fun K hK=>?_;(try simp (disch:=omega) only[go_sem,Nat.reduceBEq,v'v,w'5]);(first|refine hK _ _ ?_;clear hK K|refine⟨?_,hK _ _ ?_⟩<;>clear hK K;focus(try omega))|refine st rfl ?_|refine nl ?_|refine gs rfl rfl ?_|refine z'n T (z'a _) ?_;(try simp only[upd,Nat.reduceBEq,cond_true,cond_false,and_true])|with_reducible refine z'j (fun hc=>?_) (fun hc=>?_)<;>(try simp only[decide_eq_true_eq,decide_eq_false_iff_not,z'm]at hc)
 ·simp only[isB,decide_eq_true hc,z'W]
 ·simp only[isB,decide_eq_false (z'm.2 hc),y'p]
theorem Zby (g:Cs) (hg:OkG g):Pure Tryz.prog 81 [.agg (csC g)] (Zaw (x'S g)):=by
 have h1:=hg.st
 have h2:=hg.ag
 have h3:=hg.to
 have c1:=Zbq g hg
 refine Fun.freeze (Zds _) ?_
 refine Fun.of T [.tmp 2] Tryz.func81 rfl Tryz.ntmps81 Tryz.results81 rfl (by kernel_rfl) ?_
 cases hR:w'j g with
 |false=>
  have:x'S g=[]:=by simp[x'S,z'O,hR,upG]
  rw[this]
  rw[hR]at c1
  repeat' first|refine vb (t:=32) rfl rfl rfl rfl ?_|refine vs T rfl fun K hK=>?_;(try simp (disch:=omega) only[go_sem,Nat.reduceBEq,Nat.reduceAdd,Nat.reduceLeDiff,z'r]);(first|refine hK _ _ ?_;clear hK K|refine Op1.callp rfl rfl (c1) rfl ?_;refine hK _ _ ?_;clear hK K)|refine st rfl ?_|refine sc rfl ?_|refine nl ?_
  exact z'n T (z'a _) ⟨none,0,rfl,rfl⟩
 |true=>
  have hn:x'S g=upG g (g.st.length-1):=by simp[x'S,z'O,hR]
  rw[hn]
  rw[hR]at c1
  have gr:=x'G.1 hR
  have b4:=gr.ag
  have b5:=gr.one
  repeat' first|refine vb (t:=32) rfl rfl rfl rfl ?_|refine vs T rfl fun K hK=>?_;(try simp (disch:=omega) only[go_sem,Nat.reduceBEq,Nat.reduceAdd,Nat.reduceLeDiff,z'l]);(first|refine hK _ _ ?_;clear hK K|refine Op1.callp rfl rfl (c1) rfl ?_;refine hK _ _ ?_;clear hK K)|refine st rfl ?_|refine sc rfl ?_|refine nl ?_
  refine VC.loop {p:Nat×Option (Nat×Nat)//p.1≤g.st.length-1} (fun p=>⟨z'J [(1,.pt (csC g)),(3,.gs p.1.2 (upG g p.1.1).length),(4,iD (p.1.1:Nat))],shp p.1.2 70 3 (Zam (upG g p.1.1)).flatten []⟩) (fun p=>g.st.length-p.1.1) ⟨(0,none),z'M _⟩ ?_ ?_
  ·refine z'v rfl ?_
   simp[sub,upd,upG]
  rintro⟨⟨i,a⟩,hi⟩
  dsimp only at hi⊢
  have b1:=gr.bnd hi
  have b6:=gr.upl hi
  repeat' first|refine vs T rfl fun K hK=>?_;(try simp (disch:=omega) only[go_sem,Nat.reduceBEq,y'w,w64,z'f,z'k]);(first|refine hK _ _ ?_;clear hK K|refine⟨?_,hK _ _ ?_⟩<;>clear hK K;focus(try omega))|refine st rfl ?_|refine sc rfl ?_|refine nl ?_|with_reducible refine z'j (fun hc=>?_) (fun hc=>?_)<;>(try simp only[decide_eq_true_eq,decide_eq_false_iff_not,z'm]at hc)
  ·have b2:=gr.bnd (i:=i+1) (by omega)
   have b3:=gr.up i (by omega)
   refine VC.loop {p:Nat×Option (Nat×Nat)//(g.st.getD i 0).toNat≤p.1∧p.1≤(g.st.getD (i+1) 0).toNat} (fun p=>⟨z'J [(1,.pt (csC g)),(3,.gs p.1.2 (upG g i++Zaz g i p.1.1).length),(4,iD (i:Nat)),(5,iD (p.1.1:Nat))],shp p.1.2 70 3 (Zam (upG g i++Zaz g i p.1.1)).flatten []⟩) (fun p=>g.to.length-p.1.1) ⟨((g.st.getD i 0).toNat,a),by dsimp only;omega⟩ ?_ ?_
   ·refine z'v (by rw[ZfV,z'x]) ?_
    simp[sub,upd,ZfV, -List.getD_eq_getElem?_getD]
    omega
   rintro⟨⟨k,a⟩,hk1,hk2⟩
   dsimp only at hk1 hk2⊢
   have hl:=ZdI g i k
   have hl2:(upG g i++Zaz g i k).length=k:=by rw[z'o,hl];omega
   repeat' first|refine dr (id:=10) T 14 (by kernel_rfl) ?_|refine gn ?_|apply VCg.step T rfl rfl;focus((try simp (disch:=omega) only[go_sem,Nat.reduceBEq,Nat.reduceAdd,Nat.reduceMul,Nat.reduceLeDiff,y'w,z'f]);(first|exact rfl|refine⟨?_,rfl⟩;try omega))|refine vs T rfl fun K hK=>?_;(try simp (disch:=omega) only[go_sem,Nat.reduceBEq,y'w,w64,Zin]);(first|refine hK _ _ ?_;clear hK K|refine⟨_,_,_,_,(by repeat (exact Sp.here)),?_,(by exact⟨rfl,rfl⟩),?_,fun g' hg'=>hK _ _ ?_⟩<;>clear hK K|refine⟨?_,hK _ _ ?_⟩<;>clear hK K;focus(try omega))|refine st rfl ?_|refine sc rfl ?_|refine nl ?_|with_reducible refine z'j (fun hc=>?_) (fun hc=>?_)<;>(try simp only[decide_eq_true_eq,decide_eq_false_iff_not,z'm]at hc)
   ·exact Zc6 _
   ·omega
   ·refine⟨⟨(k+1,g'),by dsimp only;omega⟩,z'v ?_ ?_,by dsimp only;omega⟩
    ·dsimp only
     rw[ZcP hk1, ←y'u,Zch]
     rfl
    ·simp[sub,upd,ZcP hk1]
     omega
   ·obtain rfl:k=(g.st.getD (i+1) 0).toNat:=by omega
    refine⟨⟨(i+1,a),by dsimp only;omega⟩,z'v ?_ ?_,by dsimp only;omega⟩
    ·dsimp only
     rw[Zcz];rfl
    ·simp[sub,upd,Zcz,ZaQ]
  ·obtain rfl:i=g.st.length-1:=by omega
   exact z'n T (z'p _) ⟨a,70,by rw[x'h];rfl,rfl⟩
def ZdX (n:Nat) (l:List Ed):Prop:= ∀e,e∈l→0≤e.1∧e.1<n∧0≤e.2.2∧e.2.2<n∧0≤e.2.1
theorem Zjs {l:List Ed} {e:Ed}: ∀{i:Nat},e∈upE l i→e∈l∧0≤e.1∧e.1<i
 |0,h=>by simp[upE]at h
 |i+1,h=>by
  rw[v'U,y'g]at h
  rcases h with h|h
  ·have:=Zjs h;exact⟨this.1,this.2.1,by omega⟩
  ·simp only[v'f,y'x,beq_iff_eq]at h
   exact⟨h.1,by omega,by omega⟩
theorem Zdg (n:Nat) (l:List Ed) {i:Nat} (h:i≤n):(x'P n l).st.getD i 0=((upE l i).length:Int):=by
 simp only[x'P,z'e,y'c]
 rw[List.getElem?_range (by omega)];rfl
theorem Zjt (l:List Ed) (i:Nat): ∀m, ∃X,upE l (i+m)=upE l i++X
 |0=>⟨[],by simp⟩
 |m+1=>by
  obtain⟨X,h⟩:=Zjt l i m
  exact⟨X++v'f l (i+m),by rw[←Nat.add_assoc,v'U,h,y'u]⟩
theorem Zo5 (n:Nat) (l:List Ed) {i j:Nat} (hi:i<n) (hj:j<(v'f l i).length):egG (x'P n l) i ((upE l i).length+j)=(v'f l i).getD j (0,0,0):=by
 obtain⟨X,hX⟩:=Zjt l (i+1) (n-(i+1))
 rw[show i+1+(n-(i+1))=n by omega,v'U,y'u]at hX
 have hg:(upE l n)[(upE l i).length+j]?=some ((v'f l i).getD j (0,0,0)):=by
  rw[hX,w'4 (by omega),Nat.add_sub_cancel_left,z'9 hj,z'e,z'b hj];rfl
 have hm:(v'f l i).getD j (0,0,0)∈v'f l i:=by
  rw[z'e,z'b hj];exact List.getElem_mem hj
 have hm2:((v'f l i).getD j (0,0,0)).1=(i:Int):=by
  have:=y'x.1 hm
  exact beq_iff_eq.1 this.2
 generalize (v'f l i).getD j (0,0,0)=x at hg hm2⊢
 simp only[egG,x'P,z'e,y'c,hg,x'k,z'L]
 rw[←hm2]
theorem ZfU (n:Nat) (l:List Ed) {i:Nat} (hi:i<n):ZaQ (x'P n l) i=v'f l i:=by
 have h1:=Zdg n l (i:=i) (by omega)
 have h2:=Zdg n l (i:=i+1) (by omega)
 have h3:(upE l (i+1)).length=(upE l i).length+(v'f l i).length:=by rw[v'U,z'o]
 unfold ZaQ Zaz
 rw[h1,h2,z'f,z'f,h3,Nat.add_sub_cancel_left]
 refine w'k fun j=>?_
 rw[y'c]
 rcases z'g j (v'f l i).length with h|h
 ·rw[List.getElem?_range' (by omega),x'k,Nat.one_mul,Zo5 n l hi h,z'b h,z'e,z'b h];rfl
 ·rw[z'z (by simpa using h),z'z h];rfl
theorem Zd0 {n:Nat} {l:List Ed} (h:ZdX n l):Gr (x'P n l):=by
 have hl:(x'P n l).st.length=n+1:=by simp[x'P]
 refine⟨by omega,?_,?_,by simp[x'P],?_,?_⟩
 ·rw[Zdg n l (z'M _)];rfl
 ·rw[hl,Nat.add_sub_cancel,Zdg n l (z'w _)];simp[x'P]
 ·intro i hi
  rw[hl]at hi
  rw[Zdg n l (by omega),Zdg n l (by omega),v'U,z'o];omega
 ·intro i hi
  rw[hl,Nat.add_sub_cancel]
  have hi':i<(upE l n).length:=by simpa[x'P]using hi
  have hm:=List.getElem_mem hi'
  have:=h _ (Zjs hm).1
  simp only[x'P,z'e,y'c,z'b hi',x'k,z'L]
  omega
theorem Zcq {n:Nat} {l:List Ed} (h:ZdX n l):z'O (x'P n l)=n:=by
 unfold z'O
 rw[x'G.2 (Zd0 h)]
 simp[x'P]
theorem Zg5 (n:Nat) (l:List Ed): ∀k,k≤n→upG (x'P n l) k=upE l k
 |0,_=>rfl
 |k+1,hk=>by rw[Zcz,v'U,Zg5 n l k (by omega),ZfU n l (by omega)]
theorem Zfs {n:Nat} {l:List Ed} (h:ZdX n l) (hs:Zbg l):x'S (x'P n l)=l:=by
 rw[x'S,Zcq h,Zg5 n l n (z'w _),ZoO hs n fun e he=>⟨(h e he).1,(h e he).2.1⟩]
theorem Zfj {g:Cs} {i:Nat} {e:Ed} (h:e∈ZaQ g i):e.1=(i:Int):=by
 simp only[ZaQ,Zaz,z'y]at h
 obtain⟨k,_,rfl⟩:=h;rfl
theorem Zf5 (g:Cs): ∀n,Zbg (upG g n)∧ ∀e,e∈upG g n→0≤e.1∧e.1<n
 |0=>⟨List.Pairwise.nil,fun e he=>by simp[upG]at he⟩
 |n+1=>by
  obtain⟨h1,h2⟩:=Zf5 g n
  rw[Zcz]
  have hr: ∀e,e∈ZaQ g n→e.1=(n:Int):=fun e he=>Zfj he
  constructor
  ·refine List.pairwise_append.2 ⟨h1,List.Pairwise.imp_of_mem (R:=fun _ _=>True) (fun ha hb _=>?_) (List.pairwise_of_forall fun _ _=>trivial),fun a ha b hb=>?_⟩
   ·rw[hr _ ha,hr _ hb];exact Int.le_refl _
   ·have:=h2 a ha;rw[hr b hb];omega
  ·intro e he
   rcases y'g.1 he with he|he
   ·have:=h2 e he;omega
   ·have:=hr e he;omega
theorem ZoB {g:Cs} (G:Gr g) {i:Nat} (hi:i<g.st.length-1) {e:Ed} (h:e∈ZaQ g i):0≤e.2.2∧e.2.2<(g.st.length-1:Nat)∧0≤e.2.1:=by
 simp only[ZaQ,Zaz,z'y,List.mem_range'_1]at h
 obtain⟨k,hk,rfl⟩:=h
 have b1:=G.bnd (i:=i) (by omega)
 have b2:=G.bnd (i:=i+1) (by omega)
 have:=G.to k (by omega)
 simp only[egG];omega
theorem Zju {g:Cs} {e:Ed}: ∀{n:Nat},e∈upG g n→ ∃i,i<n∧e∈ZaQ g i:=fun h=>by
 simp only[upG,v'Z,z'G]at h
 exact h
theorem ZaG {g:Cs} (G:Gr g):ZdX (z'O g) (x'S g)∧Zbg (x'S g):=by
 have hn:z'O g=g.st.length-1:=by unfold z'O;rw[x'G.2 G]
 obtain⟨h1,h2⟩:=Zf5 g (z'O g)
 refine⟨fun e he=>?_,h1⟩
 obtain⟨i,hi,hm⟩:=Zju (g:=g) he
 have:=h2 e he
 have k:=ZoB G (by omega) hm
 rw[hn]at this⊢
 exact⟨this.1,this.2,k⟩
theorem ZhZ {g:Cs} {x:Int} {e:Ed}:e∈v'B g x↔e∈x'S g∧e.1=x:=by
 unfold v'B x'S
 constructor
 ·split
  ·rename_i hb
   intro h
   simp only[z'i,decide_eq_true_eq]at hb
   have:=Zfj h
   refine⟨?_,by omega⟩
   simp only[upG,v'Z,z'G]
   exact⟨_,by omega,h⟩
  ·intro h;cases h
 ·rintro⟨h,rfl⟩
  obtain⟨i,hi,hm⟩:=Zju (g:=g) h
  have:=Zfj hm
  have hb:(decide (0≤e.1)&&decide (e.1<z'O g))=true:=by simp only[z'i,decide_eq_true_eq];omega
  rw[hb]
  rw[show e.1.toNat=i by omega]
  exact hm
end Go.Proofs.YtfneeacgkdhldaaGreat
