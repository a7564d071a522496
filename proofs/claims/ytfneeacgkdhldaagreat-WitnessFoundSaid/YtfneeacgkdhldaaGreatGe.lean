/- Plain law: a shortest way goes by edges between nodes that are in; there is one just if the goal can be reached. No condition. -/
import Derived.Test.YtfneeacgkdhldaaGreatDd
import Derived.Test.YtfneeacgkdhldaaGreatDp
import Derived.Test.YtfneeacgkdhldaaGreatDf
import Derived.Test.YtfneeacgkdhldaaGreatSa
import Derived.Test.YtfneeacgkdhldaaGreatYc
namespace Go.Proofs.YtfneeacgkdhldaaGreat
set_option maxHeartbeats 16000000
set_option linter.unusedSimpArgs false
set_option linter.unusedVariables false
set_option maxRecDepth 20000
open Go Go.Proofs Go.Vc
def x'M (g:Cs) (In:List Bool):List Ed:=(x'S g).filter fun e=>isB In e.1&&isB In e.2.2
inductive Rch (l:List Ed) (S:Int→Prop):Int→Prop where
 |base {x:Int}:S x→Rch l S x
 |step {e:Ed}:Rch l S e.1→e∈l→Rch l S e.2.2
inductive Way (l:List Ed) (a:Int):List Int→Int→Prop where
 |nil:Way l a [] a
 |snoc {w:List Int} {e:Ed}:Way l a w e.1→e∈l→Way l a (w++[e.2.1]) e.2.2
theorem Zew {In:List Bool} {x:Int} (h:0≤x):isB In x=isN In x:=by
 unfold isB isN
 have e:decide (0≤x)=true:=decide_eq_true h
 rw[e,z'W]
 cases decide (x<In.length)<;>rfl
structure ZjC (g:Cs) (In:List Bool) (a b:Int) (i:Nat) (F:List Wy):Prop where
 iw:IW (z'O g) F
 w: ∀e,e∈F→Way (x'M g In) a e.2.2.2 e.1∧isN In e.1=true
 cl: ∀(j:Nat) (e:Wy),j<i→F[j]?=some e→e.1≠b∧ ∀d,d∈x'M g In→d.1=e.1→d.2.2∈F.map (·.1)
theorem ZlB {In:List Bool} {x:Int} {p:List Int} {F:List Wy} {d:Ed} {y:Int} (h:y∈F.map (·.1)):y∈(v'Y In x p F d).map (·.1):=by
 obtain⟨X,e⟩:=Zem In x p F d
 rw[e,z'E];exact y'B _ h
theorem ZlA {In:List Bool} {x:Int} {p:List Int} {F:List Wy} {d:Ed} (h:isN In d.2.2=true):d.2.2∈(v'Y In x p F d).map (·.1):=by
 unfold v'Y
 split
 ·simp
 ·rename_i hc
  rw[h,z'W,z'R]at hc
  exact ZhI.1 hc
theorem ZoJ {In:List Bool} {l:List Ed} {a:Int} {e:Wy} {F:List Wy} {d:Ed} (he:Way l a e.2.2.2 e.1) (hd:d.1=e.1) (hm:isN In d.2.2=true→d∈l) (h: ∀e,e∈F→Way l a e.2.2.2 e.1∧isN In e.1=true):
  ∀x,x∈v'Y In e.1 e.2.2.2 F d→Way l a x.2.2.2 x.1∧isN In x.1=true:=by
 intro x hx
 unfold v'Y at hx
 split at hx
 ·rename_i hc
  rw[z'i]at hc
  rcases y'g.1 hx with hx|hx
  ·exact h x hx
  ·rw[y'E]at hx;subst hx
   exact⟨Way.snoc (hd▸he) (hm hc.1),hc.1⟩
 ·exact h x hx
theorem Zif {g:Cs} {In:List Bool} {a:Int} {i:Nat} {e:Wy} (he:Way (x'M g In) a e.2.2.2 e.1) (hI:isN In e.1=true): ∀(L:List Ed) (F:List Wy),F[i]?=some e→(∀d,d∈L→d∈v'B g e.1)→ZdX (z'O g) (x'S g)→IW (z'O g) F→
  (∀e,e∈F→Way (x'M g In) a e.2.2.2 e.1∧isN In e.1=true)→IW (z'O g) (Zbr In e.1 e.2.2.2 F L)∧(∀x,x∈Zbr In e.1 e.2.2.2 F L→Way (x'M g In) a x.2.2.2 x.1∧isN In x.1=true)∧
   (∀y,y∈F.map (·.1)→y∈(Zbr In e.1 e.2.2.2 F L).map (·.1))∧ ∀d,d∈L→isN In d.2.2=true→d.2.2∈(Zbr In e.1 e.2.2.2 F L).map (·.1)
 |[],F,hF,hL,hE,hw,h=>⟨hw,h,fun _ h=>h,fun _ h=>by cases h⟩
 |d::L,F,hF,hL,hE,hw,h=>by
  have hd:=hL d (z'D ..)
  obtain⟨d1,d2⟩:=ZhZ.1 hd
  have ho:=hE d d1
  have hn:=Zew (In:=In) (x:=d.1) ho.1
  have s1:=hw.step (In:=In) hF (d:=d) ⟨ho.2.2.1,ho.2.2.2.1⟩
  have s2:=ZoJ (In:=In) (F:=F) (d:=d) he d2 (fun hy=>by
   simp only[x'M,y'x,z'i]
   exact⟨d1,by rw[hn,d2];exact hI,by rw[Zew ho.2.2.1];exact hy⟩) h
  have hF':(v'Y In e.1 e.2.2.2 F d)[i]?=some e:=by
   obtain⟨X,q⟩:=Zem In e.1 e.2.2.2 F d
   rw[q,z'9 (z'c.1 hF).1];exact hF
  obtain⟨r1,r2,r3,r4⟩:=Zif he hI L _ hF' (fun x hx=>hL x (z'd _ hx)) hE s1 s2
  refine⟨r1,r2,fun y hy=>r3 y (ZlB hy),fun x hx hi=>?_⟩
  rcases z'P.1 hx with rfl|hx
  ·exact r3 _ (ZlA hi)
  ·exact r4 x hx hi
theorem ZpQ {n:Nat} {F:List Wy} (h:IW n F): ∀(j:Nat) (e:Wy),F[j]?=some e→e.2.2.2.length≤j:=by
 intro j
 induction j using Nat.strongRecOn with
 |_ j ih=>
  intro e he
  rcases h.up j e he with⟨_,h2⟩|⟨j',e',h1,h2,_,h4⟩
  ·rw[h2];exact z'M _
  ·have:=ih j' h1 e' h2
   rw[h4,z'o];simp;omega
theorem ZkP {g:Cs} {In:List Bool} {a b:Int} (G:Gr g): ∀(n i:Nat) (F:List Wy),n+i=z'O g+1→ZjC g In a b i F→(∀w,goI g In b n i F=some w→Way (x'M g In) a w b∧w.length<z'O g)∧
  (goI g In b n i F=none→ ∃F',ZjC g In a b F'.length F'∧ ∀y,y∈F.map (·.1)→y∈F'.map (·.1)):=by
 intro n
 induction n with
 |zero=>
  intro i F hn hI
  have:=hI.iw.len
  refine⟨fun w h=>(by cases h),fun _=>⟨F,⟨hI.iw,hI.w,fun j e hj he=>hI.cl j e (by omega) he⟩,fun _ h=>h⟩⟩
 |succ n ih=>
  intro i F hn hI
  cases he:F[i]? with
  |none=>
   rw[goI,he]
   have hl:F.length≤i:=List.getElem?_eq_none_iff.1 he
   exact⟨fun w h=>(by cases h),fun _=>⟨F,⟨hI.iw,hI.w,fun j e hj he=>hI.cl j e (by omega) he⟩,fun _ h=>h⟩⟩
  |some e=>
   have hm:=z'h he
   obtain⟨w1,w2⟩:=hI.w e hm
   rw[ZkO he]
   by_cases hb:e.1=b
   ·rw[show decide (e.1=b)=true from decide_eq_true hb]
    refine⟨fun w h=>?_,fun h=>by cases h⟩
    cases h
    refine⟨hb▸w1,?_⟩
    have h1:=ZpQ hI.iw i e he
    have h2:=hI.iw.len
    have h3:=(z'c.1 he).1
    omega
   ·rw[show decide (e.1=b)=false from decide_eq_false hb]
    obtain⟨r1,r2,r3,r4⟩:=Zif (i:=i) w1 w2 (v'B g e.1) F he (fun _ h=>h) (ZaG G).1 hI.iw hI.w
    have hI':ZjC g In a b (i+1) (Zbr In e.1 e.2.2.2 F (v'B g e.1)):=by
     refine⟨r1,r2,fun j x hj hx=>?_⟩
     have hlt:=(z'c.1 he).1
     obtain⟨X,q⟩:=Zig In e.1 e.2.2.2 (v'B g e.1) F
     have hx':F[j]?=some x:=by rw[q,z'9 (by omega)]at hx;exact hx
     rcases z'g j i with hji|hji
     ·obtain⟨c1,c2⟩:=hI.cl j x hji hx'
      exact⟨c1,fun d hd hdx=>r3 _ (c2 d hd hdx)⟩
     ·obtain rfl:j=i:=by omega
      rw[he]at hx';cases hx'
      refine⟨hb,fun d hd hdx=>?_⟩
      simp only[x'M,y'x,z'i]at hd
      have ho:=(ZaG G).1 d hd.1
      exact r4 d (ZhZ.2 ⟨hd.1,hdx⟩) (by rw[←Zew ho.2.2.1];exact hd.2.2)
    obtain⟨i1,i2⟩:=ih (i+1) _ (by omega) hI'
    refine⟨i1,fun h=>?_⟩
    obtain⟨F',f1,f2⟩:=i2 h
    exact⟨F',f1,fun y hy=>f2 y (r3 y hy)⟩
theorem ZoS {l:List Ed} {a:Int} {w:List Int} {b:Int} (h:Way l a w b):Rch l (fun x=>x=a) b:=by
 induction h with
 |nil=>exact .base rfl
 |snoc _ hm ih=>exact .step ih hm
theorem ZnP {g:Cs} {In:List Bool} {a b:Int} (G:Gr g) (ha:okI g In a=true) (hb:okI g In b=true):(∀w,ZbB g a b In=some w→Way (x'M g In) a w b∧w.length<z'O g)∧(ZbB g a b In=none↔ ¬Rch (x'M g In) (fun x=>x=a) b):=by
 have h0:ZjC g In a b 0 [(a, -1, -1,[])]:=by
  simp only[okI,z'i,decide_eq_true_eq]at ha
  refine⟨IW.one ⟨ha.1.1,ha.1.2⟩,fun e he=>?_,fun j e hj=>by omega⟩
  rw[y'E]at he;subst he
  exact⟨Way.nil,ha.2⟩
 obtain⟨h1,h2⟩:=ZkP G (z'O g+1) 0 _ (by omega) h0
 have e:ZbB g a b In=goI g In b (z'O g+1) 0 [(a, -1, -1,[])]:=by unfold ZbB;rw[ha,hb];rfl
 rw[e]
 refine⟨h1,fun h hr=>?_,fun h=>?_⟩
 ·obtain⟨F,f1,f2⟩:=h2 h
  have key: ∀x,Rch (x'M g In) (fun x=>x=a) x→x∈F.map (·.1):=by
   intro x hx
   induction hx with
   |base hx=>subst hx;exact f2 _ (by simp)
   | @step e _ hm ih=>
    obtain⟨y,hy,hye⟩:=z'y.1 ih
    obtain⟨j,hj⟩:=y'S hy
    exact(f1.cl j y (z'c.1 hj).1 hj).2 e hm hye.symm
  obtain⟨y,hy,hye⟩:=z'y.1 (key b hr)
  obtain⟨j,hj⟩:=y'S hy
  exact(f1.cl j y (z'c.1 hj).1 hj).1 hye
 ·cases hg:goI g In b (z'O g+1) 0 [(a, -1, -1,[])]with
  |none=>rfl
  |some w=>
   exact absurd (ZoS (h1 w hg).1) h
attribute [local irreducible] y'5 VCg VCw VCx
def kpB (In:List Bool) (e:Ed):Bool:=isB In e.1&&isB In e.2.2
theorem ZhP (g:Cs) (In:List Bool):x'M g In=(x'S g).filter (kpB In):=rfl
theorem ZiA {l:List Ed} {q:Ed→Bool} {k:Nat} (h:k<l.length):(l.take (k+1)).filter q=(l.take k).filter q++(match q (l.getD k (0,0,0))with|true=>[l.getD k (0,0,0)]|false=>[]):=by
 rw[y'A,y'D,z'b h,z'e,z'b h]
 simp only[Option.toList_some,z'L]
 cases hq:q l[k]<;>simp[hq]
theorem Zpc {gl:Option (Nat×Nat)} {l:List Ed} {H:Heap} (hg:gOk gl l.length) (hm: ∀b cap,gl=some (b,cap)→(b,HC.cells 70 (cap*3) (Zam l).flatten)∈H):Fz H (Zaw l) (.gs gl l.length):=
 v'G (e:=70) (by rw[x'h]) hg hm (FzR.refl _ _ (Zds _))
theorem Za3 {g:Cs} (hg:OkG g) (hR:w'j g=true):(x'S g).length≤1000000:=by
 have gr:=x'G.1 hR
 have h1:=gr.upl (n:=g.st.length-1) (z'w _)
 have h2:=gr.stn
 have h3:=hg.to
 have:x'S g=upG g (g.st.length-1):=by simp[x'S,z'O,hR]
 rw[this];omega
theorem ZkZ (g:Cs) (hg:OkG g) (hR:w'j g=true) (hn:z'O g≤100000) (In:List Bool) (hI:In.length≤1000000):Pure Tryz.prog 102 [.agg (csC g),x'F In] (.agg (csC (x'P (z'O g) (x'M g In)))):=by
 have c1:=Zbq g hg
 rw[hR]at c1
 have c2:=Zby g hg
 have c3:=ZaL g hg
 have ho:=(ZaG (x'G.1 hR)).1
 have hl:=Za3 hg hR
 have hk:ZdX (z'O g) (x'M g In):=fun e he=>ho e (y'x.1 he).1
 rw[ZhP]at hk⊢
 refine Fun.of T [.cell 4 32] Tryz.func102 rfl Tryz.ntmps102 Tryz.results102 rfl (by kernel_rfl) ?_
 repeat' first|refine vb (t:=32) rfl rfl rfl rfl ?_|refine vs T rfl fun K hK=>?_;(try simp (disch:=omega) only[go_sem,Nat.reduceBEq,Nat.reduceAdd,Nat.reduceLeDiff,z'l]);(first|refine hK _ _ ?_;clear hK K|intro bq hbq;(try simp only[HB]at hbq);refine hK _ _ ?_;clear hK K|refine Op1.callp rfl rfl (c1) rfl ?_;refine hK _ _ ?_;clear hK K|refine Op1.callp rfl rfl (c2) rfl ?_;refine hK _ _ ?_;clear hK K)|refine st rfl ?_|refine sc rfl ?_|refine nl ?_
 rename Nat=>b4
 generalize hL:x'S g=L at*
 refine VC.loop {p:Nat×Option (Nat×Nat)//p.1≤L.length} (fun p=>⟨z'J [(1,x'F In),(2,.pt (csC g)),(4,pD b4),(5,Zaw L),(6,.gs p.1.2 ((L.take p.1.1).filter (kpB In)).length),(7,iD (p.1.1:Nat))],shp p.1.2 70 3 (Zam ((L.take p.1.1).filter (kpB In))).flatten [(b4,.cells 32 3 [.gs none 0,.gs none 0,.gs none 0])]⟩) (fun p=>L.length-p.1.1) ⟨(0,none),z'M _⟩ ?_ ?_
 ·refine z'v rfl ?_
  simp[sub,upd]
 rintro⟨⟨k,a⟩,hk1⟩
 dsimp only at hk1⊢
 rcases z'g k L.length with hlt|hge
 ·have hm:=ho (L.getD k (0,0,0)) (x'w hlt)
  have i1:=Zi4 In (L.getD k (0,0,0)).1 hm.1
  have i2:=Zi4 In (L.getD k (0,0,0)).2.2 hm.2.2.1
  have hf:=ZiA (q:=kpB In) hlt
  have hlen:((L.take k).filter (kpB In)).length≤1000000:=y'z (List.length_filter_le _ _) (by rw[z'F];omega)
  cases e1:isB In (L.getD k (0,0,0)).1<;>cases e2:isB In (L.getD k (0,0,0)).2.2
  all_goals
   rw[e1]at i1
   rw[e2]at i2
   simp only[kpB,e1,e2,w'E,w's,w'1,y'p,z'x]at hf
   repeat' first|refine vs T rfl fun K hK=>?_;(try simp (disch:=omega) only[go_sem,Nat.reduceBEq,Nat.reduceAdd,Nat.reduceMul,Nat.reduceLeDiff,w'D,x'h,edR,w64,z'f]);(first|refine hK _ _ ?_;clear hK K|refine⟨_,_,_,_,(by repeat (exact Sp.here)),?_,(by exact⟨rfl,rfl⟩),?_,fun g' hg'=>hK _ _ ?_⟩<;>clear hK K|refine⟨?_,hK _ _ ?_⟩<;>clear hK K;focus(try omega)|refine Op1.callp rfl rfl (i1) rfl ?_;refine hK _ _ ?_;clear hK K|refine Op1.callp rfl rfl (i2) rfl ?_;refine hK _ _ ?_;clear hK K)|refine st rfl ?_|refine sc rfl ?_|refine nl ?_|refine gs rfl rfl ?_|with_reducible refine z'j (fun hc=>?_) (fun hc=>?_)<;>(try simp only[decide_eq_true_eq,decide_eq_false_iff_not,z'm]at hc)<;>(try(exfalso;omega))
  iterate 3
   refine⟨⟨(k+1,a),by dsimp only;omega⟩,z'v (by dsimp only;rw[hf]) ?_,by dsimp only;omega⟩
   simp[sub,upd,hf, -List.getD_eq_getElem?_getD]
  ·exact Zc6 _
  ·omega
  ·refine⟨⟨(k+1,g'),by dsimp only;omega⟩,z'v ?_ ?_,by dsimp only;omega⟩
   ·dsimp only
    rw[hf,Zch];rfl
   ·simp[sub,upd,hf, -List.getD_eq_getElem?_getD]
 ·obtain rfl:k=L.length:=by omega
  rw[z'X]
  have hl2:(L.filter (kpB In)).length≤1000000:=y'z (List.length_filter_le _ _) hl
  generalize hM:L.filter (kpB In)=M at*
  have cb:=Zfw (z'O g:Nat) M (by omega)
  rw[Zd1 (by omega) hk]at cb
  refine v'H (t:=6) rfl fun hgl=>?_
  repeat' first|refine vs T rfl fun K hK=>?_;(try simp (disch:=omega) only[go_sem,Nat.reduceBEq,Nat.reduceAdd,Nat.reduceLeDiff,x'h]);(first|refine hK _ _ ?_;clear hK K|refine Op1.callp rfl rfl (c3) rfl ?_;refine hK _ _ ?_;clear hK K|skip)|refine st rfl ?_|refine sc rfl ?_|refine nl ?_|with_reducible refine z'j (fun hc=>?_) (fun hc=>?_)<;>(try simp only[decide_eq_true_eq,decide_eq_false_iff_not,z'm]at hc)<;>(try(exfalso;omega))
  refine Op1.callG (Hp:=shp a 70 3 (Zam M).flatten []) (Hr:=[(b4,.cells 32 3 [.gs none 0,.gs none 0,.gs none 0])]) rfl rfl rfl
   (Fun.lendF cb (z't (Fz.refl _ _) (z't (Zpc hgl fun b cap e=>by subst e;exact x'x) x'T))) (y'b fun x=>by simp only[z'V,y'f,z'6,y'a];omega) (fun d H' h=>?_)
  obtain⟨rfl,rfl⟩:=h
  refine hK _ _ ?_
  clear hK K
  simp only[z'T]
  repeat' first|refine vs T rfl fun K hK=>?_;(try simp (disch:=omega) only[go_sem,Nat.reduceBEq,Nat.reduceAdd,Nat.reduceLeDiff]);(first|refine hK _ _ ?_;clear hK K|intro bq hbq;(try simp only[HB]at hbq);refine hK _ _ ?_;clear hK K)|refine st rfl ?_|refine nl ?_
  exact Zj0 T rfl (by(try simp (disch:=omega) only[hget_ne,hget_eq]);rfl) rfl rfl rfl (z'a _) ⟨rfl,rfl⟩
noncomputable def Zcr (l:List Ed) (S:Int→Prop) (n:Nat):List Bool:=by
 classical exact(List.range n).map fun(i:Nat)=>decide (Rch l S (i:Int))
theorem ZfR {l:List Ed} {S:Int→Prop} {n:Nat}:(Zcr l S n).length=n:=by simp[Zcr]
theorem ZgQ {l:List Ed} {S:Int→Prop} {n i:Nat} (h:i<n):(Zcr l S n).getD i false=true↔Rch l S (i:Int):=by
 classical
 unfold Zcr
 rw[z'e,y'c,List.getElem?_range h]
 simp
structure RchI (l:List Ed) (S:Int→Prop) (n:Nat) (o:List Bool):Prop where
 len:o.length=n
 so: ∀i,i<n→o.getD i false=true→Rch l S (i:Int)
 base: ∀x:Int,S x→0≤x→x<n→o.getD x.toNat false=true
theorem RchI.end_ {l:List Ed} {S:Int→Prop} {n:Nat} {o:List Bool} (h:RchI l S n o) (hl:ZdX n l) (hS: ∀x,S x→0≤x∧x<n) (hc: ∀e,e∈l→o.getD e.1.toNat false=true→o.getD e.2.2.toNat false=true):o=Zcr l S n:=by
 refine Zci (d:=false) (by rw[h.len,ZfR]) fun i hi=>?_
 rw[h.len]at hi
 have key: ∀x,Rch l S x→o.getD x.toNat false=true:=by
  intro x hx
  induction hx with
  |base hs=>exact h.base _ hs (hS _ hs).1 (hS _ hs).2
  |step _ hm ih=>exact hc _ hm ih
 rw[x'Y,ZgQ hi]
 exact⟨h.so i hi,fun hr=>by simpa using key _ hr⟩
theorem Zf9 {o:List Bool} {i j:Nat} (hi:i<o.length):(o.set i true).getD j false=(decide (i=j)||o.getD j false):=by
 simp only[z'e,v'P]
 by_cases h:i=j
 ·subst h;simp[hi]
 ·simp[h]
theorem RchI.set {l:List Ed} {S:Int→Prop} {n:Nat} {o:List Bool} (h:RchI l S n o) {x:Int} (hx:0≤x∧x<n) (hr:Rch l S x):RchI l S n (o.set x.toNat true):=by
 have hl:x.toNat<o.length:=by rw[h.len];omega
 refine⟨by rw[y'U];exact h.len,fun i hi hd=>?_,fun y hy h0 h1=>?_⟩
 ·rw[Zf9 hl,x'A,decide_eq_true_eq]at hd
  rcases hd with hd|hd
  ·rw[show(i:Int)=x by omega];exact hr
  ·exact h.so i hi hd
 ·rw[Zf9 hl,h.base y hy h0 h1,Bool.or_true]
def Zcf (o:List Bool):Nat:=o.countP fun b=> !b
theorem ZlZ {o:List Bool} {i:Nat} (h:i<o.length) (hf:o.getD i false=false):Zcf (o.set i true)<Zcf o:=by
 induction o generalizing i with
 |nil=>cases h
 |cons b o ih=>
  cases i with
  |zero=>
   have:b=false:=by simpa using hf
   subst this
   simp[Zcf]
  |succ i=>
   have:=ih (i:=i) (by simpa using h) (by simpa using hf)
   simp only[Zcf,List.set_cons_succ,w'r]at this⊢
   omega
theorem Zdi (n:Nat):ZaF n [.bool false]=(List.replicate n false).map bD:=by
 show(List.replicate n [bD false]).flatten=_
 rw[v'z]
 induction n with
 |zero=>rfl
 |succ n ih=>rw[y'F,z'0,ih,y'F];rfl
abbrev inS (fr:List Int) (n:Nat):Int→Prop:=fun x=>x∈fr∧0≤x∧x<n
theorem Zm2 {l:List Int} {k:Nat} (h:k<l.length) {x:Int}:x∈l.take (k+1)↔x∈l.take k∨x=l.getD k 0:=by
 rw[y'A,z'b h,z'e,z'b h]
 rw[y'g]
 simp
theorem ZjZ (g:Cs) (hg:OkG g) (hR:w'j g=true) (fr:List Int) (hfr:fr.length≤1000000):Pure Tryz.prog 103 [.agg (csC g),z'C fr] (x'F (Zcr (x'S g) (inS fr (z'O g)) (z'O g))):=by
 have c1:=Zbq g hg
 rw[hR]at c1
 have c2:=Zby g hg
 have c3:=ZaL g hg
 have ho:=(ZaG (x'G.1 hR)).1
 have hl:=Za3 hg hR
 have hn:z'O g≤1000000:=by have:=hg.st;simp only[z'O,hR];omega
 refine Fun.freeze (Zc4 _) ?_
 refine Fun.of T [.tmp 4] Tryz.func103 rfl Tryz.ntmps103 Tryz.results103 rfl (by kernel_rfl) ?_
 generalize hL:x'S g=L at*
 generalize hN:z'O g=n at*
 repeat' first|refine vb (t:=32) rfl rfl rfl rfl ?_|refine vs T rfl fun K hK=>?_;(try simp (disch:=omega) only[go_sem,Nat.reduceBEq,Nat.reduceAdd,Nat.reduceLeDiff,z'l,Zdi,z'f]);(first|refine hK _ _ ?_;clear hK K|refine⟨?_,fun bq hbq=>?_⟩;rotate_left;(try simp only[HB]at hbq);refine hK _ _ ?_;all_goals clear hK K|refine Op1.callp rfl rfl (c1) rfl ?_;refine hK _ _ ?_;clear hK K|refine Op1.callp rfl rfl (c3) rfl ?_;refine hK _ _ ?_;clear hK K)|refine st rfl ?_|refine sc rfl ?_|refine nl ?_
 case refine_1=>exact⟨by omega,by omega,by omega⟩
 refine VC.loop {p:Nat×List Bool//p.1≤fr.length∧p.2.length=n∧ ∀i,i<n→(p.2.getD i false=true↔(i:Int)∈fr.take p.1)} (fun p=>⟨z'J [(1,z'C fr),(2,.pt (csC g)),(5,iD (n:Nat)),(6,.gs (some (bq,n)) n),(7,iD (p.1.1:Nat))],[(bq,.cells 4 (n*1) (p.1.2.map bD))]⟩) (fun p=>fr.length-p.1.1) ⟨(0,List.replicate n false),by dsimp only;exact⟨z'M _,by simp,fun i hi=>by simp[z'e,hi]⟩⟩ ?_ ?_
 ·refine z'v rfl ?_
  simp[sub,upd]
 rintro⟨⟨k,o⟩,hk,hol,hoi⟩
 dsimp only at hk hol hoi⊢
 rcases z'g k fr.length with hlt|hge
 ·have tm:=fun x=>Zm2 (x:=x) hlt
  by_cases h1:0≤fr.getD k 0
  case neg=>
   have e1:decide (fr.getD k 0≥0)=false:=decide_eq_false (by omega)
   repeat' first|refine vs T rfl fun K hK=>?_;(try simp (disch:=omega) only[go_sem,Nat.reduceBEq,y'w,z'k,w64,z'f,e1]);(first|refine hK _ _ ?_;clear hK K|refine⟨?_,hK _ _ ?_⟩<;>clear hK K;focus(try omega))|refine st rfl ?_|refine sc rfl ?_|refine nl ?_|refine gs rfl rfl ?_|with_reducible refine z'j (fun hc=>?_) (fun hc=>?_)<;>(try simp only[decide_eq_true_eq,decide_eq_false_iff_not,z'm]at hc)<;>(try(exfalso;omega))
   refine⟨⟨(k+1,o),by dsimp only;exact⟨by omega,hol,fun i hi=>by rw[hoi i hi,tm];exact⟨.inl,fun h=>h.elim id fun h=>by omega⟩⟩⟩,z'v rfl ?_,by dsimp only;omega⟩
   simp[sub,upd]
  have e1:decide (fr.getD k 0≥0)=true:=decide_eq_true (by omega)
  by_cases h2:fr.getD k 0<(n:Nat)
  case neg=>
   have e2:decide (fr.getD k 0<(n:Int))=false:=decide_eq_false (by omega)
   repeat' first|refine vs T rfl fun K hK=>?_;(try simp (disch:=omega) only[go_sem,Nat.reduceBEq,y'w,z'k,w64,z'f,e1,e2]);(first|refine hK _ _ ?_;clear hK K|refine⟨?_,hK _ _ ?_⟩<;>clear hK K;focus(try omega))|refine st rfl ?_|refine sc rfl ?_|refine nl ?_|refine gs rfl rfl ?_|with_reducible refine z'j (fun hc=>?_) (fun hc=>?_)<;>(try simp only[decide_eq_true_eq,decide_eq_false_iff_not,z'm]at hc)<;>(try(exfalso;omega))
   refine⟨⟨(k+1,o),by dsimp only;exact⟨by omega,hol,fun i hi=>by rw[hoi i hi,tm];exact⟨.inl,fun h=>h.elim id fun h=>by omega⟩⟩⟩,z'v rfl ?_,by dsimp only;omega⟩
   simp[sub,upd]
  have e2:decide (fr.getD k 0<(n:Int))=true:=decide_eq_true (by omega)
  obtain⟨x,hx⟩: ∃x,x=fr.getD k 0:=⟨_,rfl⟩
  rw[←hx]at h1 h2 e1 e2 tm
  repeat' first|refine vs T rfl fun K hK=>?_;(try simp (disch:=omega) only[go_sem,Nat.reduceBEq,y'w,z'k,w64,z'f, ←hx,e1,e2,z's,hol,z'u]);(first|refine hK _ _ ?_;clear hK K|refine⟨?_,hK _ _ ?_⟩<;>clear hK K;focus(try omega))|refine st rfl ?_|refine sc rfl ?_|refine nl ?_|refine gs rfl rfl ?_|with_reducible refine z'j (fun hc=>?_) (fun hc=>?_)<;>(try simp only[decide_eq_true_eq,decide_eq_false_iff_not,z'm]at hc)<;>(try(exfalso;omega))
  have hset: ∀i,i<n→((o.set x.toNat true).getD i false=true↔(i:Int)∈fr.take (k+1)):=fun i hi=>by
   rw[Zf9 (by rw[hol];omega),x'A,decide_eq_true_eq,hoi i hi,tm]
   constructor
   ·rintro(h|h)
    ·exact .inr (by omega)
    ·exact .inl h
   ·rintro(h|h)
    ·exact .inr h
    ·exact .inl (by omega)
  refine⟨⟨(k+1,o.set x.toNat true),by dsimp only;exact⟨by omega,by rw[y'U];exact hol,hset⟩⟩,z'v (by dsimp only;rw[y'n,z'u]) ?_,by dsimp only;omega⟩
  simp[sub,upd]
 obtain rfl:k=fr.length:=by omega
 rw[z'X]at hoi
 have hI:RchI L (inS fr n) n o:=⟨hol,fun i hi hd=> .base ⟨(hoi i hi).1 hd,by omega,by omega⟩,fun x hx h0 h1=>(hoi x.toNat (by omega)).2 (by rw[Int.toNat_of_nonneg h0];exact hx.1)⟩
 clear hoi hol
 repeat' first|refine vs T rfl fun K hK=>?_;(try simp (disch:=omega) only[go_sem,Nat.reduceBEq,Nat.reduceAdd,Nat.reduceLeDiff,z'k]);(first|refine hK _ _ ?_;clear hK K|refine Op1.callp rfl rfl (c2) rfl ?_;refine hK _ _ ?_;clear hK K)|refine st rfl ?_|refine sc rfl ?_|refine nl ?_|with_reducible refine z'j (fun hc=>?_) (fun hc=>?_)<;>(try simp only[decide_eq_true_eq,decide_eq_false_iff_not,z'm]at hc)<;>(try(exfalso;omega))
 refine VC.loop {p:Bool×List Bool//RchI L (inS fr n) n p.2∧(p.1=false→ ∀e,e∈L→p.2.getD e.1.toNat false=true→p.2.getD e.2.2.toNat false=true)} (fun p=>⟨z'J [(6,.gs (some (bq,n)) n),(8,Zaw L),(9,bD p.1.1)],[(bq,.cells 4 (n*1) (p.1.2.map bD))]⟩) (fun p=>2*Zcf p.1.2+(match p.1.1 with|true=>1|false=>0)) ⟨(true,o),by dsimp only;exact⟨hI,fun h=>by cases h⟩⟩ ?_ ?_
 ·refine z'v rfl ?_
  simp[sub,upd]
 clear hI
 rintro⟨⟨more,o⟩,hI,hcl⟩
 dsimp only at hI hcl⊢
 cases more with
 |false=>
  rw[←hI.end_ ho (fun x hx=>hx.2) (hcl rfl)]
  repeat' first|refine vs T rfl fun K hK=>?_;(try simp (disch:=omega) only[go_sem,Nat.reduceBEq]);(refine hK _ _ ?_;clear hK K)|refine st rfl ?_|refine sc rfl ?_|refine nl ?_
  exact z'n T (z'p _) ⟨some (bq,n),4,by rw[w'5,hI.len];rfl,by rw[Zcd];rfl⟩
 |true=>
 clear hcl
 repeat' first|refine vs T rfl fun K hK=>?_;(try simp (disch:=omega) only[go_sem,Nat.reduceBEq]);(refine hK _ _ ?_;clear hK K)|refine st rfl ?_|refine sc rfl ?_|refine nl ?_
 refine VC.loop {q:Nat×Bool×List Bool//q.1≤L.length∧RchI L (inS fr n) n q.2.2∧(q.2.1=true→Zcf q.2.2<Zcf o)∧(q.2.1=false→q.2.2=o∧ ∀e,e∈L.take q.1→o.getD e.1.toNat false=true→o.getD e.2.2.toNat false=true)} (fun q=>⟨z'J [(6,.gs (some (bq,n)) n),(8,Zaw L),(9,bD q.1.2.1),(10,iD (q.1.1:Nat))],[(bq,.cells 4 (n*1) (q.1.2.2.map bD))]⟩) (fun q=>L.length-q.1.1) ⟨(0,false,o),by dsimp only;exact⟨z'M _,hI,fun h=>(by cases h),fun _=>⟨rfl,fun e he=>by simp at he⟩⟩⟩ ?_ ?_
 ·refine z'v rfl ?_
  simp[sub,upd]
 rintro⟨⟨k,m,o'⟩,hk,hI',hm1,hm2⟩
 dsimp only at hk hI' hm1 hm2⊢
 rcases z'g k L.length with hlt|hge
 case inr=>
  obtain rfl:k=L.length:=by omega
  rw[z'X]at hm2
  repeat' first|refine vs T rfl fun K hK=>?_;(try simp (disch:=omega) only[go_sem,Nat.reduceBEq,x'h]);(refine hK _ _ ?_;clear hK K)|refine st rfl ?_|refine sc rfl ?_|refine nl ?_|with_reducible refine z'j (fun hc=>?_) (fun hc=>?_)<;>(try simp only[decide_eq_true_eq,decide_eq_false_iff_not,z'm]at hc)<;>(try(exfalso;omega))
  refine⟨⟨(m,o'),by dsimp only;exact⟨hI',fun h=>by obtain⟨h1,h2⟩:=hm2 h;rw[h1];exact h2⟩⟩,z'v rfl ?_,?_⟩
  ·simp[sub,upd]
  ·cases m with
   |true=>have:=hm1 rfl;dsimp only;omega
   |false=>
    have h1:Zcf o'=Zcf o:=by rw[(hm2 rfl).1]
    dsimp only;omega
 have he:=ho (L.getD k (0,0,0)) (x'w hlt)
 have hem:L.getD k (0,0,0)∈L:=x'w hlt
 have hol:=hI'.len
 have tk: ∀e,e∈L.take (k+1)↔e∈L.take k∨e=L.getD k (0,0,0):=fun e=>by
  rw[y'A,z'b hlt,z'e,z'b hlt]
  rw[y'g]
  simp
 obtain⟨e,hx⟩: ∃e,e=L.getD k (0,0,0):=⟨_,rfl⟩
 rw[←hx]at he hem tk
 have r1:=w'7 (l:=o') (i:=e.1.toNat) (d:=false) (by omega)
 have r2:=w'7 (l:=o') (i:=e.2.2.toNat) (d:=false) (by omega)
 cases h1:o'.getD e.1.toNat false
 case false=>
  rw[h1]at r1
  repeat' first|refine vs T rfl fun K hK=>?_;(try simp (disch:=omega) only[go_sem,Nat.reduceBEq,w'D,x'h,edR,w64,z'f, ←hx,r1,x'k,z'u]);(first|refine hK _ _ ?_;clear hK K|refine⟨?_,hK _ _ ?_⟩<;>clear hK K;focus(try omega))|refine st rfl ?_|refine sc rfl ?_|refine nl ?_|refine gs rfl rfl ?_|with_reducible refine z'j (fun hc=>?_) (fun hc=>?_)<;>(try simp only[decide_eq_true_eq,decide_eq_false_iff_not,z'm]at hc)<;>(try(exfalso;omega))
  have hnew:m=false→ ∀x,x∈L.take (k+1)→o.getD x.1.toNat false=true→o.getD x.2.2.toNat false=true:=fun h x hxm hx1=>by
   rcases(tk x).1 hxm with hxm|rfl
   ·exact(hm2 h).2 x hxm hx1
   ·rw[←(hm2 h).1,h1]at hx1;cases hx1
  refine⟨⟨(k+1,m,o'),by dsimp only;exact⟨by omega,hI',hm1,fun h=>⟨(hm2 h).1,hnew h⟩⟩⟩,z'v (by rw[z'u]) ?_,by dsimp only;omega⟩
  simp[sub,upd]
 cases h2:o'.getD e.2.2.toNat false
 case true=>
  rw[h1]at r1
  rw[h2]at r2
  repeat' first|refine vs T rfl fun K hK=>?_;(try simp (disch:=omega) only[go_sem,Nat.reduceBEq,w'D,x'h,edR,w64,z'f, ←hx,r1,r2,x'k,z'u]);(first|refine hK _ _ ?_;clear hK K|refine⟨?_,hK _ _ ?_⟩<;>clear hK K;focus(try omega))|refine st rfl ?_|refine sc rfl ?_|refine nl ?_|refine gs rfl rfl ?_|with_reducible refine z'j (fun hc=>?_) (fun hc=>?_)<;>(try simp only[decide_eq_true_eq,decide_eq_false_iff_not,z'm]at hc)<;>(try(exfalso;omega))
  have hnew:m=false→ ∀x,x∈L.take (k+1)→o.getD x.1.toNat false=true→o.getD x.2.2.toNat false=true:=fun h x hxm hx1=>by
   rcases(tk x).1 hxm with hxm|rfl
   ·exact(hm2 h).2 x hxm hx1
   ·rw[←(hm2 h).1];exact h2
  refine⟨⟨(k+1,m,o'),by dsimp only;exact⟨by omega,hI',hm1,fun h=>⟨(hm2 h).1,hnew h⟩⟩⟩,z'v (by rw[z'u]) ?_,by dsimp only;omega⟩
  simp[sub,upd]
 rw[h1]at r1
 rw[h2]at r2
 repeat' first|refine vs T rfl fun K hK=>?_;(try simp (disch:=omega) only[go_sem,Nat.reduceBEq,w'D,x'h,edR,w64,z'f, ←hx,r1,r2,x'k,z'u,hol,z's]);(first|refine hK _ _ ?_;clear hK K|refine⟨?_,hK _ _ ?_⟩<;>clear hK K;focus(try omega))|refine st rfl ?_|refine sc rfl ?_|refine nl ?_|refine gs rfl rfl ?_|with_reducible refine z'j (fun hc=>?_) (fun hc=>?_)<;>(try simp only[decide_eq_true_eq,decide_eq_false_iff_not,z'm]at hc)<;>(try(exfalso;omega))
 have hr:Rch L (inS fr n) e.2.2:= .step (by have:=hI'.so e.1.toNat (by omega) h1;rwa [Int.toNat_of_nonneg he.1]at this) hem
 have hc:Zcf (o'.set e.2.2.toNat true)<Zcf o:=by
  have h3:=ZlZ (o:=o') (i:=e.2.2.toNat) (by omega) h2
  cases m with
  |true=>have:=hm1 rfl;omega
  |false=>rw[(hm2 rfl).1]at h3⊢;exact h3
 refine⟨⟨(k+1,true,o'.set e.2.2.toNat true),by dsimp only;exact⟨by omega,hI'.set ⟨he.2.2.1,he.2.2.2.1⟩ hr,fun _=>hc,fun h=>by cases h⟩⟩,z'v (by dsimp only;rw[y'n,z'u]) ?_,by dsimp only;omega⟩
 simp[sub,upd]
end Go.Proofs.YtfneeacgkdhldaaGreat
