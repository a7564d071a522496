/- All that can be reached, as data. No condition. -/
import Derived.Test.YtfneeacgkdhldaaGreatBc
import Derived.Test.YtfneeacgkdhldaaGreatRt
import Derived.Test.YtfneeacgkdhldaaGreatDb
import Derived.Test.YtfneeacgkdhldaaGreatDd
import Derived.Test.YtfneeacgkdhldaaGreatYc
namespace Go.Proofs.YtfneeacgkdhldaaGreat
set_option maxHeartbeats 16000000
set_option linter.unusedSimpArgs false
set_option linter.unusedVariables false
open Go Go.Proofs Go.Vc
instance:DecidableEq Cf:=fun a b=>decidable_of_iff (a.pc=b.pc∧a.regs=b.regs∧a.mem=b.mem∧a.bufs=b.bufs) ⟨fun h=>by cases a;cases b;simp_all,fun h=>by subst h;simp⟩
def w'B (C:List Cf):List (List D):=C.map cfC
theorem y'O (C:List Cf):(w'B C).flatten.length=C.length*4:=by
 induction C with
 |nil=>rfl
 |cons c C ih=>simp only[w'B,z'B,z'0,z'o,z'H,y'r]at ih⊢;omega
theorem Zhr (C:List Cf) (c:Cf):(w'B (C++[c])).flatten=(w'B C).flatten++cfC c:=by simp[w'B]
abbrev v'k (u:Un) (m r b:Int):Option (Spc Cf):=Zdm (fun c=>x'4 u c m r) (fun c a=>actM u c m r a) b.toNat (x'l u)
abbrev spC (C:List Cf) (g:Cs) (P B:List Int):List D:=[.sl false 4 (w'B C),z'C g.st,z'C g.ag,z'C g.to,z'C P,z'C B]
def edS (S:Spc Cf):List Ed:=S.ed.map fun e=>((e.1:Int),e.2.1,(e.2.2:Int))
def v'A (S:Spc Cf):Cs:=x'P S.cf.length (edS S)
abbrev spA (S:Spc Cf):List D:=spC S.cf (v'A S) S.pa S.ag
instance:Inhabited Cf:=⟨⟨[],[],[],[]⟩⟩
theorem w'S (C:List Cf):(w'B C).length=C.length:=z's ..
theorem ZeL (C:List Cf): ∀r,r∈w'B C→r.length=4:=by
 intro r hr
 obtain⟨x,_,rfl⟩:=z'y.1 hr
 rfl
def plI (x:Option Nat):Int:=match x with|some k=>k|none=> -1
theorem Zpg {l:List Cf} {c:Cf} {k:Nat} (h:l[k]?=some c) (hs: ∀i,i<k→l[i]?≠some c):Ze9 l c=some k:=by
 unfold Ze9
 rw[List.idxOf?,List.findIdx?_eq_some_iff_getElem]
 obtain⟨hk,he⟩:=z'c.1 h
 refine⟨hk,by simp[he],fun j hj=>?_⟩
 have:=hs j hj
 rw[z'b (by omega)]at this
 simpa using this
theorem Zph {l:List Cf} {c:Cf} (hs: ∀i,i<l.length→l[i]?≠some c):Ze9 l c=none:=by
 cases h:Ze9 l c with
 |none=>rfl
 |some k=>
  have:=ZkY h
  exact absurd this (hs k (z'c.1 this).1)
theorem Zpm {u:Un} {c:Cf} {m r:Int} {A:List Ag} {k:Nat}: ∀a,a∈mvK u c m r A k→0≤a:=by
 intro a ha
 simp only[mvK,z'y]at ha
 obtain⟨i,_,rfl⟩:=ha
 omega
theorem Zml {u:Un} {c:Cf} {m r:Int}: ∀a,a∈x'4 u c m r→0≤a:=Zpm
theorem ZgJ {u:Un} {c:Cf} {m r:Int}:(x'4 u c m r).length≤28:=y'z Zgi (v'd u m)
theorem Znr {u:Un} {m r b:Int} {S:Spc Cf} (h:v'k u m r b=some S) (hb:1≤b) (h0:Rt u (x'l u) m r): ∀c,c∈S.cf→Rt u c m r:=by
 obtain⟨I,_,_⟩:=Zaa h (by omega)
 intro c hc
 obtain⟨j,hj⟩:=List.mem_iff_getElem?.1 hc
 exact I.all (p:=fun c=>Rt u c m r) h0 (fun c a hc _=>hc.actM a) j c hj
theorem Zev {u:Un} {m r b:Int} {S:Spc Cf} (h:v'k u m r b=some S) (hb:1≤b): ∀e,e∈edS S→0≤e.1∧e.1<S.cf.length∧0≤e.2.2∧e.2.2<S.cf.length∧0≤e.2.1:=by
 obtain⟨I,hE,hC⟩:=Zaa h (by omega)
 intro e he
 obtain⟨x,hx,rfl⟩:=z'y.1 he
 rw[hE]at hx
 obtain⟨j,hj,hx⟩:=v'Z.1 hx
 cases hq:S.cf[j]? with
 |none=>rw[hq]at hx;cases hx
 |some c=>
  rw[hq]at hx
  obtain⟨a,ha,rfl⟩:=z'y.1 hx
  have h1:=(z'c.1 hq).1
  have h2:=List.idxOf_lt_length_of_mem (hC j c hq a ha)
  have h3:=Zml a ha
  dsimp only
  omega
theorem ZfJ {e eb:Nat} {ea full:Bool} {ez:List Value} {l:List Cf} {k:IntKind} {n:Int} {K:D→Prop}:
  cIndexAddr (.slice e 4 eb ea ez) (.sl full 4 (w'B l)) (.is (.int k n)) K=((0≤n∧n<l.length)∧K (.pt (cfC (l.getD n.toNat default)))):=Zbm cfC default
theorem Sp.hereS {b cap:Nat} {e:TypeId} {esz:Nat} {l:List D} {X:Heap}:Sp ((b,.cells e (cap*esz) l)::X) (some (b,cap)) e esz l (fun g' l'=>shp g' e esz l' X):=Sp.here (g:=some (b,cap))
theorem Zp5 {x1 x2 x3 x4:Nat×HC} {g g':Option (Nat×Nat)} {e e' esz esz':Nat} {l l':List D}:(x1::x2::x3::shp g e esz l (shp g' e' esz' l' [x4])).Perm (x1::x2::x3::x4::shp g' e' esz' l' (shp g e esz l [])):=
 y'b fun a=>by simp only[z'V,y'f,y'a];omega
theorem Zln {α:Type} [DecidableEq α] {ac:α→Int→α} {b i:Nat} {c:α} {a:Int} {l:List Int} {S:Spc α}:v'C ac b i c (a::l) S=(stepA ac b i c S a).bind (v'C ac b i c l):=by
 rw[v'C]
 cases stepA ac b i c S a<;>rfl
theorem ZmS {α:Type} [DecidableEq α] {mv:α→List Int} {ac:α→Int→α} {b n i:Nat} {S:Spc α} {c:α} (h:S.cf[i]?=some c):w'l mv ac b (n+1) i S=(v'C ac b i c (mv c) S).bind (w'l mv ac b n (i+1)):=by
 rw[w'l,h]
 simp only
 generalize v'C ac b i c (mv c) S=x
 cases x<;>rfl
theorem Zlr {α:Type} [DecidableEq α] {mv:α→List Int} {ac:α→Int→α} {b n i:Nat} {S:Spc α} (h:S.cf.length≤i):w'l mv ac b n i S=some S:=by
 cases n with
 |zero=>rfl
 |succ n=>rw[w'l,z'z h]
theorem Zhw (S:Spc Cf) (C:List Cf) (P A:List Int) (i:Nat) (a:Int) (j:Nat):edS ⟨C,P,A,S.ed++[(i,a,j)]⟩=edS S++[((i:Int),a,(j:Int))]:=by simp[edS]
theorem Zc7 (S:Spc Cf):(edS S).length=S.ed.length:=by simp[edS]
set_option maxRecDepth 20000
attribute [local irreducible] y'5 VCg VCw VCx
theorem Zl1 (l:List Ed) (i:Nat):(l.countP fun e=>decide (0≤e.1)&&decide (e.1<(i:Int)))+(l.countP fun e=>e.1 == (i:Int))=l.countP fun e=>decide (0≤e.1)&&decide (e.1<((i+1:Nat):Int)):=by
 induction l with
 |nil=>rfl
 |cons x l ih=>
  rw[w'r,w'r,w'r, ←ih]
  have key:(if (decide (0≤x.1)&&decide (x.1<(i:Int)))=true then 1 else 0)+(if (x.1 == (i:Int))=true then 1 else 0)=(if (decide (0≤x.1)&&decide (x.1<((i+1:Nat):Int)))=true then 1 else 0):=by
   simp only[z'i,decide_eq_true_eq,beq_iff_eq]
   split<;>split<;>split<;>omega
  omega
theorem Zjr (l:List Ed): ∀i,(upE l i).length=l.countP fun e=>decide (0≤e.1)&&decide (e.1<(i:Int))
 |0=>by
  symm
  rw[Ziq,y'r,List.countP_eq_zero]
  intro e _
  simp only[z'i,decide_eq_true_eq];omega
 |i+1=>by rw[v'U,z'o,Zjr l i, ←Zl1];unfold v'f;rw[List.countP_eq_length_filter (p:=fun e:Ed=>e.1 == (i:Int))]
theorem Zip (l:List Ed) (i:Nat):(upE l i).length≤l.length:=by rw[Zjr];exact w'w
def upK (l:List Ed) (i k:Nat):List Ed:=upE l i++v'f (l.take k) i
theorem Zni (l:List Ed) (i:Nat):upK l i 0=upE l i:=by simp[upK,v'f]
theorem Zjv (l:List Ed) (i:Nat):upK l i l.length=upE l (i+1):=by rw[upK,z'X,v'U]
theorem Zir {l:List Ed} {i k:Nat} (hk:k<l.length):upK l i (k+1)=upK l i k++(match (l.getD k (0,0,0)).1 == (i:Int)with|true=>[l.getD k (0,0,0)]|false=>[]):=by
 unfold upK v'f
 rw[y'A,w'7 (d:=(0,0,0)) hk,y'u]
 congr 1
 rw[Option.toList_some,y'D]
 have h0: ∀x:Ed,[x].filter (fun e=>e.1 == (i:Int))=match x.1 == (i:Int)with|true=>[x]|false=>[]:=fun x=>by
  rw[w'R,List.filter_nil]
  cases x.1 == (i:Int)<;>rfl
 rw[h0]
theorem ZpO (l:List Ed) (i k:Nat):(upK l i k).length≤l.length:=by
 have h1:=Zip l (i+1)
 have h2:(v'f (l.take k) i).length≤(v'f l i).length:=((List.take_sublist k l).filter _).length_le
 rw[v'U,z'o]at h1
 rw[upK,z'o];omega
def stK (l:List Ed) (i:Nat):List Int:=(List.range (i+1)).map fun j=>((upE l j).length:Int)
theorem ZmY (l:List Ed) (i:Nat):stK l (i+1)=stK l i++[((upE l (i+1)).length:Int)]:=by
 unfold stK;rw[y'l,z'E];rfl
theorem Zjo (l:List Ed) (i:Nat):(stK l i).length=i+1:=by simp[stK]
def Zc5 (n:Int) (l:List Ed):Cs×Int:=match decide (0≤n)&&(decide (n≤100000)&&ZjN n.toNat l)with|true=>(x'P n.toNat l,0)|false=>(⟨[],[],[]⟩,1)
theorem Zgy {n:Int} {l:List Ed} (h: ¬(0≤n∧n≤100000∧ ∀e,e∈l→0≤e.1∧e.1<n∧0≤e.2.2∧e.2.2<n∧0≤e.2.1)):Zc5 n l=(⟨[],[],[]⟩,1):=by
 unfold Zc5
 split
 ·rename_i hd
  simp only[z'i,decide_eq_true_eq,ZjN,z'I]at hd
  obtain⟨h1,h2,h3⟩:=hd
  exact absurd ⟨h1,h2,fun e he=>by have:=h3 e he;omega⟩ h
 ·rfl
theorem Zd1 {n:Nat} {l:List Ed} (h2:n≤100000) (h: ∀e,e∈l→0≤e.1∧e.1<n∧0≤e.2.2∧e.2.2<n∧0≤e.2.1):Zc5 n l=(x'P n l,0):=by
 unfold Zc5
 have:(decide ((0:Int)≤n)&&(decide ((n:Int)≤100000)&&ZjN (n:Int).toNat l))=true:=by
  simp only[z'i,decide_eq_true_eq,ZjN,z'I,z'f]
  exact⟨by omega,by omega,fun e he=>by have:=h e he;omega⟩
 rw[this]
 rfl
abbrev csD (ga gb gc:Option (Nat×Nat)) (a b c:Nat):List D:=[.gs ga a,.gs gb b,.gs gc c]
abbrev csW (ga gb gc:Option (Nat×Nat)) (S:List Int) (L:List Ed) (H:Heap):Heap:=shp ga 3 1 (S.map iD) (shp gb 3 1 ((L.map (·.2.1)).map iD) (shp gc 3 1 ((L.map (·.2.2)).map iD) H))
theorem ZkL {H:Heap} {a:D}:Fz H (.tup [.agg (csC ⟨[],[],[]⟩),a]) (.tup [.agg [.gs none 0,.gs none 0,.gs none 0],a]):=
 ⟨_,rfl,z't ⟨_,rfl,z't y'q (z't y'q (z't y'q x'T))⟩ (FzL.refl _ _)⟩
theorem Zpa {ga gb gc:Option (Nat×Nat)} {S:List Int} {L:List Ed} {H:Heap} {a:D} {n:Nat} (hS:S.length=n) (h1:gOk ga n) (h2:gOk gb L.length) (h3:gOk gc L.length) (hm: ∀x,x∈csW ga gb gc S L []→x∈H):
  Fz H (.tup [.agg (csC ⟨S,L.map (·.2.1),L.map (·.2.2)⟩),a]) (.tup [.agg (csD ga gb gc n L.length L.length),a]):=by
 subst hS
 have z1:=w'z (e:=3) (s:=S) (H:=H) h1 fun b c e=>hm _ (by subst e;exact x'x)
 have z2:=w'z (e:=3) (s:=L.map (·.2.1)) (g:=gb) (H:=H) (by rw[z's];exact h2) fun b c e=>hm _ (w'Q (by subst e;exact x'x))
 have z3:=w'z (e:=3) (s:=L.map (·.2.2)) (g:=gc) (H:=H) (by rw[z's];exact h3) fun b c e=>hm _ (w'Q (w'Q (by subst e;exact x'x)))
 rw[z's]at z2 z3
 exact⟨_,rfl,z't ⟨_,rfl,z't z1 (z't z2 (z't z3 x'T))⟩ (FzL.refl _ _)⟩
theorem Zfw (n:Int) (l:List Ed) (hl:l.length≤1000000):Pure Tryz.prog 23 [iD n,Zaw l] (.tup [.agg (csC (Zc5 n l).1),iD (Zc5 n l).2]):=by
 refine Fun.fz ?_
 refine Fun.of T [.cell 4 32,.tmp 5] Tryz.func23 rfl Tryz.ntmps23 Tryz.results23 rfl (by kernel_rfl) ?_
 repeat' first|refine vs T rfl fun K hK=>?_;(try simp (disch:=omega) only[go_sem,Nat.reduceBEq,Nat.reduceAdd,Nat.reduceLeDiff]);(first|refine hK _ _ ?_;clear hK K|intro bq hbq;(try simp only[HB]at hbq);refine hK _ _ ?_;clear hK K)|refine st rfl ?_|refine sc rfl ?_|refine nl ?_|refine gs rfl rfl ?_|with_reducible refine z'j (fun hc=>?_) (fun hc=>?_)<;>(try simp only[decide_eq_true_eq,decide_eq_false_iff_not,gt_iff_lt,z'm]at hc)
 any_goals(rw[Zgy fun h=>by omega];exact x'g T rfl (by(try simp (disch:=omega) only[hget_ne,hget_eq]);rfl) rfl rfl rfl (z'a _) ZkL)
 rename Nat=>b8
 refine VC.loop {k:Nat//k≤l.length∧ ∀i,i<k→0≤(l.getD i (0,0,0)).1∧(l.getD i (0,0,0)).1<n∧0≤(l.getD i (0,0,0)).2.2∧(l.getD i (0,0,0)).2.2<n∧0≤(l.getD i (0,0,0)).2.1}
  (fun p=>⟨z'J [(0,iD n),(1,Zaw l),(4,.is (.pointer (some ⟨b8,0,none⟩))),(6,iD (p.1:Nat))],[(b8,.cells 32 3 [.gs none 0,.gs none 0,.gs none 0])]⟩) (fun p=>l.length-p.1) ⟨0,by omega,fun i hi=>by omega⟩ ?_ ?_
 ·refine Weak.sub ?_
  simp[sub,upd]
 rintro⟨k,hk,hs⟩
 dsimp only
 repeat' first|refine vs T rfl fun K hK=>?_;(try simp (disch:=omega) only[go_sem,Nat.reduceBEq,Nat.reduceAdd,Nat.reduceMul,Nat.reduceLeDiff,w'D,x'h,edR,w64,z'f]);(first|refine hK _ _ ?_;clear hK K|refine⟨_,_,_,_,(by repeat (first|apply Sp.cons|exact Sp.nil)),?_,(by exact⟨rfl,rfl⟩),⟨by decide,?_⟩,fun g' hg'=>hK _ _ ?_⟩<;>clear hK K|intro bq hbq;(try simp only[HB]at hbq);refine hK _ _ ?_;clear hK K|refine⟨?_,hK _ _ ?_⟩<;>clear hK K;focus(try omega))|refine st rfl ?_|refine sc rfl ?_|refine nl ?_|refine gs rfl rfl ?_|with_reducible refine z'j (fun hc=>?_) (fun hc=>?_)<;>(try simp only[decide_eq_true_eq,decide_eq_false_iff_not,ge_iff_le,y'e,z'm]at hc)
 any_goals(rw[Zgy fun h=>by have:=h.2.2 _ (x'w (d:=(0,0,0)) (show k<l.length by omega));omega];exact x'g T rfl (by(try simp (disch:=omega) only[hget_ne,hget_eq]);rfl) rfl rfl rfl (z'a _) ZkL)
 ·refine⟨⟨k+1,by omega,fun i hi=>?_⟩,Weak.sub ?_,by simp only[];omega⟩
  ·rcases z'g i k with h|h
   ·exact hs i h
   ·obtain rfl:i=k:=by omega
    omega
  ·simp[sub,upd]
 ·rfl
 ·decide
 obtain rfl:k=l.length:=by omega
 obtain⟨n,rfl⟩: ∃m:Nat,n=(m:Int):=⟨n.toNat,by omega⟩
 have hE: ∀e,e∈l→0≤e.1∧e.1<n∧0≤e.2.2∧e.2.2<n∧0≤e.2.1:=fun e he=>by
  obtain⟨i,hi⟩:=List.mem_iff_getElem?.1 he
  have:=hs i (z'c.1 hi).1
  rw[ZnJ hi]at this
  exact this
 have hn:n≤100000:=by omega
 rw[Zd1 (by omega) hE]
 have hnb: ¬bq=b8:=hbq
 refine VC.loop {p:Nat×Option (Nat×Nat)×Option (Nat×Nat)×Option (Nat×Nat)//p.1≤n∧gOk p.2.1 (p.1+1)∧gOk p.2.2.1 (upE l p.1).length∧gOk p.2.2.2 (upE l p.1).length}
  (fun p=>⟨z'J [(0,iD n),(1,Zaw l),(4,.is (.pointer (some ⟨b8,0,none⟩))),(7,.is (.pointer (some ⟨bq,0,none⟩))),(8,iD (p.1.1:Nat))],(bq,.cells 32 3 (csD p.1.2.1 p.1.2.2.1 p.1.2.2.2 (p.1.1+1) (upE l p.1.1).length (upE l p.1.1).length))::(b8,.cells 32 3 [.gs none 0,.gs none 0,.gs none 0])::csW p.1.2.1 p.1.2.2.1 p.1.2.2.2 (stK l p.1.1) (upE l p.1.1) []⟩)
  (fun p=>n-p.1.1) ⟨(0,g',none,none),by dsimp only;exact⟨z'M _,hg',rfl,rfl⟩⟩ ?_ ?_
 ·refine z'v rfl ?_
  simp[sub,upd]
 rintro⟨⟨i,ga,gb,gc⟩,hi,h1,h2,h3⟩
 dsimp only at hi h1 h2 h3⊢
 repeat' first|refine vs T rfl fun K hK=>?_;(try simp (disch:=omega) only[go_sem,Nat.reduceBEq,Nat.reduceAdd,Nat.reduceLeDiff]);(refine hK _ _ ?_;clear hK K)|refine st rfl ?_|refine sc rfl ?_|refine nl ?_|with_reducible refine z'j (fun hc=>?_) (fun hc=>?_)<;>(try simp only[decide_eq_true_eq,decide_eq_false_iff_not,z'm]at hc)
 ·refine VC.loop {p:Nat×Option (Nat×Nat)×Option (Nat×Nat)//p.1≤l.length∧gOk p.2.1 (upK l i p.1).length∧gOk p.2.2 (upK l i p.1).length}
   (fun p=>⟨z'J [(0,iD n),(1,Zaw l),(4,.is (.pointer (some ⟨b8,0,none⟩))),(7,.is (.pointer (some ⟨bq,0,none⟩))),(8,iD (i:Nat)),(9,iD (p.1.1:Nat))],(bq,.cells 32 3 (csD ga p.1.2.1 p.1.2.2 (i+1) (upK l i p.1.1).length (upK l i p.1.1).length))::(b8,.cells 32 3 [.gs none 0,.gs none 0,.gs none 0])::csW ga p.1.2.1 p.1.2.2 (stK l i) (upK l i p.1.1) []⟩)
   (fun p=>l.length-p.1.1) ⟨(0,gb,gc),by dsimp only;rw[Zni];exact⟨z'M _,h2,h3⟩⟩ ?_ ?_
  ·refine z'v (by dsimp only;rw[Zni]) ?_
   simp[sub,upd]
  rintro⟨⟨k,gb,gc⟩,hk,h2,h3⟩
  dsimp only at hk h2 h3⊢
  have hle:=ZpO l i k
  have hst:=Zjo l i
  repeat' first|refine dr (id:=17) T 8 (by kernel_rfl) ?_|refine dr (id:=18) T 8 (by kernel_rfl) ?_|refine gn ?_|(first|apply VCg.step T rfl rfl|apply exF);focus((try simp (disch:=omega) only[go_sem,Nat.reduceBEq,Nat.reduceMul,Nat.reduceLeDiff,w'D,edR,z'f]);(first|exact rfl|refine⟨?_,rfl⟩;try omega))|refine vs T rfl fun K hK=>?_;(try simp (disch:=omega) only[go_sem,Nat.reduceBEq,Nat.reduceAdd,Nat.reduceMul,Nat.reduceLeDiff,w'D,edR,x'h,w64,z'f]);(first|refine hK _ _ ?_;clear hK K|refine⟨_,_,_,_,(by repeat (first|exact Sp.here|apply Sp.cons|apply Sp.over)),?_,(by exact⟨rfl,rfl⟩),⟨by decide,?_⟩,fun g' hg'=>hK _ _ ?_⟩<;>clear hK K|refine⟨?_,hK _ _ ?_⟩<;>clear hK K;focus(try omega))|refine st rfl ?_|refine sc rfl ?_|refine nl ?_|with_reducible refine z'j (fun hc=>?_) (fun hc=>?_)<;>(try simp only[decide_eq_true_eq,decide_eq_false_iff_not,beq_iff_eq,beq_eq_false_iff_ne,ne_eq,z'm]at hc)
  ·simp
  ·omega
  ·simp
  ·omega
  ·rename_i ga' hga'
   have hb:((l.getD k (0,0,0)).1 == (i:Int))=true:=beq_iff_eq.2 hc
   have hK:upK l i (k+1)=upK l i k++[l.getD k (0,0,0)]:=by rw[Zir (by omega),hb]
   refine⟨⟨(k+1,_,_),by dsimp only;rw[hK,z'o];exact⟨by omega,hga',hg'⟩⟩,z'v ?_ ?_,by dsimp only;omega⟩
   ·dsimp only
    rw[hK,z'o]
    simp only[csW,z'E,z'B,x'y]
    rfl
   ·simp[sub,upd]
  ·have hb:((l.getD k (0,0,0)).1 == (i:Int))=false:=by simpa using hc
   have hK:upK l i (k+1)=upK l i k:=by rw[Zir (by omega),hb,z'x]
   refine⟨⟨(k+1,gb,gc),by dsimp only;rw[hK];exact⟨by omega,h2,h3⟩⟩,z'v ?_ ?_,by dsimp only;omega⟩
   ·dsimp only
    rw[hK]
   ·simp[sub,upd]
  ·simp[hst]
  ·omega
  ·obtain rfl:k=l.length:=by omega
   refine⟨⟨(i+1,_,gb,gc),by dsimp only;rw[←Zjv];exact⟨by omega,hg',h2,h3⟩⟩,z'v ?_ ?_,by dsimp only;omega⟩
   ·dsimp only
    rw[ZmY, ←Zjv]
    simp only[csW,z'E,z'B,x'y]
   ·simp[sub,upd]
 obtain rfl:i=n:=by omega
 refine x'g T rfl (by(try simp (disch:=omega) only[hget_ne,hget_eq]);rfl) rfl rfl rfl (z'p _) ?_
 exact Zpa (Zjo l i) h1 h2 h3 fun x hx=>z'd _ (z'd _ hx)
structure Ze0 (n:Nat) (P B:List Int):Prop where
 len:n≤1000000
 pl:P.length=n
 bl:B.length=n
 par: ∀j,0<j→j<n→0≤P.getD j 0∧P.getD j 0<j
def toK (P B:List Int):Nat→Nat→List Int
 |0,_=>[]
 |_+1,0=>[]
 |n+1,i+1=>toK P B n (P.getD (i+1) 0).toNat++[B.getD (i+1) 0]
theorem Zj8 {n:Nat} {P B:List Int} (h:Ze0 n P B): ∀{i k q:Nat},i<n→i≤k→i≤q→toK P B k i=toK P B q i:=by
 intro i
 induction i using Nat.strongRecOn with
 |_ i ih=>
  intro k q hi hk hq
  cases i with
  |zero=>cases k<;>cases q<;>rfl
  |succ i=>
   cases k with
   |zero=>omega
   |succ k=>
    cases q with
    |zero=>omega
    |succ q=>
     have:=h.par (i+1) (by omega) hi
     rw[toK,toK,ih (P.getD (i+1) 0).toNat (by omega) (k:=k) (q:=q) (by omega) (by omega) (by omega)]
def toF (P B:List Int) (i:Nat):List Int:=toK P B i i
theorem Zfn {n:Nat} {P B:List Int} (h:Ze0 n P B) {i:Nat} (h0:0<i) (hi:i<n):toF P B i=toF P B (P.getD i 0).toNat++[B.getD i 0]:=by
 cases i with
 |zero=>omega
 |succ i=>
  have:=h.par (i+1) (by omega) hi
  unfold toF
  rw[toK,Zj8 h (k:=i) (q:=(P.getD (i+1) 0).toNat) (by omega) (by omega) (z'w _)]
theorem Zgq {n:Nat} {P B:List Int} (h:Ze0 n P B): ∀i,i<n→(toF P B i).length≤i:=by
 intro i
 induction i using Nat.strongRecOn with
 |_ i ih=>
  intro hi
  rcases y'3 i with rfl|h0
  ·exact z'w _
  ·have h1:=h.par i h0 hi
   have:=ih (P.getD i 0).toNat (by omega) (by omega)
   rw[Zfn h h0 hi,z'o,z'H,y'r];omega
def toI (n:Nat) (P B:List Int) (i:Int):List Int:=match decide (0<i)&&decide (i<n)with|true=>toF P B i.toNat|false=>[]
theorem VCx.step {P:Program} (T:Tab P) {W:Nat→Bool} {st:Nat} {H H1:Heap} {K:(Nat→D)→Prop} {m i:Nat} {E:Nat→D} {o:Oper} {l:List Oper} {d:D} {t:Tmp} (hg:o.guard=none) (ht:o.dst=some t) (hi:Nat.beq i st=false)
  (h1:opC T o (evD E) H (fun d' H'=>d'=d∧H'=H)) (h1':opC T o (evD E) H1 (fun d' H'=>d'=d∧H'=H1)) (h2:VCx T W st H H1 K m (i+1) l (upd E t d)):VCx T W st H H1 K (m+1) i (o::l) E:=by
 unfold VCx
 exact⟨d,⟨hg,fun _=>⟨ZaW T h1,.inr (ZaW T h1')⟩,fun e=>by subst e;rw[Nat.beq_refl]at hi;cases hi⟩,by rw[ht];exact h2⟩
theorem VCx.nil {P:Program} (T:Tab P) {W:Nat→Bool} {st:Nat} {H H1:Heap} {K:(Nat→D)→Prop} {i:Nat} {E:Nat→D} {l:List Oper} (h:K E):VCx T W st H H1 K 0 i l E:=by unfold VCx;exact h
abbrev OwnI (L:List Int):D→Heap→Prop:=fun d H'=> ∃x:Option (Nat×Nat),gOk x L.length∧d= .gs x L.length∧H'=shp x 3 1 (L.map iD) []
theorem OwnI.freeze {f:Nat} {args:List D} {L:List Int} (h:Fun Tryz.prog f args [] false (OwnI L)):Pure Tryz.prog f args (z'C L):=
 Fun.freeze (Zb9 _) (h.mono fun d H' ⟨x,hx,h1,h2⟩=>⟨x,3,by rw[h1,z'k],by rw[h2,Zac]⟩)
theorem ZoE (C:List Cf) (g:Cs) (P B:List Int) (h:Ze0 C.length P B): ∀(n:Nat) (i:Int),i.toNat≤n→Fun Tryz.prog 12 [.agg (spC C g P B),iD i] [] false (OwnI (toI C.length P B i)):=by
 intro n
 induction n with
 |zero=>
  intro i hi
  have e:toI C.length P B i=[]:=by
   unfold toI
   rw[decide_eq_false (by omega)];rfl
  rw[e]
  refine Fun.of T [.tmp 4] Tryz.func12 rfl Tryz.ntmps12 Tryz.results12 rfl (by kernel_rfl) ?_
  repeat' first|refine vb (t:=34) rfl rfl rfl rfl ?_|refine vs T rfl fun K hK=>?_;(try simp (disch:=omega) only[go_sem,Nat.reduceBEq]);(refine hK _ _ ?_;clear hK K)|refine st rfl ?_|refine sc rfl ?_|refine nl ?_|refine gs rfl rfl ?_|with_reducible refine z'j (fun hc=>?_) (fun hc=>?_)<;>(try simp only[decide_eq_true_eq,decide_eq_false_iff_not,y'e]at hc)<;>(try(exfalso;omega))
  exact z'n T (z'a _) ⟨none,rfl,rfl,rfl⟩
 |succ n ih=>
  intro i hi
  cases hd:decide (0<i)&&decide (i<C.length)with
  |false=>
   have e:toI C.length P B i=[]:=by simp only[toI,hd]
   rw[e]
   have hd': ¬(0<i∧i<C.length):=fun hh=>by
    rw[decide_eq_true hh.1,decide_eq_true hh.2]at hd;cases hd
   refine Fun.of T [.tmp 4] Tryz.func12 rfl Tryz.ntmps12 Tryz.results12 rfl (by kernel_rfl) ?_
   repeat' first|refine vb (t:=34) rfl rfl rfl rfl ?_|refine vs T rfl fun K hK=>?_;(try simp (disch:=omega) only[go_sem,Nat.reduceBEq,w'S]);(refine hK _ _ ?_;clear hK K)|refine st rfl ?_|refine sc rfl ?_|refine nl ?_|refine gs rfl rfl ?_|with_reducible refine z'j (fun hc=>?_) (fun hc=>?_)<;>(try simp only[decide_eq_true_eq,decide_eq_false_iff_not,ge_iff_le,y'e]at hc)<;>(try(exfalso;omega))
   all_goals exact z'n T (z'a _) ⟨none,rfl,rfl,rfl⟩
  |true=>
   rw[z'i,decide_eq_true_eq,decide_eq_true_eq]at hd
   obtain⟨i,rfl⟩: ∃k:Nat,i=(k:Int):=⟨i.toNat,by omega⟩
   have hp:=h.par i (by omega) (by omega)
   have hpl:=h.pl
   have hbl:=h.bl
   have hc:=h.len
   have cc:=ih (P.getD i 0) (by omega)
   have e0:toI C.length P B (P.getD i 0)=toF P B (P.getD i 0).toNat:=by
    unfold toI
    rcases Int.lt_or_le 0 (P.getD i 0)with hh|hh
    ·rw[decide_eq_true hh,decide_eq_true (by omega)];rfl
    ·rw[decide_eq_false (by omega),show(P.getD i 0).toNat=0 by omega];rfl
   have e1:toI C.length P B (i:Nat)=toF P B (P.getD i 0).toNat++[B.getD i 0]:=by
    have:toI C.length P B (i:Nat)=toF P B i:=by unfold toI;rw[decide_eq_true (by omega),decide_eq_true (by omega)];rfl
    rw[this,Zfn h (by omega) (by omega)]
   have hlen:=Zgq h (P.getD i 0).toNat (by omega)
   rw[e0]at cc
   rw[e1]
   refine Fun.of T [.tmp 4] Tryz.func12 rfl Tryz.ntmps12 Tryz.results12 rfl (by kernel_rfl) ?_
   repeat' first|refine vb (t:=34) rfl rfl rfl rfl ?_|refine dr (id:=3) T 6 (by kernel_rfl) ?_|refine gn ?_|(apply VCg.step T rfl rfl);focus((try simp (disch:=omega) only[go_sem,Nat.reduceBEq,Nat.reduceAdd,Nat.reduceLeDiff,y'w,z'f]);(first|exact rfl|refine⟨?_,rfl⟩;try omega))|refine vs T rfl fun K hK=>?_;(try simp (disch:=omega) only[go_sem,Nat.reduceBEq,Nat.reduceMul,Nat.reduceLeDiff,w'S,y'w,z'f]);(first|refine hK _ _ ?_;clear hK K|refine⟨_,_,_,_,(by repeat (exact Sp.here)),?_,(by exact⟨rfl,rfl⟩),⟨by decide,?_⟩,fun g' hg'=>hK _ _ ?_⟩<;>clear hK K|refine⟨?_,hK _ _ ?_⟩<;>clear hK K;focus(try omega)|refine Op1.callx rfl rfl (cc) rfl (fun q hq=>?_);refine hK _ _ ?_;clear hK K)|refine st rfl ?_|refine sc rfl ?_|refine nl ?_|refine gs rfl rfl ?_|with_reducible refine z'j (fun hc=>?_) (fun hc=>?_)<;>(try simp only[decide_eq_true_eq,decide_eq_false_iff_not,ge_iff_le,y'e]at hc)<;>(try(exfalso;omega))
   ·simp
   ·omega
   ·exact z'n T (z'p _) ⟨g',by rw[z'o];exact hg',by rw[z'o];rfl,by rw[z'E];rfl⟩
theorem Zlt (C:List Cf) (g:Cs) (P B:List Int) (h:Ze0 C.length P B) (i:Int):Pure Tryz.prog 12 [.agg (spC C g P B),iD i] (z'C (toI C.length P B i)):=OwnI.freeze (ZoE C g P B h _ i (z'w _))
end Go.Proofs.YtfneeacgkdhldaaGreat
