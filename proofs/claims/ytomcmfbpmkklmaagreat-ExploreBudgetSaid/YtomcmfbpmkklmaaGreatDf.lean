/- All that can be reached, as data. No condition. -/
import Derived.Test.YtomcmfbpmkklmaaGreatBc
import Derived.Test.YtomcmfbpmkklmaaGreatRt
import Derived.Test.YtomcmfbpmkklmaaGreatDb
import Derived.Test.YtomcmfbpmkklmaaGreatDd
import Derived.Test.YtomcmfbpmkklmaaGreatYc
namespace Go.Proofs.YtomcmfbpmkklmaaGreat
set_option maxHeartbeats 16000000
set_option linter.unusedSimpArgs false
set_option linter.unusedVariables false
open Go Go.Proofs Go.Vc
instance:DecidableEq Cf:=fun a b=>decidable_of_iff (a.pc=b.pc∧a.regs=b.regs∧a.mem=b.mem∧a.bufs=b.bufs) ⟨fun h=>by cases a;cases b;simp_all,fun h=>by subst h;simp⟩
def x'I (C:List Cf):List (List D):=C.map cfC
theorem Zaa (C:List Cf):(x'I C).flatten.length=C.length*4:=by
 induction C with
 |nil=>rfl
 |cons c C ih=>simp only[x'I,z'z,z'X,z'k,z'D,z'5]at ih⊢;omega
theorem ZeB (C:List Cf) (c:Cf):(x'I (C++[c])).flatten=(x'I C).flatten++cfC c:=by simp[x'I]
abbrev w'h (u:Un) (m r b:Int):Option (Spc Cf):=Zc1 (fun c=>y'6 u c m r) (fun c a=>actM u c m r a) b.toNat (y'E u)
abbrev spC (C:List Cf) (g:Cs) (P B:List Int):List D:=[.sl false 4 (x'I C),z'S g.st,z'S g.ag,z'S g.to,z'S P,z'S B]
def edS (S:Spc Cf):List Ed:=S.ed.map fun e=>((e.1:Int),e.2.1,(e.2.2:Int))
def v'z (S:Spc Cf):Cs:=x'M S.cf.length (edS S)
abbrev spA (S:Spc Cf):List D:=spC S.cf (v'z S) S.pa S.ag
instance:Inhabited Cf:=⟨⟨[],[],[],[]⟩⟩
theorem y'M (C:List Cf):(x'I C).length=C.length:=z'p ..
theorem Zfk (C:List Cf): ∀r,r∈x'I C→r.length=4:=by
 intro r hr
 obtain⟨x,_,rfl⟩:=z'y.1 hr
 rfl
def plI (x:Option Nat):Int:=match x with|some k=>k|none=> -1
theorem Zit {l:List Cf} {c:Cf} {k:Nat} (h:l[k]?=some c) (hs: ∀i,i<k→l[i]?≠some c):w'u l c=some k:=by
 unfold w'u
 rw[List.idxOf?,List.findIdx?_eq_some_iff_getElem]
 obtain⟨hk,he⟩:=z'c.1 h
 refine⟨hk,by simp[he],fun j hj=>?_⟩
 have:=hs j hj
 rw[z'b (by omega)]at this
 simpa using this
theorem Zlm {l:List Cf} {c:Cf} (hs: ∀i,i<l.length→l[i]?≠some c):w'u l c=none:=by
 cases h:w'u l c with
 |none=>rfl
 |some k=>
  have:=Zhm h
  exact absurd this (hs k (z'c.1 this).1)
theorem ZpM {u:Un} {c:Cf} {m r:Int} {A:List Ag} {k:Nat}: ∀a,a∈mvK u c m r A k→0≤a:=by
 intro a ha
 simp only[mvK,z'y]at ha
 obtain⟨i,_,rfl⟩:=ha
 omega
theorem Zmq {u:Un} {c:Cf} {m r:Int}: ∀a,a∈y'6 u c m r→0≤a:=ZpM
theorem Zcu {u:Un} {c:Cf} {m r:Int}:(y'6 u c m r).length≤28:=y'H ZgY (v'J u m)
theorem Zfd {u:Un} {m r b:Int} {S:Spc Cf} (h:w'h u m r b=some S) (hb:1≤b) (h0:Rt u (y'E u) m r): ∀c,c∈S.cf→Rt u c m r:=by
 obtain⟨I,_,_⟩:=v'O h (by omega)
 intro c hc
 obtain⟨j,hj⟩:=w'L.1 hc
 exact I.all (p:=fun c=>Rt u c m r) h0 (fun c a hc _=>hc.actM a) j c hj
theorem Zfe {u:Un} {m r b:Int} {S:Spc Cf} (h:w'h u m r b=some S) (hb:1≤b): ∀e,e∈edS S→0≤e.1∧e.1<S.cf.length∧0≤e.2.2∧e.2.2<S.cf.length∧0≤e.2.1:=by
 obtain⟨I,hE,hC⟩:=v'O h (by omega)
 intro e he
 obtain⟨x,hx,rfl⟩:=z'y.1 he
 rw[hE]at hx
 obtain⟨j,hj,hx⟩:=Zaj.1 hx
 cases hq:S.cf[j]? with
 |none=>rw[hq]at hx;cases hx
 |some c=>
  rw[hq]at hx
  obtain⟨a,ha,rfl⟩:=z'y.1 hx
  have h1:=(z'c.1 hq).1
  have h2:=List.idxOf_lt_length_of_mem (hC j c hq a ha)
  have h3:=Zmq a ha
  dsimp only
  omega
theorem v'M {e eb:Nat} {ea full:Bool} {ez:List Value} {l:List Cf} {k:IntKind} {n:Int} {K:D→Prop}:
  cIndexAddr (.slice e 4 eb ea ez) (.sl full 4 (x'I l)) (.is (.int k n)) K=((0≤n∧n<l.length)∧K (.pt (cfC (l.getD n.toNat default)))):=ZcZ cfC default
theorem Sp.hereS {b cap:Nat} {e:TypeId} {esz:Nat} {l:List D} {X:Heap}:Sp ((b,.cells e (cap*esz) l)::X) (some (b,cap)) e esz l (fun g' l'=>shp g' e esz l' X):=Sp.here (g:=some (b,cap))
theorem Zql {x1 x2 x3 x4:Nat×HC} {g g':Option (Nat×Nat)} {e e' esz esz':Nat} {l l':List D}:(x1::x2::x3::shp g e esz l (shp g' e' esz' l' [x4])).Perm (x1::x2::x3::x4::shp g' e' esz' l' (shp g e esz l [])):=
 y'e fun a=>by simp only[z'2,y'l,y'c];omega
theorem Zht {α:Type} [DecidableEq α] {ac:α→Int→α} {b i:Nat} {c:α} {a:Int} {l:List Int} {S:Spc α}:v'F ac b i c (a::l) S=(stepA ac b i c S a).bind (v'F ac b i c l):=by
 rw[v'F]
 cases stepA ac b i c S a<;>rfl
theorem Zij {α:Type} [DecidableEq α] {mv:α→List Int} {ac:α→Int→α} {b n i:Nat} {S:Spc α} {c:α} (h:S.cf[i]?=some c):w'g mv ac b (n+1) i S=(v'F ac b i c (mv c) S).bind (w'g mv ac b n (i+1)):=by
 rw[w'g,h]
 simp only
 generalize v'F ac b i c (mv c) S=x
 cases x<;>rfl
theorem Zhd {α:Type} [DecidableEq α] {mv:α→List Int} {ac:α→Int→α} {b n i:Nat} {S:Spc α} (h:S.cf.length≤i):w'g mv ac b n i S=some S:=by
 cases n with
 |zero=>rfl
 |succ n=>rw[w'g,z'x h]
theorem ZdN (S:Spc Cf) (C:List Cf) (P A:List Int) (i:Nat) (a:Int) (j:Nat):edS ⟨C,P,A,S.ed++[(i,a,j)]⟩=edS S++[((i:Int),a,(j:Int))]:=by simp[edS]
theorem Zby (S:Spc Cf):(edS S).length=S.ed.length:=by simp[edS]
set_option maxRecDepth 20000
attribute [local irreducible] y'0 VCg VCw VCx
theorem ZmQ (l:List Ed) (i:Nat):(l.countP fun e=>decide (0≤e.1)&&decide (e.1<(i:Int)))+(l.countP fun e=>e.1 == (i:Int))=l.countP fun e=>decide (0≤e.1)&&decide (e.1<((i+1:Nat):Int)):=by
 induction l with
 |nil=>rfl
 |cons x l ih=>
  rw[v'E,v'E,v'E, ←ih]
  have key:(if (decide (0≤x.1)&&decide (x.1<(i:Int)))=true then 1 else 0)+(if (x.1 == (i:Int))=true then 1 else 0)=(if (decide (0≤x.1)&&decide (x.1<((i+1:Nat):Int)))=true then 1 else 0):=by
   simp only[z'h,decide_eq_true_eq,beq_iff_eq]
   split<;>split<;>split<;>omega
  omega
theorem ZjG (l:List Ed): ∀i,(upE l i).length=l.countP fun e=>decide (0≤e.1)&&decide (e.1<(i:Int))
 |0=>by
  symm
  rw[ZiE,z'5,List.countP_eq_zero]
  intro e _
  simp only[z'h,decide_eq_true_eq];omega
 |i+1=>by rw[Zae,z'k,ZjG l i, ←ZmQ];unfold v'h;rw[w'q (p:=fun e:Ed=>e.1 == (i:Int))]
theorem Zik (l:List Ed) (i:Nat):(upE l i).length≤l.length:=by rw[ZjG];exact Zag
def upK (l:List Ed) (i k:Nat):List Ed:=upE l i++v'h (l.take k) i
theorem Znn (l:List Ed) (i:Nat):upK l i 0=upE l i:=by simp[upK,v'h]
theorem ZjE (l:List Ed) (i:Nat):upK l i l.length=upE l (i+1):=by rw[upK,z'Q,Zae]
theorem Zio {l:List Ed} {i k:Nat} (hk:k<l.length):upK l i (k+1)=upK l i k++(match (l.getD k (0,0,0)).1 == (i:Int)with|true=>[l.getD k (0,0,0)]|false=>[]):=by
 unfold upK v'h
 rw[y'b,ZaH (d:=(0,0,0)) hk,z'7]
 congr 1
 rw[w'l,y'r]
 have h0: ∀x:Ed,[x].filter (fun e=>e.1 == (i:Int))=match x.1 == (i:Int)with|true=>[x]|false=>[]:=fun x=>by
  rw[w'F,List.filter_nil]
  cases x.1 == (i:Int)<;>rfl
 rw[h0]
theorem ZpA (l:List Ed) (i k:Nat):(upK l i k).length≤l.length:=by
 have h1:=Zik l (i+1)
 have h2:(v'h (l.take k) i).length≤(v'h l i).length:=((List.take_sublist k l).filter _).length_le
 rw[Zae,z'k]at h1
 rw[upK,z'k];omega
def stK (l:List Ed) (i:Nat):List Int:=(List.range (i+1)).map fun j=>((upE l j).length:Int)
theorem Zmx (l:List Ed) (i:Nat):stK l (i+1)=stK l i++[((upE l (i+1)).length:Int)]:=by
 unfold stK;rw[y'p,z'F];rfl
theorem ZjN (l:List Ed) (i:Nat):(stK l i).length=i+1:=by simp[stK]
def Zdt (n:Int) (l:List Ed):Cs×Int:=match decide (0≤n)&&(decide (n≤100000)&&Zka n.toNat l)with|true=>(x'M n.toNat l,0)|false=>(⟨[],[],[]⟩,1)
theorem Zhl {n:Int} {l:List Ed} (h: ¬(0≤n∧n≤100000∧ ∀e,e∈l→0≤e.1∧e.1<n∧0≤e.2.2∧e.2.2<n∧0≤e.2.1)):Zdt n l=(⟨[],[],[]⟩,1):=by
 unfold Zdt
 split
 ·rename_i hd
  simp only[z'h,decide_eq_true_eq,Zka,z'B]at hd
  obtain⟨h1,h2,h3⟩:=hd
  exact absurd ⟨h1,h2,fun e he=>by have:=h3 e he;omega⟩ h
 ·rfl
theorem ZhC {n:Nat} {l:List Ed} (h2:n≤100000) (h: ∀e,e∈l→0≤e.1∧e.1<n∧0≤e.2.2∧e.2.2<n∧0≤e.2.1):Zdt n l=(x'M n l,0):=by
 unfold Zdt
 have:(decide ((0:Int)≤n)&&(decide ((n:Int)≤100000)&&Zka (n:Int).toNat l))=true:=by
  simp only[z'h,decide_eq_true_eq,Zka,z'B,z'o]
  exact⟨by omega,by omega,fun e he=>by have:=h e he;omega⟩
 rw[this]
 rfl
abbrev csD (ga gb gc:Option (Nat×Nat)) (a b c:Nat):List D:=[.gs ga a,.gs gb b,.gs gc c]
abbrev csW (ga gb gc:Option (Nat×Nat)) (S:List Int) (L:List Ed) (H:Heap):Heap:=shp ga 3 1 (S.map iD) (shp gb 3 1 ((L.map (·.2.1)).map iD) (shp gc 3 1 ((L.map (·.2.2)).map iD) H))
theorem ZlF {H:Heap} {a:D}:Fz H (.tup [.agg (csC ⟨[],[],[]⟩),a]) (.tup [.agg [.gs none 0,.gs none 0,.gs none 0],a]):=
 ⟨_,rfl,z'E ⟨_,rfl,z'E y'v (z'E y'v (z'E y'v w't))⟩ (FzL.refl _ _)⟩
theorem Zpm {ga gb gc:Option (Nat×Nat)} {S:List Int} {L:List Ed} {H:Heap} {a:D} {n:Nat} (hS:S.length=n) (h1:gOk ga n) (h2:gOk gb L.length) (h3:gOk gc L.length) (hm: ∀x,x∈csW ga gb gc S L []→x∈H):
  Fz H (.tup [.agg (csC ⟨S,L.map (·.2.1),L.map (·.2.2)⟩),a]) (.tup [.agg (csD ga gb gc n L.length L.length),a]):=by
 subst hS
 have z1:=x'4 (e:=3) (s:=S) (H:=H) h1 fun b c e=>hm _ (by subst e;exact x'k)
 have z2:=x'4 (e:=3) (s:=L.map (·.2.1)) (g:=gb) (H:=H) (by rw[z'p];exact h2) fun b c e=>hm _ (v'b (by subst e;exact x'k))
 have z3:=x'4 (e:=3) (s:=L.map (·.2.2)) (g:=gc) (H:=H) (by rw[z'p];exact h3) fun b c e=>hm _ (v'b (v'b (by subst e;exact x'k)))
 rw[z'p]at z2 z3
 exact⟨_,rfl,z'E ⟨_,rfl,z'E z1 (z'E z2 (z'E z3 w't))⟩ (FzL.refl _ _)⟩
theorem Zku (n:Int) (l:List Ed) (hl:l.length≤1000000):Pure Tryz.prog 60 [iD n,v'p l] (.tup [.agg (csC (Zdt n l).1),iD (Zdt n l).2]):=by
 refine Fun.fz ?_
 refine Fun.of T [.cell 4 32,.tmp 5] Tryz.func60 rfl Tryz.ntmps60 Tryz.results60 rfl (by kernel_rfl) ?_
 repeat' first|refine vs T rfl fun K hK=>?_;(try simp (disch:=omega) only[go_sem,Nat.reduceBEq,Nat.reduceAdd,Nat.reduceLeDiff]);(first|refine hK _ _ ?_;clear hK K|intro bq hbq;(try simp only[HB]at hbq);refine hK _ _ ?_;clear hK K)|refine st rfl ?_|refine sc rfl ?_|refine nl ?_|refine gs rfl rfl ?_|with_reducible refine z's (fun hc=>?_) (fun hc=>?_)<;>(try simp only[decide_eq_true_eq,decide_eq_false_iff_not,gt_iff_lt,z'u]at hc)
 any_goals(rw[Zhl fun h=>by omega];exact y'T T rfl (by(try simp (disch:=omega) only[hget_ne,hget_eq]);rfl) rfl rfl rfl (z'a _) ZlF)
 rename Nat=>b8
 refine VC.loop {k:Nat//k≤l.length∧ ∀i,i<k→0≤(l.getD i (0,0,0)).1∧(l.getD i (0,0,0)).1<n∧0≤(l.getD i (0,0,0)).2.2∧(l.getD i (0,0,0)).2.2<n∧0≤(l.getD i (0,0,0)).2.1}
  (fun p=>⟨z'M [(0,iD n),(1,v'p l),(4,.is (.pointer (some ⟨b8,0,none⟩))),(6,iD (p.1:Nat))],[(b8,.cells 32 3 [.gs none 0,.gs none 0,.gs none 0])]⟩) (fun p=>l.length-p.1) ⟨0,by omega,fun i hi=>by omega⟩ ?_ ?_
 ·refine Weak.sub ?_
  simp[sub,upd]
 rintro⟨k,hk,hs⟩
 dsimp only
 repeat' first|refine vs T rfl fun K hK=>?_;(try simp (disch:=omega) only[go_sem,Nat.reduceBEq,Nat.reduceAdd,Nat.reduceMul,Nat.reduceLeDiff,Zci,w'7,edR,w64,z'o]);(first|refine hK _ _ ?_;clear hK K|refine⟨_,_,_,_,(by repeat (first|apply Sp.cons|exact Sp.nil)),?_,(by exact⟨rfl,rfl⟩),⟨by decide,?_⟩,fun g' hg'=>hK _ _ ?_⟩<;>clear hK K|intro bq hbq;(try simp only[HB]at hbq);refine hK _ _ ?_;clear hK K|refine⟨?_,hK _ _ ?_⟩<;>clear hK K;focus(try omega))|refine st rfl ?_|refine sc rfl ?_|refine nl ?_|refine gs rfl rfl ?_|with_reducible refine z's (fun hc=>?_) (fun hc=>?_)<;>(try simp only[decide_eq_true_eq,decide_eq_false_iff_not,ge_iff_le,x'd,z'u]at hc)
 any_goals(rw[Zhl fun h=>by have:=h.2.2 _ (w'w (d:=(0,0,0)) (show k<l.length by omega));omega];exact y'T T rfl (by(try simp (disch:=omega) only[hget_ne,hget_eq]);rfl) rfl rfl rfl (z'a _) ZlF)
 ·refine⟨⟨k+1,by omega,fun i hi=>?_⟩,Weak.sub ?_,by simp only[];omega⟩
  ·rcases z'g i k with h|h
   ·exact hs i h
   ·obtain rfl:i=k:=by omega
    omega
  ·simp[sub,upd]
 ·rfl
 ·decide
 obtain rfl:k=l.length:=by omega
 obtain⟨n,rfl⟩: ∃m:Nat,n=(m:Int):=⟨n.toNat,by omega⟩
 have hE: ∀e,e∈l→0≤e.1∧e.1<n∧0≤e.2.2∧e.2.2<n∧0≤e.2.1:=fun e he=>by
  obtain⟨i,hi⟩:=w'L.1 he
  have:=hs i (z'c.1 hi).1
  rw[Znw hi]at this
  exact this
 have hn:n≤100000:=by omega
 rw[ZhC (by omega) hE]
 have hnb: ¬bq=b8:=hbq
 refine VC.loop {p:Nat×Option (Nat×Nat)×Option (Nat×Nat)×Option (Nat×Nat)//p.1≤n∧gOk p.2.1 (p.1+1)∧gOk p.2.2.1 (upE l p.1).length∧gOk p.2.2.2 (upE l p.1).length}
  (fun p=>⟨z'M [(0,iD n),(1,v'p l),(4,.is (.pointer (some ⟨b8,0,none⟩))),(7,.is (.pointer (some ⟨bq,0,none⟩))),(8,iD (p.1.1:Nat))],(bq,.cells 32 3 (csD p.1.2.1 p.1.2.2.1 p.1.2.2.2 (p.1.1+1) (upE l p.1.1).length (upE l p.1.1).length))::(b8,.cells 32 3 [.gs none 0,.gs none 0,.gs none 0])::csW p.1.2.1 p.1.2.2.1 p.1.2.2.2 (stK l p.1.1) (upE l p.1.1) []⟩)
  (fun p=>n-p.1.1) ⟨(0,g',none,none),by dsimp only;exact⟨z'6 _,hg',rfl,rfl⟩⟩ ?_ ?_
 ·refine z'G rfl ?_
  simp[sub,upd]
 rintro⟨⟨i,ga,gb,gc⟩,hi,h1,h2,h3⟩
 dsimp only at hi h1 h2 h3⊢
 repeat' first|refine vs T rfl fun K hK=>?_;(try simp (disch:=omega) only[go_sem,Nat.reduceBEq,Nat.reduceAdd,Nat.reduceLeDiff]);(refine hK _ _ ?_;clear hK K)|refine st rfl ?_|refine sc rfl ?_|refine nl ?_|with_reducible refine z's (fun hc=>?_) (fun hc=>?_)<;>(try simp only[decide_eq_true_eq,decide_eq_false_iff_not,z'u]at hc)
 ·refine VC.loop {p:Nat×Option (Nat×Nat)×Option (Nat×Nat)//p.1≤l.length∧gOk p.2.1 (upK l i p.1).length∧gOk p.2.2 (upK l i p.1).length}
   (fun p=>⟨z'M [(0,iD n),(1,v'p l),(4,.is (.pointer (some ⟨b8,0,none⟩))),(7,.is (.pointer (some ⟨bq,0,none⟩))),(8,iD (i:Nat)),(9,iD (p.1.1:Nat))],(bq,.cells 32 3 (csD ga p.1.2.1 p.1.2.2 (i+1) (upK l i p.1.1).length (upK l i p.1.1).length))::(b8,.cells 32 3 [.gs none 0,.gs none 0,.gs none 0])::csW ga p.1.2.1 p.1.2.2 (stK l i) (upK l i p.1.1) []⟩)
   (fun p=>l.length-p.1.1) ⟨(0,gb,gc),by dsimp only;rw[Znn];exact⟨z'6 _,h2,h3⟩⟩ ?_ ?_
  ·refine z'G (by dsimp only;rw[Znn]) ?_
   simp[sub,upd]
  rintro⟨⟨k,gb,gc⟩,hk,h2,h3⟩
  dsimp only at hk h2 h3⊢
  have hle:=ZpA l i k
  have hst:=ZjN l i
  repeat' first|refine dr (id:=17) T 8 (by kernel_rfl) ?_|refine dr (id:=18) T 8 (by kernel_rfl) ?_|refine gn ?_|(first|apply VCg.step T rfl rfl|apply exF);focus((try simp (disch:=omega) only[go_sem,Nat.reduceBEq,Nat.reduceMul,Nat.reduceLeDiff,Zci,edR,z'o]);(first|exact rfl|refine⟨?_,rfl⟩;try omega))|refine vs T rfl fun K hK=>?_;(try simp (disch:=omega) only[go_sem,Nat.reduceBEq,Nat.reduceAdd,Nat.reduceMul,Nat.reduceLeDiff,Zci,edR,w'7,w64,z'o]);(first|refine hK _ _ ?_;clear hK K|refine⟨_,_,_,_,(by repeat (first|exact Sp.here|apply Sp.cons|apply Sp.over)),?_,(by exact⟨rfl,rfl⟩),⟨by decide,?_⟩,fun g' hg'=>hK _ _ ?_⟩<;>clear hK K|refine⟨?_,hK _ _ ?_⟩<;>clear hK K;focus(try omega))|refine st rfl ?_|refine sc rfl ?_|refine nl ?_|with_reducible refine z's (fun hc=>?_) (fun hc=>?_)<;>(try simp only[decide_eq_true_eq,decide_eq_false_iff_not,beq_iff_eq,beq_eq_false_iff_ne,ne_eq,z'u]at hc)
  ·simp
  ·omega
  ·simp
  ·omega
  ·rename_i ga' hga'
   have hb:((l.getD k (0,0,0)).1 == (i:Int))=true:=beq_iff_eq.2 hc
   have hK:upK l i (k+1)=upK l i k++[l.getD k (0,0,0)]:=by rw[Zio (by omega),hb]
   refine⟨⟨(k+1,_,_),by dsimp only;rw[hK,z'k];exact⟨by omega,hga',hg'⟩⟩,z'G ?_ ?_,by dsimp only;omega⟩
   ·dsimp only
    rw[hK,z'k]
    simp only[csW,z'F,z'z,y't]
    rfl
   ·simp[sub,upd]
  ·have hb:((l.getD k (0,0,0)).1 == (i:Int))=false:=by simpa using hc
   have hK:upK l i (k+1)=upK l i k:=by rw[Zio (by omega),hb,z'r]
   refine⟨⟨(k+1,gb,gc),by dsimp only;rw[hK];exact⟨by omega,h2,h3⟩⟩,z'G ?_ ?_,by dsimp only;omega⟩
   ·dsimp only
    rw[hK]
   ·simp[sub,upd]
  ·simp[hst]
  ·omega
  ·obtain rfl:k=l.length:=by omega
   refine⟨⟨(i+1,_,gb,gc),by dsimp only;rw[←ZjE];exact⟨by omega,hg',h2,h3⟩⟩,z'G ?_ ?_,by dsimp only;omega⟩
   ·dsimp only
    rw[Zmx, ←ZjE]
    simp only[csW,z'F,z'z,y't]
   ·simp[sub,upd]
 obtain rfl:i=n:=by omega
 refine y'T T rfl (by(try simp (disch:=omega) only[hget_ne,hget_eq]);rfl) rfl rfl rfl (z'm _) ?_
 exact Zpm (ZjN l i) h1 h2 h3 fun x hx=>z'e _ (z'e _ hx)
structure Zqv (n:Nat) (P B:List Int):Prop where
 len:n≤1000000
 pl:P.length=n
 bl:B.length=n
 par: ∀j,0<j→j<n→0≤P.getD j 0∧P.getD j 0<j
theorem VCx.step {P:Program} (T:Tab P) {W:Nat→Bool} {st:Nat} {H H1:Heap} {K:(Nat→D)→Prop} {m i:Nat} {E:Nat→D} {o:Oper} {l:List Oper} {d:D} {t:Tmp} (hg:o.guard=none) (ht:o.dst=some t) (hi:Nat.beq i st=false)
  (h1:opC T o (evD E) H (fun d' H'=>d'=d∧H'=H)) (h1':opC T o (evD E) H1 (fun d' H'=>d'=d∧H'=H1)) (h2:VCx T W st H H1 K m (i+1) l (upd E t d)):VCx T W st H H1 K (m+1) i (o::l) E:=by
 unfold VCx
 exact⟨d,⟨hg,fun _=>⟨ZaZ T h1,.inr (ZaZ T h1')⟩,fun e=>by subst e;rw[ZaD]at hi;cases hi⟩,by rw[ht];exact h2⟩
theorem VCx.nil {P:Program} (T:Tab P) {W:Nat→Bool} {st:Nat} {H H1:Heap} {K:(Nat→D)→Prop} {i:Nat} {E:Nat→D} {l:List Oper} (h:K E):VCx T W st H H1 K 0 i l E:=by unfold VCx;exact h
theorem Zmp {ops:Array Oper} {st:Nat} {l:List Nat} (h:l.all (y'9 ops st)=true): ∀i,l.contains i=true→y'9 ops st i=true:=fun i hi=>z'B.1 h i (by simpa using hi)
abbrev OwnI (L:List Int):D→Heap→Prop:=fun d H'=> ∃x:Option (Nat×Nat),gOk x L.length∧d= .gs x L.length∧H'=shp x 3 1 (L.map iD) []
theorem OwnI.freeze {f:Nat} {args:List D} {L:List Int} (h:Fun Tryz.prog f args [] false (OwnI L)):Pure Tryz.prog f args (z'S L):=
 Fun.freeze (ZdH _) (h.mono fun d H' ⟨x,hx,h1,h2⟩=>⟨x,3,by rw[h1,z'l],by rw[h2,Zf3]⟩)
end Go.Proofs.YtomcmfbpmkklmaaGreat
