/- Contracts: the program's graph of sorted edges. No condition. -/
import Derived.Test.YtjlnkedmbfdofaaGreatDd
import Derived.Test.YtjlnkedmbfdofaaGreatTa
import Derived.Test.YtjlnkedmbfdofaaGreatCp
import Derived.Test.YtjlnkedmbfdofaaGreatFs
namespace Go.Proofs.YtjlnkedmbfdofaaGreat
set_option maxHeartbeats 16000000
set_option linter.unusedSimpArgs false
set_option linter.unusedVariables false
set_option maxRecDepth 20000
open Go Go.Proofs Go.Vc
attribute [local irreducible] z'Z VCg VCw VCx
abbrev zC (l:Nat):HC:= .cells 3 (l*1) ((List.replicate l (0:Int)).map iD)
def oB (l:Nat):Option Nat→Heap
 |none=>[]
 |some b=>[(b,zC l)]
def oG:Option Nat→Heap
 |none=>[]
 |some b=>[(b,.cells 122 3 [.gs none 0,.gs none 0,.gs none 0])]
abbrev gsZ (b l:Nat):D:= .gs (some (b,l)) l
structure J16 (E0:Nat→D) (l:Nat) (S M:D) (H0:Heap) (L:Nat→Prop) (E:Nat→D) (H:Heap) (xa xt xg:Option Nat):Prop where
 old: ∀t,t<82→t≠10→E t=E0 t
 s0:L 0→E 82=S
 s1:L 1→E 83=M
 s2:L 2→E 84=iD (l:Nat)
 s4:L 4→E 86=M
 s5:L 5→E 87=iD (l:Nat)
 a:L 3→ ∃b,xa=some b∧E 85=gsZ b l
 a': ¬L 3→xa=none
 t:L 6→ ∃b,xt=some b∧E 88=gsZ b l
 t': ¬L 6→xt=none
 g:L 8→ ∃b,xg=some b∧E 10=pD b
 g': ¬L 8→xg=none
 v:L 7→ ∃b c,xa=some b∧xt=some c∧E 89= .agg [S,gsZ b l,gsZ c l]
 hp:H.Perm (oB l xa++(oB l xt++(oG xg++H0)))
theorem Zh2: ∀(X Y:List D) (o:Nat),o+X.length=Y.length→setL Y o X=Y.take o++X
 |[],Y,o,h=>by
  simp only[x'c]at h
  rw[setL,z'x,z'O (by omega)]
 |c::X,Y,o,h=>by
  simp only[z'A]at h
  rw[setL,Zh2 X (Y.set o c) (o+1) (by rw[y'V];omega),List.take_add_one,List.getElem?_set_self (by omega),List.take_set_of_le (z'c _)]
  simp
theorem Zk3 (X Y:List D) (h:X.length=Y.length):setL Y 0 X=X:=by rw[Zh2 X Y 0 (by omega)];rfl
theorem v't {E:Nat→D} {s:Nat} {d:D}:upd E s d s=d:=by simp[upd]
theorem z'0 {E:Nat→D} {s t:Nat} {d:D} (h:s≠t):upd E s d t=E t:=by
 have:(s == t)=false:=by rw[beq_eq_false_iff_ne];exact h
 simp[upd,this]
theorem ZnZ {P:Program} (T:Tab P) {o:Oper} {E:Nat→D} {H:Heap} {Φ:D→Heap→Prop} (h: ∀K:D→Heap→Prop,(∀d H',Φ d H'→K d H')→opC T o (evD E) H K):OpS P o (evD E) H Φ:=Zme T (h Φ fun _ _ q=>q)
section
variable {E0 E : Nat → D} {l : Nat} {S M : D} {H0 H : Heap} {L : Nat → Prop} {xa xt xg : Option Nat}
theorem J16.mv {k s:Nat} {d:D} (j:J16 E0 l S M H0 L E H xa xt xg) (hs:(k=0∧s=82∧d=S)∨(k=1∧s=83∧d=M)∨(k=2∧s=84∧d=iD (l:Nat))∨(k=4∧s=86∧d=M)∨(k=5∧s=87∧d=iD (l:Nat))):
  J16 E0 l S M H0 (fun i=>i=k∨L i) (upd E s d) H xa xt xg:=by
 rcases hs with⟨rfl,rfl,rfl⟩|⟨rfl,rfl,rfl⟩|⟨rfl,rfl,rfl⟩|⟨rfl,rfl,rfl⟩|⟨rfl,rfl,rfl⟩
 all_goals exact
  {old:=fun t h1 h2=>(z'0 (by omega)).trans (j.old t h1 h2)
   s0:=fun h=>by first|exact v't|exact(z'0 (by decide)).trans (j.s0 (h.resolve_left (by decide)))
   s1:=fun h=>by first|exact v't|exact(z'0 (by decide)).trans (j.s1 (h.resolve_left (by decide)))
   s2:=fun h=>by first|exact v't|exact(z'0 (by decide)).trans (j.s2 (h.resolve_left (by decide)))
   s4:=fun h=>by first|exact v't|exact(z'0 (by decide)).trans (j.s4 (h.resolve_left (by decide)))
   s5:=fun h=>by first|exact v't|exact(z'0 (by decide)).trans (j.s5 (h.resolve_left (by decide)))
   a:=fun h=>let ⟨b,h1,h2⟩:=j.a (h.resolve_left (by decide));⟨b,h1,(z'0 (by decide)).trans h2⟩
   a':=fun h=>j.a' fun q=>h (.inr q)
   t:=fun h=>let ⟨b,h1,h2⟩:=j.t (h.resolve_left (by decide));⟨b,h1,(z'0 (by decide)).trans h2⟩
   t':=fun h=>j.t' fun q=>h (.inr q)
   g:=fun h=>let ⟨b,h1,h2⟩:=j.g (h.resolve_left (by decide));⟨b,h1,(z'0 (by decide)).trans h2⟩
   g':=fun h=>j.g' fun q=>h (.inr q)
   v:=fun h=>let ⟨b,c,h1,h2,h3⟩:=j.v (h.resolve_left (by decide));⟨b,c,h1,h2,(z'0 (by decide)).trans h3⟩
   hp:=j.hp}
theorem J16.mkA {b:Nat} (j:J16 E0 l S M H0 L E H xa xt xg) (h3: ¬L 3):J16 E0 l S M H0 (fun i=>i=3∨L i) (upd E 85 (gsZ b l)) ((b,zC l)::H) (some b) xt xg where
 old t h1 h2:=(z'0 (by omega)).trans (j.old t h1 h2)
 s0 h:=(z'0 (by decide)).trans (j.s0 (h.resolve_left (by decide)))
 s1 h:=(z'0 (by decide)).trans (j.s1 (h.resolve_left (by decide)))
 s2 h:=(z'0 (by decide)).trans (j.s2 (h.resolve_left (by decide)))
 s4 h:=(z'0 (by decide)).trans (j.s4 (h.resolve_left (by decide)))
 s5 h:=(z'0 (by decide)).trans (j.s5 (h.resolve_left (by decide)))
 a _:=⟨b,rfl,v't⟩
 a' h:=absurd (.inl rfl) h
 t h:=let ⟨b,h1,h2⟩:=j.t (h.resolve_left (by decide));⟨b,h1,(z'0 (by decide)).trans h2⟩
 t' h:=j.t' fun q=>h (.inr q)
 g h:=let ⟨b,h1,h2⟩:=j.g (h.resolve_left (by decide));⟨b,h1,(z'0 (by decide)).trans h2⟩
 g' h:=j.g' fun q=>h (.inr q)
 v h:=by
  obtain⟨b,c,q,_⟩:=j.v (h.resolve_left (by decide))
  rw[j.a' h3]at q;cases q
 hp:=by
  have:=j.hp
  rw[j.a' h3]at this
  exact this.cons _
theorem J16.mkT {b:Nat} (j:J16 E0 l S M H0 L E H xa xt xg) (h6: ¬L 6):J16 E0 l S M H0 (fun i=>i=6∨L i) (upd E 88 (gsZ b l)) ((b,zC l)::H) xa (some b) xg where
 old t h1 h2:=(z'0 (by omega)).trans (j.old t h1 h2)
 s0 h:=(z'0 (by decide)).trans (j.s0 (h.resolve_left (by decide)))
 s1 h:=(z'0 (by decide)).trans (j.s1 (h.resolve_left (by decide)))
 s2 h:=(z'0 (by decide)).trans (j.s2 (h.resolve_left (by decide)))
 s4 h:=(z'0 (by decide)).trans (j.s4 (h.resolve_left (by decide)))
 s5 h:=(z'0 (by decide)).trans (j.s5 (h.resolve_left (by decide)))
 a h:=let ⟨b,h1,h2⟩:=j.a (h.resolve_left (by decide));⟨b,h1,(z'0 (by decide)).trans h2⟩
 a' h:=j.a' fun q=>h (.inr q)
 t _:=⟨b,rfl,v't⟩
 t' h:=absurd (.inl rfl) h
 g h:=let ⟨b,h1,h2⟩:=j.g (h.resolve_left (by decide));⟨b,h1,(z'0 (by decide)).trans h2⟩
 g' h:=j.g' fun q=>h (.inr q)
 v h:=by
  obtain⟨b,c,_,q,_⟩:=j.v (h.resolve_left (by decide))
  rw[j.t' h6]at q;cases q
 hp:=by
  have:=j.hp
  rw[j.t' h6]at this
  exact(this.cons _).trans List.perm_middle.symm
theorem J16.mkG {b:Nat} (j:J16 E0 l S M H0 L E H xa xt xg) (h8: ¬L 8):J16 E0 l S M H0 (fun i=>i=8∨L i) (upd E 10 (pD b)) ((b,.cells 122 3 [.gs none 0,.gs none 0,.gs none 0])::H) xa xt (some b) where
 old t h1 h2:=(z'0 (fun e=>h2 e.symm)).trans (j.old t h1 h2)
 s0 h:=(z'0 (by decide)).trans (j.s0 (h.resolve_left (by decide)))
 s1 h:=(z'0 (by decide)).trans (j.s1 (h.resolve_left (by decide)))
 s2 h:=(z'0 (by decide)).trans (j.s2 (h.resolve_left (by decide)))
 s4 h:=(z'0 (by decide)).trans (j.s4 (h.resolve_left (by decide)))
 s5 h:=(z'0 (by decide)).trans (j.s5 (h.resolve_left (by decide)))
 a h:=let ⟨b,h1,h2⟩:=j.a (h.resolve_left (by decide));⟨b,h1,(z'0 (by decide)).trans h2⟩
 a' h:=j.a' fun q=>h (.inr q)
 t h:=let ⟨b,h1,h2⟩:=j.t (h.resolve_left (by decide));⟨b,h1,(z'0 (by decide)).trans h2⟩
 t' h:=j.t' fun q=>h (.inr q)
 g _:=⟨b,rfl,v't⟩
 g' h:=absurd (.inl rfl) h
 v h:=let ⟨b,c,h1,h2,h3⟩:=j.v (h.resolve_left (by decide));⟨b,c,h1,h2,(z'0 (by decide)).trans h3⟩
 hp:=by
  have:=j.hp
  rw[j.g' h8]at this
  exact(this.cons _).trans (List.perm_middle.symm.trans (List.Perm.append_left _ List.perm_middle.symm))
theorem J16.agg {a b:Nat} (j:J16 E0 l S M H0 L E H xa xt xg) (ha:xa=some a) (hb:xt=some b):J16 E0 l S M H0 (fun i=>i=7∨L i) (upd E 89 (.agg [S,gsZ a l,gsZ b l])) H xa xt xg where
 old t h1 h2:=(z'0 (by omega)).trans (j.old t h1 h2)
 s0 h:=(z'0 (by decide)).trans (j.s0 (h.resolve_left (by decide)))
 s1 h:=(z'0 (by decide)).trans (j.s1 (h.resolve_left (by decide)))
 s2 h:=(z'0 (by decide)).trans (j.s2 (h.resolve_left (by decide)))
 s4 h:=(z'0 (by decide)).trans (j.s4 (h.resolve_left (by decide)))
 s5 h:=(z'0 (by decide)).trans (j.s5 (h.resolve_left (by decide)))
 a h:=let ⟨b,h1,h2⟩:=j.a (h.resolve_left (by decide));⟨b,h1,(z'0 (by decide)).trans h2⟩
 a' h:=j.a' fun q=>h (.inr q)
 t h:=let ⟨b,h1,h2⟩:=j.t (h.resolve_left (by decide));⟨b,h1,(z'0 (by decide)).trans h2⟩
 t' h:=j.t' fun q=>h (.inr q)
 g h:=let ⟨b,h1,h2⟩:=j.g (h.resolve_left (by decide));⟨b,h1,(z'0 (by decide)).trans h2⟩
 g' h:=j.g' fun q=>h (.inr q)
 v _:=⟨a,b,ha,hb,v't⟩
 hp:=j.hp
end
theorem Ze2 (n:Nat) (l:List Ed) (hl:l.length≤1000000) (hn:n≤100000) (hs:w'O l) (hE: ∀e,e∈l→0≤e.1∧e.1<n∧0≤e.2.2∧e.2.2<n∧0≤e.2.1):Pure Tryz.prog 88 [iD (n:Nat),Zas l] (.tup [.agg (csC (w'q n l)),iD 0]):=by
 have h0: ∀e,e∈l→0≤e.1:=fun e he=>(hE e he).1
 have w0:IntKind.i64.wrap ((n:Int)+1)=((n+1:Nat):Int):=by rw[w64 (by omega)];omega
 refine Fun.fz ?_
 refine Fun.of T [.cell 4 122,.tmp 5] Tryz.func88 rfl Tryz.ntmps88 Tryz.results88 rfl (by kernel_rfl) ?_
 repeat' first|refine vs T rfl fun K hK=>?_;(try simp (disch:=omega) only[go_sem,Nat.reduceBEq,Nat.reduceAdd,ZbA,w0,z'D]);(first|refine hK _ _ ?_;clear hK K|intro bq hbq;(try simp only[HB]at hbq);refine hK _ _ ?_;clear hK K|refine⟨?_,fun bq hbq=>?_⟩;rotate_left;(try simp only[HB]at hbq);refine hK _ _ ?_;all_goals clear hK K)|refine st rfl ?_|refine sc rfl ?_|refine nl ?_|refine gs rfl rfl ?_|with_reducible refine y'E (fun hc=>?_) (fun hc=>?_)<;>(try simp only[decide_eq_true_eq,decide_eq_false_iff_not,gt_iff_lt,x'v]at hc)<;>(try(exfalso;omega))
 case refine_1=>exact⟨by omega,by omega,by omega⟩
 rename_i b4 _
 revert bq
 intro bs hbs
 refine VC.loop {k:Nat//k≤l.length} (fun p=>⟨x'K [(0,iD (n:Nat)),(1,Zas l),(4,pD b4),(6,.gs (some (bs,n+1)) (n+1)),(25,Zas l),(26,iD (l.length:Nat)),(27,iD (p.1:Nat))],[(bs,.cells 3 ((n+1)*1) ((fnL (n+1) (st1 l p.1)).map iD)),(b4,.cells 122 3 [.gs none 0,.gs none 0,.gs none 0])]⟩) (fun p=>l.length-p.1) ⟨0,z'Q _⟩ ?_ ?_
 ·refine x'4 (by rw[Zeo,Zoa]) ?_
  simp[sub,upd]
 rintro⟨k,hk⟩
 dsimp only at hk⊢
 rcases z't k l.length with hlt|hge
 ·have he:=hE _ (Zgu (d:=(0,0,0)) hlt)
  obtain⟨i,hi⟩: ∃i:Nat,(l.getD k (0,0,0)).1=(i:Int):=⟨(l.getD k (0,0,0)).1.toNat,by omega⟩
  have w1:IntKind.i64.wrap ((i:Int)+1)=((i+1:Nat):Int):=by rw[w64 (by omega)];omega
  have r1:((fnL (n+1) (st1 l k)).map iD)[i+1]?=some (iD (st1 l k (i+1))):=ZfB (by omega)
  have q1:0≤st1 l k (i+1)∧st1 l k (i+1)≤1000000:=by unfold st1;rw[if_neg (by omega)];have:=Zhp l k (i+1-1);omega
  have w2:IntKind.i64.wrap (st1 l k (i+1)+1)=st1 l k (i+1)+1:=w64 (by omega)
  have hset:=Zmm hlt hi (n:=n) (by omega)
  repeat' first|refine vs T rfl fun K hK=>?_;(try simp (disch:=omega) only[go_sem,Nat.reduceBEq,Nat.reduceAdd,Nat.reduceLeDiff,ZjH,edR,hi,w1,w2,r1,w64,z'D,z'f,x'H,y'l]);(first|refine hK _ _ ?_;clear hK K|intro bq hbq;(try simp only[HB]at hbq);refine hK _ _ ?_;clear hK K|refine⟨?_,hK _ _ ?_⟩<;>clear hK K;focus(try omega))|refine st rfl ?_|refine sc rfl ?_|refine nl ?_|refine gs rfl rfl ?_|with_reducible refine y'E (fun hc=>?_) (fun hc=>?_)<;>(try simp only[decide_eq_true_eq,decide_eq_false_iff_not,ge_iff_le,Int.not_le,x'v]at hc)<;>(try(exfalso;omega))
  refine⟨⟨k+1,hlt⟩,Ze1 ?_ ?_,by dsimp only;omega⟩
  ·dsimp only
   rw[←hset,w'h,y'l]
  ·simp[sub,upd]
 obtain rfl:k=l.length:=by omega
 repeat' first|refine vs T rfl fun K hK=>?_;(try simp (disch:=omega) only[go_sem,Nat.reduceBEq]);(refine hK _ _ ?_;clear hK K)|refine st rfl ?_|refine sc rfl ?_|refine nl ?_|with_reducible refine y'E (fun hc=>?_) (fun hc=>?_)<;>(try simp only[decide_eq_true_eq,decide_eq_false_iff_not,x'v]at hc)<;>(try(exfalso;omega))
 refine VC.loop {i:Nat//i≤n} (fun p=>⟨x'K [(0,iD (n:Nat)),(1,Zas l),(4,pD b4),(6,.gs (some (bs,n+1)) (n+1)),(66,iD (n:Nat)),(67,iD (p.1:Nat))],[(bs,.cells 3 ((n+1)*1) ((fnL (n+1) (st2 l p.1)).map iD)),(b4,.cells 122 3 [.gs none 0,.gs none 0,.gs none 0])]⟩) (fun p=>n-p.1) ⟨0,z'Q _⟩ ?_ ?_
 ·refine x'4 (by rw[Zob]) ?_
  simp[sub,upd]
 rintro⟨i,hi⟩
 dsimp only at hi⊢
 rcases z't i n with hlt|hge
 ·have w1:IntKind.i64.wrap ((i:Int)+1)=((i+1:Nat):Int):=by rw[w64 (by omega)];omega
  have r1:((fnL (n+1) (st2 l i)).map iD)[i+1]?=some (iD (st2 l i (i+1))):=ZfB (by omega)
  have r2:((fnL (n+1) (st2 l i)).map iD)[i]?=some (iD (st2 l i i)):=ZfB (by omega)
  have q1: ∀j,0≤st2 l i j∧st2 l i j≤1000000:=fun j=>by
   unfold st2
   have h1:=Znv l j
   have h2:=Zhp l l.length (j-1)
   split<;>omega
  have q2:=q1 (i+1)
  have q3:=q1 i
  have w2:IntKind.i64.wrap (st2 l i (i+1)+st2 l i i)=st2 l i (i+1)+st2 l i i:=w64 (by omega)
  have hset:=Zmn hlt (l:=l)
  repeat' first|refine dr (id:=14) T 9 (by kernel_rfl) ?_|refine gn ?_|(first|apply VCg.step T rfl rfl|apply exF);focus((try simp (disch:=omega) only[go_sem,Nat.reduceBEq,w1,r1,r2,z'D,y'l]);(first|exact rfl|refine⟨?_,rfl⟩;try omega))|refine vs T rfl fun K hK=>?_;(try simp (disch:=omega) only[go_sem,Nat.reduceBEq,Nat.reduceLeDiff,w1,w2,z'D,z'f,x'H,y'l]);(first|refine hK _ _ ?_;clear hK K|refine⟨?_,hK _ _ ?_⟩<;>clear hK K;focus(try omega))|refine st rfl ?_|refine sc rfl ?_|refine nl ?_|with_reducible refine y'E (fun hc=>?_) (fun hc=>?_)<;>(try simp only[decide_eq_true_eq,decide_eq_false_iff_not,x'v]at hc)<;>(try(exfalso;omega))
  refine⟨⟨i+1,hlt⟩,x'4 ?_ ?_,by dsimp only;omega⟩
  ·dsimp only
   rw[←hset,w'h,y'l]
  ·simp[sub,upd]
 obtain rfl:i=n:=by omega
 repeat' first|refine VC.drawS (id:=16) (by kernel_rfl) ?_|refine vs T rfl fun K hK=>?_;(try simp (disch:=omega) only[go_sem,Nat.reduceBEq]);(refine hK _ _ ?_;clear hK K)|refine st rfl ?_|refine sc rfl ?_|refine nl ?_|with_reducible refine y'E (fun hc=>?_) (fun hc=>?_)<;>(try simp only[decide_eq_true_eq,decide_eq_false_iff_not,x'v]at hc)<;>(try(exfalso;omega))
 generalize hE0:(upd _ _ _:Nat→D)=E0
 refine VCd.sim (fun L E H=> ∃xa xt xg,J16 E0 l.length (gsZ bs (i+1)) (Zas l) [(bs,.cells 3 ((i+1)*1) ((fnL (i+1) (st2 l i)).map iD)),(b4,.cells 122 3 [.gs none 0,.gs none 0,.gs none 0])] L E H xa xt xg) 0 9 9 (by kernel_rfl) (by kernel_rfl) (by kernel_rfl) (by kernel_rfl) (by kernel_rfl) ?_ ?_ ?_
 ·refine⟨none,none,none,⟨fun t _ _=>rfl,fun h=>absurd h (y'P _),fun h=>absurd h (y'P _),fun h=>absurd h (y'P _),fun h=>absurd h (y'P _),fun h=>absurd h (y'P _),fun h=>absurd h (y'P _),fun _=>rfl,fun h=>absurd h (y'P _),fun _=>rfl,fun h=>absurd h (y'P _),fun _=>rfl,fun h=>absurd h (y'P _),y'f _⟩⟩
 ·rintro L E' H' k o ⟨xa,xt,xg,j⟩ ho _ hk hL hdep
  have o6:E' 6=gsZ bs (i+1):=(j.old 6 (by decide) (by decide)).trans (by rw[←hE0];rfl)
  have o1:E' 1=Zas l:=(j.old 1 (by decide) (by decide)).trans (by rw[←hE0];rfl)
  have hk9:k=0∨k=1∨k=2∨k=3∨k=4∨k=5∨k=6∨k=7∨k=8:=by omega
  rcases hk9 with rfl|rfl|rfl|rfl|rfl|rfl|rfl|rfl|rfl
  all_goals
   simp only[y'U,y'Q,y'6,z'q]at ho
   subst ho
   refine⟨rfl,ZnZ T fun K hK=>?_⟩
  ·simp (disch:=omega) only[go_sem,Nat.reduceBEq,Nat.reduceAdd,Nat.reduceMul,Nat.reduceSub,Nat.reduceLeDiff,Int.reduceToNat,o6,o1]
   exact hK _ _ ⟨xa,xt,xg,j.mv (by simp)⟩
  ·simp (disch:=omega) only[go_sem,Nat.reduceBEq,Nat.reduceAdd,Nat.reduceMul,Nat.reduceSub,Nat.reduceLeDiff,Int.reduceToNat,o6,o1]
   exact hK _ _ ⟨xa,xt,xg,j.mv (by simp)⟩
  ·have q:=j.s1 (hdep ⟨1,.data⟩ (by simp) (by decide))
   simp (disch:=omega) only[go_sem,Nat.reduceBEq,Nat.reduceAdd,Nat.reduceMul,Nat.reduceSub,Nat.reduceLeDiff,Int.reduceToNat,o6,o1,q,ZbA]
   exact hK _ _ ⟨xa,xt,xg,j.mv (by simp)⟩
  ·have q:=j.s2 (hdep ⟨2,.data⟩ (by simp) (by decide))
   simp (disch:=omega) only[go_sem,Nat.reduceBEq,Nat.reduceAdd,Nat.reduceMul,Nat.reduceSub,Nat.reduceLeDiff,Int.reduceToNat,o6,o1,q,Zeo,z'D]
   exact⟨⟨by omega,by omega,by omega⟩,fun b _=>hK _ _ ⟨_,_,_,j.mkA hL⟩⟩
  ·simp (disch:=omega) only[go_sem,Nat.reduceBEq,Nat.reduceAdd,Nat.reduceMul,Nat.reduceSub,Nat.reduceLeDiff,Int.reduceToNat,o6,o1]
   exact hK _ _ ⟨xa,xt,xg,j.mv (by simp)⟩
  ·have q:=j.s4 (hdep ⟨4,.data⟩ (by simp) (by decide))
   simp (disch:=omega) only[go_sem,Nat.reduceBEq,Nat.reduceAdd,Nat.reduceMul,Nat.reduceSub,Nat.reduceLeDiff,Int.reduceToNat,o6,o1,q,ZbA]
   exact hK _ _ ⟨xa,xt,xg,j.mv (by simp)⟩
  ·have q:=j.s5 (hdep ⟨5,.data⟩ (by simp) (by decide))
   simp (disch:=omega) only[go_sem,Nat.reduceBEq,Nat.reduceAdd,Nat.reduceMul,Nat.reduceSub,Nat.reduceLeDiff,Int.reduceToNat,o6,o1,q,Zeo,z'D]
   exact⟨⟨by omega,by omega,by omega⟩,fun b _=>hK _ _ ⟨_,_,_,j.mkT hL⟩⟩
  ·obtain⟨a,ha,qa⟩:=j.a (hdep ⟨3,.data⟩ (by simp) (by decide))
   obtain⟨c,hc,qc⟩:=j.t (hdep ⟨6,.data⟩ (by simp) (by decide))
   have q:=j.s0 (hdep ⟨0,.data⟩ (by simp) (by decide))
   simp (disch:=omega) only[go_sem,Nat.reduceBEq,Nat.reduceAdd,Nat.reduceMul,Nat.reduceSub,Nat.reduceLeDiff,Int.reduceToNat,o6,o1,q,qa,qc]
   exact hK _ _ ⟨_,_,_,j.agg ha hc⟩
  ·simp (disch:=omega) only[go_sem,Nat.reduceBEq,Nat.reduceAdd,Nat.reduceMul,Nat.reduceSub,Nat.reduceLeDiff,Int.reduceToNat,o6,o1]
   exact fun b _=>hK _ _ ⟨_,_,_,j.mkG hL⟩
 rintro E' H' ⟨xa,xt,xg,j⟩
 obtain⟨ba,rfl,q85⟩:=j.a (by decide)
 obtain⟨bt,rfl,q88⟩:=j.t (by decide)
 obtain⟨bg,rfl,q10⟩:=j.g (by decide)
 obtain⟨_,_,r1,r2,q89⟩:=j.v (by decide)
 cases r1
 cases r2
 have hp:=j.hp
 have old: ∀t,t<82→t≠10→E' t=E0 t:=j.old
 clear j
 refine VCd.weak (Weak.perm hp) ?_
 simp only[oB,oG,y'w,z'L]
 refine VCd.tail (f:=9) (by kernel_rfl) ?_
 simp only[List.drop_succ_cons,y'T,List.drop_nil]
 have o0:E' 0=iD (i:Nat):=(old 0 (by decide) (by decide)).trans (by rw[←hE0];rfl)
 have o1:E' 1=Zas l:=(old 1 (by decide) (by decide)).trans (by rw[←hE0];rfl)
 have o4:E' 4=pD b4:=(old 4 (by decide) (by decide)).trans (by rw[←hE0];rfl)
 have o6:E' 6=gsZ bs (i+1):=(old 6 (by decide) (by decide)).trans (by rw[←hE0];rfl)
 refine VCo.weak (x'4 (env':=[(0,iD (i:Nat)),(1,Zas l),(4,pD b4),(6,gsZ bs (i+1)),(10,pD bg),(89,.agg [gsZ bs (i+1),gsZ ba l.length,gsZ bt l.length])]) rfl (by simp[sub,o0,o1,o4,o6,q10,q89])) ?_
 clear o0 o1 o4 o6 old hp q10 q89 q85 q88 hE0 E0 E'
 refine VCo.nodup fun hn=>?_
 simp only[Heap.blocks,z'g,y'o,y'm,z'p,not_or,z'I,not_false_eq_true,and_true]at hn
 obtain⟨⟨n1,n2,n3,n4⟩,⟨n5,n6,n7⟩,⟨n8,n9⟩,n10,_⟩:=hn
 refine ov ?_
 repeat' first|refine vs T rfl fun K hK=>?_;(try simp (disch:=omega) only[go_sem,Nat.reduceBEq,Nat.reduceAdd,Nat.reduceLeDiff,ZbA,w0,z'D,Zeo]);(first|refine hK _ _ ?_;clear hK K|refine⟨?_,fun bq hbq=>?_⟩;rotate_left;(try simp only[HB]at hbq);refine hK _ _ ?_;all_goals clear hK K|refine Zeh T rfl ?_;(simp (disch:=omega) only[go_sem,Nat.reduceBEq,z'f,x'H,x'R]);(refine⟨?_,?_,hK _ _ ?_⟩<;>clear hK K))|refine st rfl ?_|refine nl ?_
 any_goals omega
 ·have q:Nat.min (i+1) (i+1)=i+1:=Nat.min_self _
  rw[q];omega
 revert bq
 intro bn hbn
 have hA:=Zlt l (fun e=>e.2.1) l.length
 have hT:=Zlt l (fun e=>e.2.2) l.length
 refine VC.loop {k:Nat//k≤l.length} (fun p=>⟨x'K [(0,iD (i:Nat)),(1,Zas l),(4,pD b4),(10,pD bg),(11,gsZ bn (i+1)),(96,Zas l),(97,iD (l.length:Nat)),(98,iD (p.1:Nat))],
  [(bn,.cells 3 ((i+1)*1) ((fnL (i+1) (nx1 l p.1)).map iD)),(ba,.cells 3 (l.length*1) ((fnL l.length (lay l (fun e=>e.2.1) p.1)).map iD)),(bt,.cells 3 (l.length*1) ((fnL l.length (lay l (fun e=>e.2.2) p.1)).map iD)),(bg,.cells 122 3 [gsZ bs (i+1),gsZ ba l.length,gsZ bt l.length]),(bs,.cells 3 ((i+1)*1) ((fnL (i+1) (st2 l i)).map iD)),(b4,.cells 122 3 [.gs none 0,.gs none 0,.gs none 0])]⟩) (fun p=>l.length-p.1) ⟨0,z'Q _⟩ ?_ ?_
 ·refine x'4 ?_ ?_
  ·dsimp only
   rw[←hA, ←hT, ←ZnY]
   have q:Nat.min (i+1) (i+1)=i+1:=Nat.min_self _
   have z:((fnL (i+1) (st2 l i)).map iD).length=i+1:=by rw[z'f,x'H]
   rw[q,y'l,List.take_take,Nat.min_self,z'O (by omega),Zk3 _ _ (by rw[z,z'A,z'f,x'R])]
  ·simp[sub,upd]
 rintro⟨k,hk⟩
 dsimp only at hk⊢
 rcases z't k l.length with hlt|hge
 ·have he:=hE _ (Zgu (d:=(0,0,0)) hlt)
  obtain⟨a,hi⟩: ∃i:Nat,(l.getD k (0,0,0)).1=(i:Int):=⟨(l.getD k (0,0,0)).1.toNat,by omega⟩
  have hat:=Zm9 hs h0 hlt hi
  have r1:((fnL (i+1) (nx1 l k)).map iD)[a]?=some (iD (k:Nat)):=by rw[ZfB (by omega),hat]
  have w1:IntKind.i64.wrap ((k:Int)+1)=((k+1:Nat):Int):=by rw[w64 (by omega)];omega
  have hset:=Zmc hlt hi (n:=i) (by omega)
  rw[hat,show((k:Nat):Int)+1=((k+1:Nat):Int) from rfl]at hset
  have la:=ZhJ (l:=l) (f:=fun e=>e.2.1) hlt
  have lt:=ZhJ (l:=l) (f:=fun e=>e.2.2) hlt
  repeat' first|refine VC.drawS (id:=23) (by kernel_rfl) ?_|refine vs T rfl fun K hK=>?_;(try simp (disch:=omega) only[go_sem,Nat.reduceBEq,Nat.reduceAdd,Nat.reduceLeDiff,ZjH,edR,hi,r1,z'D,y'l]);(first|refine hK _ _ ?_;clear hK K|intro bq hbq;(try simp only[HB]at hbq);refine hK _ _ ?_;clear hK K|refine⟨?_,hK _ _ ?_⟩<;>clear hK K;focus(try omega))|refine st rfl ?_|refine sc rfl ?_|refine nl ?_|with_reducible refine y'E (fun hc=>?_) (fun hc=>?_)<;>(try simp only[decide_eq_true_eq,decide_eq_false_iff_not,x'v]at hc)<;>(try(exfalso;omega))
  refine VCd.groupW T ((bq,.cells 202 3 [iD (a:Nat),iD (l.getD k (0,0,0)).2.1,iD (l.getD k (0,0,0)).2.2])::(bn,.cells 3 (i+1) ((fnL (i+1) (nx1 l k)).map iD))::(ba,.cells 3 l.length (((fnL l.length (lay l (fun e=>e.2.1) k)).map iD).set k (iD (l.getD k (0,0,0)).2.1)))::(bt,.cells 3 l.length ((fnL l.length (lay l (fun e=>e.2.2) k)).map iD))::[(bg,.cells 122 3 [gsZ bs (i+1),gsZ ba l.length,gsZ bt l.length]),(bs,.cells 3 (i+1) ((fnL (i+1) (st2 l i)).map iD)),(b4,.cells 122 3 [.gs none 0,.gs none 0,.gs none 0])]) 11 12 12 rfl rfl rfl (by kernel_rfl) (by kernel_rfl) (by kernel_rfl) ?_
  repeat' first|apply VCw.step T rfl rfl (by rfl);(focus((try simp (disch:=omega) only[go_sem,Nat.reduceBEq,z'D,y'l]);(first|exact rfl|refine⟨?_,rfl⟩;try omega)));(focus(try simp (disch:=omega) only[go_sem,Nat.reduceBEq,z'D,y'l]));(focus(try omega))|refine VCw.write T rfl rfl (by rfl) ?_ ?_;focus((try simp (disch:=omega) only[go_sem,Nat.reduceBEq,z'f,x'H]);omega)|refine VCw.nil T ?_|refine VCd.tail (f:=12) (by kernel_rfl) ?_;(try simp only[List.drop_succ_cons,y'T])|refine vs T rfl fun K hK=>?_;(try simp (disch:=omega) only[go_sem,Nat.reduceBEq,Nat.reduceLeDiff,r1,w1,z'D,z'f,x'H,y'l]);(first|refine hK _ _ ?_;clear hK K|refine⟨?_,hK _ _ ?_⟩<;>clear hK K;focus(try omega))|refine st rfl ?_|refine nl ?_|refine ov ?_
  refine⟨⟨k+1,hlt⟩,Ze1 ?_ ?_,by dsimp only;omega⟩
  ·dsimp only
   rw[←hset, ←la, ←lt,w'h,w'h,w'h,y'l,y'l]
  ·simp[sub,upd]
 obtain rfl:k=l.length:=by omega
 rw[Zlu,Zlu,ZlB]
 have z1:(w'q i l).st.length=i+1:=by rw[←ZlB,x'H]
 have z2:(w'q i l).ag=l.map (fun e=>e.2.1):=by rw[w'q,Zh5 hs i fun e he=>⟨(hE e he).1,(hE e he).2.1⟩]
 have z3:(w'q i l).to=l.map (fun e=>e.2.2):=by rw[w'q,Zh5 hs i fun e he=>⟨(hE e he).1,(hE e he).2.1⟩]
 rw[←z2, ←z3]
 have y2:(w'q i l).ag.length=l.length:=by rw[z2,z'f]
 have y3:(w'q i l).to.length=l.length:=by rw[z3,z'f]
 generalize w'q i l=g at*
 repeat' first|refine vs T rfl fun K hK=>?_;(try simp (disch:=omega) only[go_sem,Nat.reduceBEq,Nat.reduceAdd,Nat.reduceLeDiff]);(refine hK _ _ ?_;clear hK K)|refine st rfl ?_|refine sc rfl ?_|refine nl ?_|with_reducible refine y'E (fun hc=>?_) (fun hc=>?_)<;>(try simp only[decide_eq_true_eq,decide_eq_false_iff_not,x'v]at hc)<;>(try(exfalso;omega))
 refine ZfG T rfl (by(try simp (disch:=omega) only[Zan,v'E]);rfl) rfl rfl rfl (z'V _) ⟨_,rfl,Zaj ⟨_,rfl,Zaj ?_ (Zaj ?_ (Zaj ?_ Zjk))⟩ (FzL.refl _ _)⟩
 ·have q:=ZcL (e:=3) (s:=g.st) (g:=some (bs,i+1)) (H:=[(bn,HC.cells 3 ((i+1)*1) ((fnL (i+1) (nx1 l l.length)).map iD)),(ba,HC.cells 3 (l.length*1) (g.ag.map iD)),(bt,HC.cells 3 (l.length*1) (g.to.map iD)),(bg,HC.cells 122 3 [gsZ bs (i+1),gsZ ba l.length,gsZ bt l.length]),(bs,HC.cells 3 ((i+1)*1) (g.st.map iD)),(b4,HC.cells 122 3 [gsZ bs (i+1),gsZ ba l.length,gsZ bt l.length])]) (by show g.st.length≤i+1;omega) (fun b c e=>by cases e;simp)
  rw[z1]at q
  exact q
 ·have q:=ZcL (e:=3) (s:=g.ag) (g:=some (ba,l.length)) (H:=[(bn,HC.cells 3 ((i+1)*1) ((fnL (i+1) (nx1 l l.length)).map iD)),(ba,HC.cells 3 (l.length*1) (g.ag.map iD)),(bt,HC.cells 3 (l.length*1) (g.to.map iD)),(bg,HC.cells 122 3 [gsZ bs (i+1),gsZ ba l.length,gsZ bt l.length]),(bs,HC.cells 3 ((i+1)*1) (g.st.map iD)),(b4,HC.cells 122 3 [gsZ bs (i+1),gsZ ba l.length,gsZ bt l.length])]) (by show g.ag.length≤l.length;omega) (fun b c e=>by cases e;simp)
  rw[y2]at q
  exact q
 ·have q:=ZcL (e:=3) (s:=g.to) (g:=some (bt,l.length)) (H:=[(bn,HC.cells 3 ((i+1)*1) ((fnL (i+1) (nx1 l l.length)).map iD)),(ba,HC.cells 3 (l.length*1) (g.ag.map iD)),(bt,HC.cells 3 (l.length*1) (g.to.map iD)),(bg,HC.cells 122 3 [gsZ bs (i+1),gsZ ba l.length,gsZ bt l.length]),(bs,HC.cells 3 ((i+1)*1) (g.st.map iD)),(b4,HC.cells 122 3 [gsZ bs (i+1),gsZ ba l.length,gsZ bt l.length])]) (by show g.to.length≤l.length;omega) (fun b c e=>by cases e;simp)
  rw[y3]at q
  exact q
end Go.Proofs.YtjlnkedmbfdofaaGreat
