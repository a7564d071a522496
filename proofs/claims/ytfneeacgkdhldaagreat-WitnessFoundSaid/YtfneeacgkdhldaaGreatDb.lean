/- Lists read by places; graphs as data. No condition. -/
import Derived.Test.YtfneeacgkdhldaaGreatBc
import Derived.Test.YtfneeacgkdhldaaGreatXa
namespace Go.Proofs.YtfneeacgkdhldaaGreat
set_option maxHeartbeats 16000000
set_option linter.unusedSimpArgs false
set_option linter.unusedVariables false
set_option maxRecDepth 20000
open Go Go.Proofs Go.Vc
theorem w'7 {α:Type} {l:List α} {i:Nat} {d:α} (h:i<l.length):l[i]?=some (l.getD i d):=by
 rw[z'e,z'b h];rfl
theorem ZnJ {α:Type} {l:List α} {i:Nat} {x d:α} (h:l[i]?=some x):l.getD i d=x:=by rw[z'e,h];rfl
theorem Zbm {α:Type} (f:α→List D) (d:α) {e esz eb:Nat} {ea full:Bool} {ez:List Value} {l:List α} {k:IntKind} {n:Int} {K:D→Prop}:
  cIndexAddr (.slice e esz eb ea ez) (.sl full esz (l.map f)) (.is (.int k n)) K=((0≤n∧n<l.length)∧K (.pt (f (l.getD n.toNat d)))):=by
 simp only[cIndexAddr,z's,y'c,eq_iff_iff]
 constructor
 ·rintro⟨h,r,h1,_,h2⟩
  have hl:n.toNat<l.length:=by omega
  rw[w'7 (d:=d) hl]at h1
  cases h1
  exact⟨h,h2⟩
 ·rintro⟨h,h1⟩
  have hl:n.toNat<l.length:=by omega
  exact⟨h,_,by rw[w'7 (d:=d) hl];rfl,trivial,h1⟩
theorem y'w {e eb:Nat} {ea full:Bool} {ez:List Value} {l:List Int} {k:IntKind} {n:Int} {K:D→Prop}:
  cIndexAddr (.slice e 1 eb ea ez) (.sl full 1 (iRs l)) (.is (.int k n)) K=((0≤n∧n<l.length)∧K (.pt [iD (l.getD n.toNat 0)])):=Zbm (fun n=>[iD n]) 0
def edR (x:Ed):List D:=[iD x.1,iD x.2.1,iD x.2.2]
def Zam (l:List Ed):List (List D):=l.map edR
abbrev Zaw (l:List Ed):D:= .sl false 3 (Zam l)
theorem x'h (l:List Ed):(Zam l).length=l.length:=z's ..
theorem w'D {e eb:Nat} {ea full:Bool} {ez:List Value} {l:List Ed} {k:IntKind} {n:Int} {K:D→Prop}:
  cIndexAddr (.slice e 3 eb ea ez) (.sl full 3 (Zam l)) (.is (.int k n)) K=((0≤n∧n<l.length)∧K (.pt (edR (l.getD n.toNat (0,0,0))))):=Zbm edR (0,0,0)
abbrev csC (g:Cs):List D:=[z'C g.st,z'C g.ag,z'C g.to]
structure Gr (g:Cs):Prop where
 one:1≤g.st.length
 st0:g.st.getD 0 0=0
 stn:g.st.getD (g.st.length-1) 0=g.to.length
 ag:g.ag.length=g.to.length
 up: ∀i,i<g.st.length-1→g.st.getD i 0≤g.st.getD (i+1) 0
 to: ∀i,i<g.to.length→0≤g.to.getD i 0∧g.to.getD i 0<(g.st.length-1:Nat)∧0≤g.ag.getD i 0
def w'j (g:Cs):Bool:=Nat.ble 1 g.st.length&&(g.st.getD 0 0 == 0)&&(g.st.getD (g.st.length-1) 0 == g.to.length)&&(g.ag.length == g.to.length)&&
 ((List.range (g.st.length-1)).all fun i=>decide (g.st.getD i 0≤g.st.getD (i+1) 0))&&
 ((List.range g.to.length).all fun i=>decide (0≤g.to.getD i 0)&&decide (g.to.getD i 0<(g.st.length-1:Nat))&&decide (0≤g.ag.getD i 0))
theorem x'G {g:Cs}:w'j g=true↔Gr g:=by
 simp only[w'j,z'i,z'I,z'G,decide_eq_true_eq,beq_iff_eq,Nat.ble_eq]
 constructor
 ·rintro⟨⟨⟨⟨⟨h1,h2⟩,h3⟩,h4⟩,h5⟩,h6⟩
  exact⟨h1,h2,h3,h4,h5,fun i hi=>⟨(h6 i hi).1.1,(h6 i hi).1.2,(h6 i hi).2⟩⟩
 ·rintro⟨h1,h2,h3,h4,h5,h6⟩
  exact⟨⟨⟨⟨⟨h1,h2⟩,h3⟩,h4⟩,h5⟩,fun i hi=>⟨⟨(h6 i hi).1,(h6 i hi).2.1⟩,(h6 i hi).2.2⟩⟩
theorem ZdH {g:Cs} (h: ¬Gr g):w'j g=false:=by rw[←Bool.not_eq_true];exact fun e=>h (x'G.1 e)
structure OkG (g:Cs):Prop where
 st:g.st.length≤1000000
 ag:g.ag.length≤1000000
 to:g.to.length≤1000000
theorem Zc6 (l:List Ed):(Zam l).flatten.length=l.length*3:=by
 induction l with
 |nil=>rfl
 |cons c l ih=>simp only[Zam,z'B,z'0,z'o,z'H]at ih⊢;rw[ih];simp only[edR,z'H,y'r];omega
theorem Zch (l:List Ed) (x:Ed):(Zam (l++[x])).flatten=(Zam l).flatten++edR x:=by simp[Zam]
theorem Zds (l:List Ed): ∀r,r∈Zam l→r.length=3:=by
 intro r hr
 obtain⟨x,_,rfl⟩:=z'y.1 hr
 rfl
theorem Gr.mono {g:Cs} (G:Gr g): ∀{d i:Nat},i+d≤g.st.length-1→g.st.getD i 0≤g.st.getD (i+d) 0
 |0,i,_=>Int.le_refl _
 |d+1,i,h=>Int.le_trans (G.mono (d:=d) (by omega)) (G.up (i+d) (by omega))
theorem Gr.bnd {g:Cs} (G:Gr g) {i:Nat} (h:i≤g.st.length-1):0≤g.st.getD i 0∧g.st.getD i 0≤g.to.length:=by
 have h1:=G.mono (i:=0) (d:=i) (by omega)
 have h2:=G.mono (i:=i) (d:=g.st.length-1-i) (by omega)
 rw[y'y,G.st0]at h1
 rw[show i+(g.st.length-1-i)=g.st.length-1 by omega,G.stn]at h2
 exact⟨h1,h2⟩
def z'O (g:Cs):Nat:=match w'j g with|true=>g.st.length-1|false=>0
def egG (g:Cs) (i:Nat) (k:Nat):Ed:=((i:Int),g.ag.getD k 0,g.to.getD k 0)
def Zaz (g:Cs) (i k:Nat):List Ed:=(List.range' (g.st.getD i 0).toNat (k-(g.st.getD i 0).toNat)).map (egG g i)
def ZaQ (g:Cs) (i:Nat):List Ed:=Zaz g i (g.st.getD (i+1) 0).toNat
def v'B (g:Cs) (i:Int):List Ed:=match decide (0≤i)&&decide (i<z'O g)with|true=>ZaQ g i.toNat|false=>[]
def upG (g:Cs) (n:Nat):List Ed:=(List.range n).flatMap (ZaQ g)
def x'S (g:Cs):List Ed:=upG g (z'O g)
theorem ZfV (g:Cs) (i:Nat):Zaz g i (g.st.getD i 0).toNat=[]:=by simp[Zaz]
theorem ZcP {g:Cs} {i k:Nat} (h:(g.st.getD i 0).toNat≤k):Zaz g i (k+1)=Zaz g i k++[egG g i k]:=by
 unfold Zaz
 rw[show k+1-(g.st.getD i 0).toNat=(k-(g.st.getD i 0).toNat)+1 by omega,List.range'_concat,z'E,Nat.one_mul,show(g.st.getD i 0).toNat+(k-(g.st.getD i 0).toNat)=k by omega]
 rfl
theorem ZdI (g:Cs) (i k:Nat):(Zaz g i k).length=k-(g.st.getD i 0).toNat:=by simp[Zaz]
theorem Zcz (g:Cs) (n:Nat):upG g (n+1)=upG g n++ZaQ g n:=by unfold upG;rw[y'l,w'n];simp
theorem Gr.upl {g:Cs} (G:Gr g): ∀{n:Nat},n≤g.st.length-1→((upG g n).length:Int)=g.st.getD n 0
 |0,_=>by rw[G.st0];rfl
 |n+1,h=>by
  have h1:=G.bnd (i:=n) (by omega)
  have h2:=G.bnd (i:=n+1) (by omega)
  have h3:=G.up n (by omega)
  have ih:=G.upl (n:=n) (by omega)
  rw[Zcz,z'o,ZaQ,ZdI]
  omega
theorem Zci {α:Type} {a b:List α} {d:α} (hl:a.length=b.length) (h: ∀i,i<a.length→a.getD i d=b.getD i d):a=b:=by
 apply w'k
 intro i
 rcases z'g i a.length with hi|hi
 ·rw[w'7 (d:=d) hi,w'7 (d:=d) (by omega),h i hi]
 ·rw[z'z hi,z'z (by omega)]
theorem Zhd {α:Type} {a b:List α} {d:α} {k:Nat} (hs: ∀i,i<k→a.getD i d=b.getD i d) (h:a.getD k d=b.getD k d): ∀i,i<k+1→a.getD i d=b.getD i d:=fun i hi=>by
 rcases z'g i k with h'|h'
 ·exact hs i h'
 ·obtain rfl:i=k:=by omega
  exact h
def bRs (l:List Bool):List (List D):=l.map fun n=>[bD n]
abbrev x'F (l:List Bool):D:= .sl false 1 (bRs l)
theorem w'5 (l:List Bool):(bRs l).length=l.length:=z's ..
theorem Zcd (l:List Bool):(bRs l).flatten=l.map bD:=by
 induction l with
 |nil=>rfl
 |cons x l ih=>simp only[bRs,z'B,z'0]at ih⊢;rw[ih];rfl
theorem Zc4 (l:List Bool): ∀r,r∈bRs l→r.length=1:=by
 intro r hr
 obtain⟨x,_,rfl⟩:=z'y.1 hr
 rfl
theorem v'v {e eb:Nat} {ea full:Bool} {ez:List Value} {l:List Bool} {k:IntKind} {n:Int} {K:D→Prop}:
  cIndexAddr (.slice e 1 eb ea ez) (.sl full 1 (bRs l)) (.is (.int k n)) K=((0≤n∧n<l.length)∧K (.pt [bD (l.getD n.toNat false)])):=Zbm (fun n=>[bD n]) false
theorem x'w {α:Type} {l:List α} {i:Nat} {d:α} (h:i<l.length):l.getD i d∈l:=z'h (w'7 h)
theorem ZpM (n:Nat):((n:Int)-1).toNat=n-1:=by omega
theorem Zin (k:Nat):((k:Int)+1).toNat=k+1:=by omega
attribute [local irreducible] y'5 VCg VCw VCx
theorem Zbq (g:Cs) (hg:OkG g):Pure Tryz.prog 85 [.agg (csC g)] (bD (w'j g)):=by
 have h1:=hg.st
 have h2:=hg.ag
 have h3:=hg.to
 refine Fun.of T [.tmp 2] Tryz.func85 rfl Tryz.ntmps85 Tryz.results85 rfl (by kernel_rfl) ?_
 repeat' first|refine vb (t:=32) rfl rfl rfl rfl ?_|refine dr (id:=2) T 27 (by kernel_rfl) ?_|refine gn ?_|(first|apply VCg.step T rfl rfl|apply exF);focus((try simp (disch:=omega) only[go_sem,Nat.reduceBEq,Int.reduceToNat,y'w,z'k,ZpM]);(first|exact rfl|refine⟨?_,rfl⟩;try omega))|refine VCg.gstep T rfl rfl rfl rfl ?_;try simp only[GB]|refine vs T rfl fun K hK=>?_;(try simp (disch:=omega) only[go_sem,Nat.reduceBEq,w64,z'k]);(refine hK _ _ ?_;clear hK K)|refine st rfl ?_|refine sc rfl ?_|refine nl ?_|refine gs rfl rfl ?_|refine z'n T (z'a _) ?_;(try simp only[upd,Nat.reduceBEq,cond_true,cond_false,and_true])|with_reducible refine z'j (fun hc=>?_) (fun hc=>?_)<;>(try simp only[decide_eq_true_eq,decide_eq_false_iff_not,bne_iff_ne,bne_eq_false_iff_eq,ne_eq,z'm]at hc)
 any_goals(refine congrArg bD (ZdH fun G=>?_).symm;obtain⟨a1,a2,a3,a4,a5,a6⟩:=G;omega)
 refine VC.loop {k:Nat//k≤g.st.length-1∧ ∀i,i<k→g.st.getD i 0≤g.st.getD (i+1) 0} (fun x=>⟨z'J [(1,.pt (csC g)),(3,iD ((g.st.length:Int)-1)),(4,iD (x.1:Nat))],[]⟩) (fun x=>g.st.length-x.1) ⟨0,by omega,fun i hi=>by omega⟩ ?_ ?_
 ·refine Weak.sub ?_
  simp[sub,upd]
 rintro⟨k,hk,hs⟩
 dsimp only
 repeat' first|refine dr (id:=7) T 11 (by kernel_rfl) ?_|refine gn ?_|(first|apply VCg.step T rfl rfl|apply exF);focus((try simp (disch:=omega) only[go_sem,Nat.reduceBEq,y'w,w64,Zin,z'f]);(first|exact rfl|refine⟨?_,rfl⟩;try omega))|refine vs T rfl fun K hK=>?_;(try simp (disch:=omega) only[go_sem,Nat.reduceBEq,w64]);(refine hK _ _ ?_;clear hK K)|refine st rfl ?_|refine sc rfl ?_|refine nl ?_|refine z'n T (z'a _) ?_;(try simp only[upd,Nat.reduceBEq,cond_true,cond_false,and_true])|with_reducible refine z'j (fun hc=>?_) (fun hc=>?_)<;>(try simp only[decide_eq_true_eq,decide_eq_false_iff_not,z'm]at hc)
 any_goals(refine congrArg bD (ZdH fun G=>?_).symm;have:=G.up k (by omega);omega)
 ·refine⟨⟨k+1,by omega,fun i hi=>?_⟩,Weak.sub ?_,by simp only[];omega⟩
  ·rcases z'g i k with h|h
   ·exact hs i h
   ·obtain rfl:i=k:=by omega
    omega
  ·simp[sub,upd]
 refine VC.loop {j:Nat//j≤g.to.length∧ ∀i,i<j→0≤g.to.getD i 0∧g.to.getD i 0<(g.st.length-1:Nat)∧0≤g.ag.getD i 0} (fun x=>⟨z'J [(1,.pt (csC g)),(3,iD ((g.st.length:Int)-1)),(5,iD (x.1:Nat))],[]⟩) (fun x=>g.to.length-x.1) ⟨0,by omega,fun i hi=>by omega⟩ ?_ ?_
 ·refine Weak.sub ?_
  simp[sub,upd]
 rintro⟨j,hj,ht⟩
 dsimp only
 repeat' first|refine vs T rfl fun K hK=>?_;(try simp (disch:=omega) only[go_sem,Nat.reduceBEq,y'w,w64,z'k,z'f]);(first|refine hK _ _ ?_;clear hK K|refine⟨?_,hK _ _ ?_⟩<;>clear hK K;focus(try omega))|refine st rfl ?_|refine sc rfl ?_|refine nl ?_|refine gs rfl rfl ?_|refine z'n T (z'a _) ?_;(try simp only[upd,Nat.reduceBEq,cond_true,cond_false,and_true])|with_reducible refine z'j (fun hc=>?_) (fun hc=>?_)<;>(try simp only[decide_eq_true_eq,decide_eq_false_iff_not,ge_iff_le,y'e,z'm]at hc)
 any_goals(refine congrArg bD (ZdH fun G=>?_).symm;have:=G.to j (by omega);omega)
 ·refine⟨⟨j+1,by omega,fun i hi=>?_⟩,Weak.sub ?_,by simp only[];omega⟩
  ·rcases z'g i j with h|h
   ·exact ht i h
   ·obtain rfl:i=j:=by omega
    exact⟨by omega,by omega,by omega⟩
  ·simp[sub,upd]
 exact congrArg bD (x'G.2 ⟨by omega,by assumption,by assumption,by omega,fun i hi=>hs i (by omega),fun i hi=>ht i (by omega)⟩).symm
end Go.Proofs.YtfneeacgkdhldaaGreat
