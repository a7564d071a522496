/- Contracts: a way by some nodes, the reference. No condition. -/
import Derived.Test.YtfneeacgkdhldaaGreatGc
import Derived.Test.YtfneeacgkdhldaaGreatDd
import Derived.Test.YtfneeacgkdhldaaGreatDb
namespace Go.Proofs.YtfneeacgkdhldaaGreat
set_option maxHeartbeats 16000000
set_option linter.unusedSimpArgs false
set_option linter.unusedVariables false
set_option maxRecDepth 20000
open Go Go.Proofs Go.Vc
attribute [local irreducible] y'5 VCg VCw VCx
def Zfg:List Int→D
 |[]=> .gs none 0
 |x::p=>z'C (x::p)
theorem Zpd {H:Heap} (p:List Int):Fz H (ZjU (some p)) (.tup [Zfg p,bD true]):=by
 cases p with
 |nil=>exact Zgd
 |cons x p=>exact Fz.refl _ _
theorem ZmD (p:List Int) (a:Int):Zfg (p++[a])=z'C (p++[a]):=by cases p<;>rfl
theorem ZoG {H:Heap} (p:List Int):srcOk 1 (Zfg p) H (p.map iD) p.length:=by
 cases p with
 |nil=>exact⟨rfl,rfl⟩
 |cons x p=>exact⟨rfl,(Zac _).symm,by rw[z'k]⟩
theorem Zqh {e:TypeId} {esz eb:Nat} {ea:Bool} {ez:List Value} {g:Option (Nat×Nat)} {n m:Nat} {x:D} {H:Heap} {K:D→Heap→Prop} {F:Option (Nat×Nat)→List D→Heap} {l news:List D}
  (h1:Sp H g e esz l F) (h2:l.length=n*esz) (h3:srcOk esz x H news m) (h4:0<esz∧0<eb∧(n+m)*eb≤140737488355328) (h5: ∀g',gOk g' (n+m)→K (.gs g' (n+m)) (F g' (l++news))):
  cAppS (.slice e esz eb ea ez) (.gs g n) x H K:=⟨F,l,news,m,h1,h2,h3,h4,h5⟩
abbrev inR (bf cf bp cp:Nat) (F:List Wy):Heap:=[(bp,.cells 22 (cp*1) (F.map fun e=>Zfg e.2.2.2)),(bf,.cells 3 (cf*1) (F.map fun e=>iD e.1))]
theorem ZkV {F:List Wy} {x:Int} {j:Nat} {e:Wy} (h:F[j]?=some e):Zdx (F.take (j+1)) x=(Zdx (F.take j) x||decide (e.1=x)):=by
 unfold Zdx
 rw[y'A,h,List.any_append]
 simp
theorem ZfS (g:Cs) (hg:OkG g) (hR:w'j g=true) (a b:Int) (In:List Bool) (hI:In.length≤1000000):Pure Tryz.prog 50 [.agg (csC g),iD a,iD b,x'F In] (ZjU (ZbB g a b In)):=by
 have cn:=ZaL g hg
 have ca:=Zgn In a
 have cb:=Zgn In b
 refine Fun.fz ?_
 have hbn:z'O g≤1000000:=by have:=hg.st;simp only[z'O,hR];omega
 generalize hn:z'O g=n at*
 refine Fun.of T [.tmp 8,.tmp 9] Tryz.func50 rfl Tryz.ntmps50 Tryz.results50 rfl (by kernel_rfl) ?_
 cases hok:okI g In a&&okI g In b with
 |false=>
  have:ZbB g a b In=none:=by simp only[ZbB,hok]
  rw[this]
  simp only[x'Z,okI,decide_eq_false_iff_not,hn]at hok
  repeat' first|refine vb (t:=32) rfl rfl rfl rfl ?_|refine vs T rfl fun K hK=>?_;(try simp (disch:=omega) only[go_sem,Nat.reduceBEq,Nat.reduceAdd,Nat.reduceMul,Nat.reduceLeDiff]);(first|refine hK _ _ ?_;clear hK K|refine Op1.callp rfl rfl (cn) rfl ?_;refine hK _ _ ?_;clear hK K|refine Op1.callp rfl rfl (ca) rfl ?_;refine hK _ _ ?_;clear hK K|refine Op1.callp rfl rfl (cb) rfl ?_;refine hK _ _ ?_;clear hK K)|refine st rfl ?_|refine sc rfl ?_|refine nl ?_|refine gs rfl rfl ?_|with_reducible refine z'j (fun hc=>?_) (fun hc=>?_)<;>(try simp only[decide_eq_true_eq,decide_eq_false_iff_not,z'N,z'R,ge_iff_le,y'e,z'm]at hc)
  any_goals exact y'9 T (z'a _) Zgd
  all_goals(exfalso;rcases hok with(h|h)|h|h<;>simp_all<;>omega)
 |true=>
 have hE0:ZbB g a b In=goI g In b (z'O g+1) 0 [(a, -1, -1,[])]:=by simp only[ZbB,hok]
 simp only[z'i,okI,decide_eq_true_eq,hn]at hok
 obtain⟨⟨⟨a1,a2⟩,a3⟩,⟨b1,b2⟩,b3⟩:=hok
 rw[a3]at ca
 rw[b3]at cb
 repeat' first|refine vb (t:=32) rfl rfl rfl rfl ?_|refine vt rfl fun K hK=>?_;refine Zh4 T (l:=[iD a]) rfl rfl rfl rfl (by decide)<|fun bq hbq=>?_;refine hK _ _ ?_;clear hK K;(try simp only[updO])|refine vt rfl fun K hK=>?_;refine Zh4 T (l:=[.gs none 0]) rfl rfl rfl rfl (by decide)<|fun bq hbq=>?_;refine hK _ _ ?_;clear hK K;(try simp only[updO])|refine vs T rfl fun K hK=>?_;(try simp (disch:=omega) only[go_sem,Nat.reduceBEq,Nat.reduceAdd,Nat.reduceMul,Nat.reduceLeDiff,z'l]);(first|refine hK _ _ ?_;clear hK K|refine Op1.callp rfl rfl (cn) rfl ?_;refine hK _ _ ?_;clear hK K|refine Op1.callp rfl rfl (ca) rfl ?_;refine hK _ _ ?_;clear hK K|refine Op1.callp rfl rfl (cb) rfl ?_;refine hK _ _ ?_;clear hK K)|refine st rfl ?_|refine sc rfl ?_|refine nl ?_|refine gs rfl rfl ?_|with_reducible refine z'j (fun hc=>?_) (fun hc=>?_)<;>(try simp only[decide_eq_true_eq,decide_eq_false_iff_not,ge_iff_le,y'e,z'm]at hc)<;>(try(exfalso;omega))
 rename_i bf _
 rw[hn]at hE0
 refine VC.loop {p:Nat×List Wy×Nat×Nat×Nat×Nat//p.1≤p.2.1.length∧IW n p.2.1∧ZbB g a b In=goI g In b (n+1-p.1) p.1 p.2.1∧p.2.1.length≤p.2.2.2.1∧p.2.1.length≤p.2.2.2.2.2}
  (fun p=>⟨z'J [(2,iD b),(3,x'F In),(4,.pt (csC g)),(11,.gs (some (p.1.2.2.1,p.1.2.2.2.1)) p.1.2.1.length),(12,.gs (some (p.1.2.2.2.2.1,p.1.2.2.2.2.2)) p.1.2.1.length),(13,iD (p.1.1:Nat))],inR p.1.2.2.1 p.1.2.2.2.1 p.1.2.2.2.2.1 p.1.2.2.2.2.2 p.1.2.1⟩)
  (fun p=>n+1-p.1.1) ⟨(0,[(a, -1, -1,[])],bf,1,bq,1),by dsimp only;exact⟨by simp,IW.one ⟨a1,a2⟩,hE0,by simp,by simp⟩⟩ ?_ ?_
 ·refine z'v rfl ?_
  simp[sub,upd]
 clear hE0
 rintro⟨⟨i,F,bf,cf,bp,cp⟩,hi,hF,hE,hcf,hcp⟩
 dsimp only at hi hF hE hcf hcp⊢
 have hFl:=hF.len
 refine VC.nodup fun hnd=>?_
 simp only[Heap.blocks,z'B,x'z,z'P,not_or]at hnd
 obtain⟨⟨q1,_⟩,_⟩:=hnd
 rcases z'g i F.length with hlt|hge
 case inr=>
  obtain rfl:i=F.length:=by omega
  rw[ZnM (z'w _)]at hE
  rw[hE]
  repeat' first|refine vs T rfl fun K hK=>?_;(try simp (disch:=omega) only[go_sem,Nat.reduceBEq]);(refine hK _ _ ?_;clear hK K)|refine st rfl ?_|refine sc rfl ?_|refine nl ?_|with_reducible refine z'j (fun hc=>?_) (fun hc=>?_)<;>(try simp only[decide_eq_true_eq,decide_eq_false_iff_not,z'm]at hc)<;>(try(exfalso;omega))
  exact y'9 T (z'a _) Zgd
 obtain⟨e,he⟩: ∃e,F[i]?=some e:=⟨_,w'7 (d:=default) hlt⟩
 have he1:F[i*1]?=some e:=by rw[z'u];exact he
 rw[show n+1-i=(n-i)+1 by omega,ZkO he]at hE
 have co:=Zmv g hg e.1
 cases hx:decide (e.1=b)with
 |true=>
  rw[hx]at hE
  simp only[decide_eq_true_eq]at hx
  rw[hE]
  repeat' first|refine vs T rfl fun K hK=>?_;(try simp (disch:=omega) only[go_sem,Nat.reduceBEq,he1,hx,z'f]);(first|refine hK _ _ ?_;clear hK K|refine⟨?_,hK _ _ ?_⟩<;>clear hK K;focus(try omega))|refine st rfl ?_|refine sc rfl ?_|refine nl ?_|with_reducible refine z'j (fun hc=>?_) (fun hc=>?_)<;>(try simp only[decide_eq_true_eq,decide_eq_false_iff_not,z'm]at hc)<;>(try(exfalso;omega))
  exact y'9 T (z'a _) (Zpd _)
 |false=>
 rw[hx]at hE
 simp only[decide_eq_false_iff_not]at hx
 repeat' first|refine dr (id:=11) T 5 (by kernel_rfl) ?_|refine gn ?_|(apply VCg.step T rfl rfl);focus((try simp (disch:=omega) only[go_sem,Nat.reduceBEq,Nat.reduceAdd,Nat.reduceLeDiff,he1,z'f]);(first|exact rfl|refine⟨?_,rfl⟩;try omega))|refine vs T rfl fun K hK=>?_;(try simp (disch:=omega) only[go_sem,Nat.reduceBEq,he1,z'f]);(first|refine hK _ _ ?_;clear hK K|refine⟨?_,hK _ _ ?_⟩<;>clear hK K;focus(try omega)|refine Op1.callp rfl rfl (co) rfl ?_;refine hK _ _ ?_;clear hK K)|refine st rfl ?_|refine sc rfl ?_|refine nl ?_|with_reducible refine z'j (fun hc=>?_) (fun hc=>?_)<;>(try simp only[decide_eq_true_eq,decide_eq_false_iff_not,beq_iff_eq,beq_eq_false_iff_ne,ne_eq,z'm]at hc)<;>(try(exfalso;omega))
 have hto: ∀d,d∈v'B g e.1→0≤d.2.2∧d.2.2<n:=fun d hd=>by rw[←hn];exact(Zoe d hd).1
 have hLl:=Zmw hg e.1
 generalize v'B g e.1=L at*
 refine VC.loop {p:Nat×List Wy×Nat×Nat×Nat×Nat//p.1≤L.length∧IW n p.2.1∧p.2.1[i]?=some e∧ZbB g a b In=goI g In b (n-i) (i+1) (Zbr In e.1 e.2.2.2 p.2.1 (L.drop p.1))∧p.2.1.length≤p.2.2.2.1∧p.2.1.length≤p.2.2.2.2.2}
  (fun p=>⟨z'J [(2,iD b),(3,x'F In),(4,.pt (csC g)),(11,.gs (some (p.1.2.2.1,p.1.2.2.2.1)) p.1.2.1.length),(12,.gs (some (p.1.2.2.2.2.1,p.1.2.2.2.2.2)) p.1.2.1.length),(13,iD (i:Nat)),(14,Zaw L),(15,iD (p.1.1:Nat))],inR p.1.2.2.1 p.1.2.2.2.1 p.1.2.2.2.2.1 p.1.2.2.2.2.2 p.1.2.1⟩)
  (fun p=>L.length-p.1.1) ⟨(0,F,bf,cf,bp,cp),by dsimp only;exact⟨z'M _,hF,he,hE,hcf,hcp⟩⟩ ?_ ?_
 ·refine z'v rfl ?_
  simp[sub,upd]
 clear q1 hE he1 he hF hFl hi hcf hcp hlt co
 rintro⟨⟨k,G',bf,cf,bp,cp⟩,hk,hF,he,hE,hcf,hcp⟩
 dsimp only at hk hF he hE hcf hcp⊢
 have hFl:=hF.len
 have hlt:=ZpS he
 have he1:G'[i*1]?=some e:=by rw[z'u];exact he
 refine VC.nodup fun hnd=>?_
 simp only[Heap.blocks,z'B,x'z,z'P,not_or]at hnd
 obtain⟨⟨q1,_⟩,_⟩:=hnd
 rcases z'g k L.length with hkl|hge
 case inr=>
  obtain rfl:k=L.length:=by omega
  rw[List.drop_length]at hE
  repeat' first|refine vs T rfl fun K hK=>?_;(try simp (disch:=omega) only[go_sem,Nat.reduceBEq,x'h,w64]);(refine hK _ _ ?_;clear hK K)|refine st rfl ?_|refine sc rfl ?_|refine nl ?_|with_reducible refine z'j (fun hc=>?_) (fun hc=>?_)<;>(try simp only[decide_eq_true_eq,decide_eq_false_iff_not,z'm]at hc)<;>(try(exfalso;omega))
  refine⟨⟨(i+1,G',bf,cf,bp,cp),by dsimp only;exact⟨by omega,hF,by rw[hE,show n+1-(i+1)=n-i by omega];rfl,hcf,hcp⟩⟩,z'v rfl ?_,by dsimp only;omega⟩
  simp[sub,upd]
 rw[Zlo hkl]at hE
 have htk:=hto _ (x'w (d:=((0,0,0):Ed)) hkl)
 have hst:=hF.step he (In:=In) htk
 obtain⟨d,hd⟩: ∃d,d=L.getD k (0,0,0):=⟨_,rfl⟩
 rw[←hd]at hE htk hst
 obtain⟨d1,d2,d3⟩:=d
 dsimp only at hE htk hst
 have ci:=Zgn In d3
 repeat' first|refine vs T rfl fun K hK=>?_;(try simp (disch:=omega) only[go_sem,Nat.reduceBEq,x'h,w'D,z'f, ←hd,edR]);(first|refine hK _ _ ?_;clear hK K|refine⟨?_,hK _ _ ?_⟩<;>clear hK K;focus(try omega)|refine Op1.callp rfl rfl (ci) rfl ?_;refine hK _ _ ?_;clear hK K)|refine st rfl ?_|refine sc rfl ?_|refine nl ?_|with_reducible refine z'j (fun hc=>?_) (fun hc=>?_)<;>(try simp only[decide_eq_true_eq,decide_eq_false_iff_not,z'm]at hc)<;>(try(exfalso;omega))
 refine VC.loop {j:Nat//j≤G'.length}
  (fun p=>⟨z'J [(2,iD b),(3,x'F In),(4,.pt (csC g)),(11,.gs (some (bf,cf)) G'.length),(12,.gs (some (bp,cp)) G'.length),(13,iD (i:Nat)),(14,Zaw L),(15,iD (k:Nat)),(16,bD (!isN In d3||Zdx (G'.take p.1) d3)),(17,iD (p.1:Nat))],inR bf cf bp cp G'⟩)
  (fun p=>G'.length-p.1) ⟨0,z'M _⟩ ?_ ?_
 ·refine z'v rfl ?_
  simp[sub,upd,Zdx]
 rintro⟨j,hj⟩
 dsimp only at hj⊢
 rcases z'g j G'.length with hjl|hge
 ·obtain⟨y,hy⟩: ∃y,G'[j]?=some y:=⟨_,w'7 (d:=default) hjl⟩
  have hy1:G'[j*1]?=some y:=by rw[z'u];exact hy
  repeat' first|refine dr (id:=19) T 11 (by kernel_rfl) ?_|refine gn ?_|(first|apply VCg.step T rfl rfl|apply exF);focus((try simp (disch:=omega) only[go_sem,Nat.reduceBEq,w'D,z'f, ←hd,edR,hy1]);(first|exact rfl|refine⟨?_,rfl⟩;try omega))|refine VCg.gstep T rfl rfl rfl rfl ?_;try simp only[GB]|refine vs T rfl fun K hK=>?_;(try simp (disch:=omega) only[go_sem,Nat.reduceBEq,w64]);(refine hK _ _ ?_;clear hK K)|refine st rfl ?_|refine sc rfl ?_|refine nl ?_|refine gs rfl rfl ?_|with_reducible refine z'j (fun hc=>?_) (fun hc=>?_)<;>(try simp only[decide_eq_true_eq,decide_eq_false_iff_not,z'm]at hc)<;>(try(exfalso;omega))
  all_goals
   have ht:=ZkV (x:=d3) hy
   refine⟨⟨j+1,by omega⟩,z'v rfl ?_,by dsimp only;omega⟩
   simp[sub,upd,ht, ←Bool.or_assoc,hc]
   try rfl
 obtain rfl:j=G'.length:=by omega
 rw[z'X]
 cases hh: !isN In d3||Zdx G' d3 with
 |true=>
  have hs:v'Y In e.1 e.2.2.2 G' (d1,d2,d3)=G':=by
   unfold v'Y
   simp only[x'A,z'N]at hh
   rcases hh with hh|hh<;>simp[hh]
  rw[hs]at hE
  repeat' first|refine vs T rfl fun K hK=>?_;(try simp (disch:=omega) only[go_sem,Nat.reduceBEq,z'l,w64]);(refine hK _ _ ?_;clear hK K)|refine st rfl ?_|refine sc rfl ?_|refine nl ?_|with_reducible refine z'j (fun hc=>?_) (fun hc=>?_)<;>(try simp only[decide_eq_true_eq,decide_eq_false_iff_not,z'm]at hc)<;>(try(exfalso;omega))
  refine⟨⟨(k+1,G',bf,cf,bp,cp),by dsimp only;exact⟨by omega,hF,he,hE,hcf,hcp⟩⟩,z'v rfl ?_,by dsimp only;omega⟩
  simp[sub,upd]
 |false=>
  have hs:v'Y In e.1 e.2.2.2 G' (d1,d2,d3)=G'++[(d3,e.1,d2,e.2.2.2++[d2])]:=by
   unfold v'Y
   simp only[Bool.or_eq_false_iff,z'R]at hh
   simp[hh.1,hh.2]
  rw[hs]at hE hst
  have hpl:=hF.path i i e (z'w _) he
  repeat' first|refine vt rfl fun K hK=>?_;refine Zlb T rfl<|Zqh Sp.nil rfl (ZoG _) ⟨by decide,by decide,by omega⟩<|fun g1 hg1=>?_;refine hK _ _ ?_;clear hK K;(try simp only[updO])|refine vs T rfl fun K hK=>?_;(try simp (disch:=omega) only[go_sem,Nat.reduceBEq,Nat.reduceMul,Nat.reduceLeDiff,z'r,w'D,z'f, ←hd,edR,he1,w64]);(first|refine hK _ _ ?_;clear hK K|refine⟨_,_,_,_,(by repeat (first|exact Sp.here|exact Sp.hereS|apply Sp.cons|apply Sp.over)),?_,(by exact⟨rfl,rfl⟩),⟨by decide,?_⟩,fun g' hg'=>hK _ _ ?_⟩<;>clear hK K|refine⟨?_,hK _ _ ?_⟩<;>clear hK K;focus(try omega))|refine st rfl ?_|refine sc rfl ?_|refine nl ?_|with_reducible refine z'j (fun hc=>?_) (fun hc=>?_)<;>(try simp only[decide_eq_true_eq,decide_eq_false_iff_not,z'm]at hc)<;>(try(exfalso;omega))
  any_goals(simp only[z's,z'u];done)
  any_goals omega
  rename_i g2 hg2 gf hgf
  rcases gf with _|⟨bf',cf'⟩
  ·cases hgf
  rcases g' with _|⟨bp',cp'⟩
  ·cases hg'
  have hfz:FzL (shp g2 3 1 (e.2.2.2.map iD++[iD d2]) []) ((G'++[(d3,e.1,d2,e.2.2.2++[d2])]).map fun e=>Zfg e.2.2.2) ((G'.map fun e=>Zfg e.2.2.2)++[.gs g2 (e.2.2.2.length+1)]):=by
   rw[z'E]
   refine FzL.append (FzL.refl _ _) (z't ?_ x'T)
   dsimp only
   rw[ZmD,show e.2.2.2.length+1=(e.2.2.2++[d2]).length by rw[z'o];rfl]
   exact w'z (e:=3) (by rw[z'o];exact hg2) fun bb cc q=>by subst q;rw[z'E];exact x'x
  refine⟨⟨(k+1,G'++[(d3,e.1,d2,e.2.2.2++[d2])],bf',cf',bp',cp'),by dsimp only;exact⟨by omega,hst,by rw[z'9 hlt];exact he,hE,by rw[z'o];exact hgf,by rw[z'o];exact hg'⟩⟩,?_,by dsimp only;omega⟩
  refine Weak.trans (Weak.perm (H':=(bp',.cells 22 (cp'*1) ((G'.map fun e=>Zfg e.2.2.2)++[.gs g2 (e.2.2.2.length+1)]))::([(bf',.cells 3 (cf'*1) ((G'.map fun e=>iD e.1)++[iD d3]))]++shp g2 3 1 (e.2.2.2.map iD++[iD d2]) [])) ?_) (Weak.trans (Weak.fzc hfz) (z'v ?_ ?_))
  ·exact y'b fun a=>by simp only[iD,z'1,y'f,z'V,z'6,y'a];omega
  ·dsimp only[inR]
   rw[z'E (f:=fun e:Wy=>iD e.1)]
   rfl
  ·simp[sub,upd]
open Go Go.Proofs Go.Vc Go.ChangeShapes Go.WideShapes Go.ChangeAt Go.RowKit Go.Joins
end Go.Proofs.YtfneeacgkdhldaaGreat
