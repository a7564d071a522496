/- law15: what must come of fixed calls. No condition. -/
import Derived.Test.YtomcmfbpmkklmaaGreatCv
import Derived.Test.YtomcmfbpmkklmaaGreatCo
import Derived.Test.YtomcmfbpmkklmaaGreatGc
namespace Go.Proofs.YtomcmfbpmkklmaaGreat
set_option maxHeartbeats 16000000
set_option linter.unusedSimpArgs false
set_option linter.unusedVariables false
set_option maxRecDepth 20000
open Go Go.Proofs Go.Vc
attribute [local irreducible] y'0 VCg VCw VCx
theorem Zlk:Pure Tryz.prog 78 [] (.agg (unC U16)):=by
 refine Pure.wk (d:= .agg [iD 4,.sl true 1 [[iD 0]],.sl true 1 [[iD 0]],.sl true 1 [[.sl true 7 [[iD 4,iD 0,iD 0,opT,.gs none 0,bD false,iD 0],[iD 22,iD 0,iD 0,.gs none 0,.gs none 0,bD false,iD 0]]]]]) ?_ ?_
 ·refine Fun.of T [.cell 0 25] Tryz.func78 rfl Tryz.ntmps78 Tryz.results78 rfl (by kernel_rfl) ?_
  repeat' first|refine vs T rfl fun K hK=>?_;(try simp (disch:=omega) only[go_sem,Nat.reduceBEq,Nat.reduceAdd,Nat.reduceMul,Nat.reduceLeDiff]);(first|refine hK _ _ ?_;clear hK K|intro bq hbq;(try simp only[HB]at hbq);refine hK _ _ ?_;clear hK K)|refine st rfl ?_|refine nl ?_|exact ZmA T rfl (by(simp (disch:=omega) only[hget_eq])<;>rfl) rfl rfl rfl (z'a _) ⟨rfl,rfl⟩
  all_goals rfl
 ·refine Zpk ?_
  repeat' first|exact Zqi|exact Zo1|exact ZpK|exact Znu|apply Zqr|apply ZoF|apply ZmH
def C15:List Cf:=[Zkt,Zfz]
def g15:Cs:=⟨[0,1,1],[0],[1]⟩
theorem Zqt:spR U16 1 1 9=spC C15 g15 [-1,0] [-1,0]:=by kernel_rfl
theorem Zj9: ∀c,c∈C16→Rt U16 c 2 1:=by
 intro c hc
 have e:c=Zkt∨c=ZpP∨c=Zfz:=by simpa[C16]using hc
 rcases e with rfl|rfl|rfl<;>exact rtK (by kernel_rfl)
def E15:List (List Bool):=[[true,false],[false,true],[false,false]]
theorem ZbJ:Pure Tryz.prog 37 [] (bD true):=by
 have cu:=Zlk
 have okC: ∀c,c∈C16→OkC c:=fun c hc=>(Zj9 c hc).okC
 have a1:Pure Tryz.prog 38 [.agg (unC U16),iD 1,iD 1,iD 9] (.tup [.agg (spC C15 g15 [-1,0] [-1,0]),iD 0]):=by
  have:=ZgD U16 Zea 1 1 9 (by kernel_rfl) (by kernel_rfl) (by decide)
  rwa [Zqt,show x'b U16 1 1 9=0 from by kernel_rfl]at this
 have a2:Pure Tryz.prog 38 [.agg (unC U16),iD 2,iD 1,iD 9] (.tup [.agg (spC C16 g16 [-1,0,1] [-1,0,1]),iD 0]):=by
  have:=ZgD U16 Zea 2 1 9 (by kernel_rfl) (by kernel_rfl) (by decide)
  rwa [Zqp,show x'b U16 2 1 9=0 from by kernel_rfl]at this
 have a3:Pure Tryz.prog 38 [.agg (unC U16),iD 2,iD 1,iD 2] (.tup [sp0,iD 18]):=by
  have:=ZgD U16 Zea 2 1 2 (by kernel_rfl) (by kernel_rfl) (by decide)
  rwa [show D.agg (spR U16 2 1 2)=sp0 from by kernel_rfl,show x'b U16 2 1 2=18 from by kernel_rfl]at this
 have a4:Pure Tryz.prog 38 [.agg (unC U16),iD 2,iD 5,iD 9] (.tup [sp0,iD 1]):=Zjx U16 Zea ((Zj9 Zkt (.head _)).okC) 2 5 9 (by kernel_rfl) (by rw[ZgW Zea (by kernel_rfl)];kernel_rfl)
 have en:Pure Tryz.prog 41 [.agg (unC U16),.agg (spC C16 g16 [-1,0,1] [-1,0,1]),iD 2,iD 1] (.sl false 1 (Zan E15)):=by
  have:=Zfl U16 Zea 2 1 C16 g16 [-1,0,1] [-1,0,1] (by decide) Zj9
  rwa [show C16.map (enR U16 2 1)=E15 from by kernel_rfl]at this
 have j1:Pure Tryz.prog 17 [z'S [-1,0,1],.sl true 1 [[iD (-1)],[iD 0],[iD 1]]] (bD true):=by
  have:=Zbb [-1,0,1] [-1,0,1] (by decide) (by decide)
  rw[decide_eq_true rfl]at this
  exact Fun.argsW this (z'E (Fz.refl _ _) (z'E ZhN w't))
 have j2:Pure Tryz.prog 17 [z'S [2],.sl true 1 [[iD 2]]] (bD true):=by
  have:=Zbb [2] [2] (by decide) (by decide)
  rw[decide_eq_true rfl]at this
  exact Fun.argsW this (z'E (Fz.refl _ _) (z'E ZhN w't))
 have al:Pure Tryz.prog 31 [.agg (csC g16)] (v'p [(0,0,1),(1,1,2)]):=by
  have:=ZlQ g16 ⟨by decide,by decide,by decide⟩
  rwa [show ZfU g16=[(0,0,1),(1,1,2)] from by kernel_rfl]at this
 have se:Pure Tryz.prog 79 [v'p [(0,0,1),(1,1,2)],.sl true 3 [[iD 0,iD 0,iD 1],[iD 1,iD 1,iD 2]]] (bD true):=by
  have:=ZlR [(0,0,1),(1,1,2)] [(0,0,1),(1,1,2)] (by decide) (by decide)
  rw[decide_eq_true rfl]at this
  exact Fun.argsW this (z'E (Fz.refl _ _) (z'E ZhN w't))
 have fi:Pure Tryz.prog 44 [.agg (spC C16 g16 [-1,0,1] [-1,0,1]),.agg (cfC Zfz)] (iD 2):=by
  have:=ZfM C16 g16 [-1,0,1] [-1,0,1] (by decide) okC Zfz (okC _ (.tail _ (.tail _ (.head _))))
  rwa [show plI (w'u C16 Zfz)=2 from by kernel_rfl]at this
 have fn:Pure Tryz.prog 46 [.agg (unC U16),.agg (spC C16 g16 [-1,0,1] [-1,0,1])] (z'S [2]):=by
  have:=Zhv U16 Zea C16 g16 [-1,0,1] [-1,0,1] (by decide) okC
  rwa [show plK (x'8 U16) C16 C16.length=[2] from by kernel_rfl]at this
 have de:Pure Tryz.prog 48 [.agg (unC U16),.agg (spC C16 g16 [-1,0,1] [-1,0,1]),iD 2,iD 1] (z'S []):=by
  have:=Ziv U16 2 1 C16 g16 [-1,0,1] [-1,0,1] (by decide) Zj9
  rwa [show plK (fun c=>v'R U16 c 2 1) C16 C16.length=[] from by kernel_rfl]at this
 have l1:(x'I C15).length=2:=rfl
 have l2:(x'I C16).length=3:=rfl
 have l3:(Zan E15).length=3:=rfl
 have l4:(Zan E15)[1]?=some [v'Q [false,true]]:=rfl
 have l5:(bRs [false,true]).length=2:=rfl
 have l6:(bRs [false,true])[1]?=some [bD true]:=rfl
 have l7:(bRs [false,true])[0]?=some [bD false]:=rfl
 have l8:(x'I C16)[2]?=some (cfC Zfz):=rfl
 have l9:(iRs []).length=0:=rfl
 refine Fun.of T [.tmp 0] Tryz.func37 rfl Tryz.ntmps37 Tryz.results37 rfl (by kernel_rfl) ?_
 repeat' first|refine dr (id:=9) T 61 (by kernel_rfl) ?_|refine gn ?_|(first|apply VCg.step T rfl rfl|apply exF);focus((try simp (disch:=omega) only[go_sem,Nat.reduceBEq,Nat.reduceAdd,Nat.reduceMul,Nat.reduceLeDiff,Int.reduceToNat,l2,l3,l4,l5,l6,l7,l8,Int.toNat_zero,beq_self_eq_true,z'q]);(first|exact rfl|refine⟨?_,rfl⟩;try omega|refine Op1.callp rfl rfl (j1) rfl ?_;exact⟨rfl,rfl⟩|refine Op1.callp rfl rfl (j2) rfl ?_;exact⟨rfl,rfl⟩|refine Op1.callp rfl rfl (al) rfl ?_;exact⟨rfl,rfl⟩|refine Op1.callp rfl rfl (se) rfl ?_;exact⟨rfl,rfl⟩|refine Op1.callp rfl rfl (fi) rfl ?_;exact⟨rfl,rfl⟩|refine Op1.callp rfl rfl (fn) rfl ?_;exact⟨rfl,rfl⟩))|refine VCg.gstep T rfl rfl rfl rfl ?_;try simp only[GB]|refine vs T rfl fun K hK=>?_;(try simp (disch:=omega) only[go_sem,Nat.reduceBEq,Nat.reduceAdd,Nat.reduceLeDiff,Int.reduceToNat,l1,l2,l3,l4,l5,l9,beq_self_eq_true]);(first|refine hK _ _ ?_;clear hK K|intro bq hbq;(try simp only[HB]at hbq);refine hK _ _ ?_;clear hK K|refine⟨?_,hK _ _ ?_⟩<;>clear hK K;focus(try omega)|refine Op1.callp rfl rfl (cu) rfl ?_;refine hK _ _ ?_;clear hK K|refine Op1.callp rfl rfl (a1) rfl ?_;refine hK _ _ ?_;clear hK K|refine Op1.callp rfl rfl (a2) rfl ?_;refine hK _ _ ?_;clear hK K|refine Op1.callp rfl rfl (a3) rfl ?_;refine hK _ _ ?_;clear hK K|refine Op1.callp rfl rfl (a4) rfl ?_;refine hK _ _ ?_;clear hK K|refine Op1.callp rfl rfl (en) rfl ?_;refine hK _ _ ?_;clear hK K|refine Op1.callp rfl rfl (de) rfl ?_;refine hK _ _ ?_;clear hK K)|refine st rfl ?_|refine sc rfl ?_|refine nl ?_|refine gs rfl rfl ?_|exact z'j T (z'a _) ⟨rfl,rfl⟩
theorem ZaM (u:Un) (hu:OkU u) (m r b:Int) (hb:b≤1000):Pure Tryz.prog 38 [.agg (unC u),iD m,iD r,iD b] (.tup [.agg (spR u m r b),iD (x'b u m r b)]):=by
 cases hU:z'8 u with
 |false=>
  have he:x'b u m r b=8:=by simp only[x'b,hU]
  have hsp:spR u m r b=spC [] ⟨[],[],[]⟩ [] []:=by simp only[spR,hU,x'z]
  rw[he,hsp]
  exact ZoI u hu m r b hU
 |true=>
 cases hA:w'i m r b with
 |false=>
  have he:x'b u m r b=1:=by simp only[x'b,hU,hA]
  have hsp:spR u m r b=spC [] ⟨[],[],[]⟩ [] []:=by simp only[spR,hU,hA,w'o]
  rw[he,hsp]
  exact Zjx u hu ((v'l hu hU (m:=1) (r:=1) (by decide) (by decide)).okC) m r b hU (by rw[ZgW hu hU];exact hA)
 |true=>exact ZgD u hu m r b hU hA hb
theorem Zhg (u:Un) (hu:OkU u) (m r b:Int) (hb:b≤1000):Pure Tryz.prog 16 [.agg (unC u),iD m,iD r,iD b] (.tup [.agg (spR u m r b),iD (x'b u m r b)]):=by
 cases hU:z'8 u with
 |false=>exact Zm4 u hu m r b hU
 |true=>
 cases hA:w'i m r b with
 |false=>exact Zmd u hu m r b hU hA
 |true=>exact ZnP u hu m r b hU hA hb
theorem Zds {u:Un} {m r b:Int} (he:x'b u m r b=0): ∃S,z'8 u=true∧w'i m r b=true∧w'h u m r b=some S∧spR u m r b=spA S:=by
 cases hU:z'8 u with
 |false=>simp[x'b,hU]at he
 |true=>
 cases hA:w'i m r b with
 |false=>simp[x'b,hU,hA]at he
 |true=>
 cases hS:w'h u m r b with
 |none=>simp[x'b,hU,hA,hS]at he
 |some S=>exact⟨S,rfl,rfl,rfl,by simp only[spR,hU,hA,hS,w'C]⟩
theorem ZeC {u:Un} {m r b:Int} (he:x'b u m r b≠0):spR u m r b=spC [] ⟨[],[],[]⟩ [] []:=by
 cases hU:z'8 u with
 |false=>simp only[spR,hU,x'z]
 |true=>
 cases hA:w'i m r b with
 |false=>simp only[spR,hU,hA,w'o]
 |true=>
 cases hS:w'h u m r b with
 |none=>simp only[spR,hU,hA,hS,w'C]
 |some S=>simp[x'b,hU,hA,hS]at he
theorem ZiH (u:Un) (m r b:Int): ∃C g P B,spR u m r b=spC C g P B:=by
 by_cases he:x'b u m r b=0
 ·obtain⟨S,hU,hA,hS,e⟩:=Zds he
  exact⟨_,_,_,_,e⟩
 ·exact⟨_,_,_,_,ZeC he⟩
theorem Zjj {u:Un} (hu:OkU u) {m r b:Int} {S:Spc Cf} (hU:z'8 u=true) (hA:w'i m r b=true) (hS:w'h u m r b=some S) (hb:b≤1000):Pure Tryz.prog 39 [.agg (spA S),.agg (spA S)] (bD true):=by
 simp only[w'i,z'h,decide_eq_true_eq]at hA
 have hT:=ZgN hS hA.2.2.1 (by omega)
 exact Zgi S.cf (v'z S) S.pa S.ag hT.len (fun c hc=>(Zfd hS hA.2.2.1 (v'l hu hU hA.1 hA.2.1) c hc).okC) (Zix hS hA.2.2.1 hb) (by rw[hT.pl];exact hT.len) (by rw[hT.bl];exact hT.len)
theorem ZlH (u:Un) (hu:OkU u) (m r b:Int) (hb:b≤1000):Pure Tryz.prog 39 [.agg (spR u m r b),.agg (spR u m r b)] (bD true):=by
 by_cases he:x'b u m r b=0
 ·obtain⟨S,hU,hA,hS,e⟩:=Zds he
  rw[e]
  exact Zjj hu hU hA hS hb
 ·rw[ZeC he]
  exact Zgi [] ⟨[],[],[]⟩ [] [] (by decide) (fun c hc=>absurd hc (by simp)) ⟨by decide,by decide,by decide⟩ (by decide) (by decide)
theorem ZbL (u:Un) (m r b:Int):Pure Tryz.prog 36 [.agg (Zef u m r b)] (bD (w'Z u&&decide (b≤150))):=by
 have cl:=Zlx u
 refine Fun.of T [.tmp 2] Tryz.func36 rfl Tryz.ntmps36 Tryz.results36 rfl (by kernel_rfl) ?_
 cases hL:w'Z u<;>rw[hL]at cl
 all_goals repeat' first|refine vb (t:=27) rfl rfl rfl rfl ?_|refine vs T rfl fun K hK=>?_;(try simp (disch:=omega) only[go_sem,Nat.reduceBEq,Nat.reduceAdd,Nat.reduceLeDiff]);(first|refine hK _ _ ?_;clear hK K|refine Op1.callp rfl rfl (cl) rfl ?_;refine hK _ _ ?_;clear hK K)|refine st rfl ?_|refine nl ?_|refine gs rfl rfl ?_|exact z'j T (z'a _) ⟨rfl,rfl⟩
theorem Zpf (u:Un) (m r b:Int):Pure Tryz.prog 7 [.agg (Zef u m r b)] (bD true):=by
 have cl:=ZbL u m r b
 have ck:=ZbJ
 refine Fun.of T [.tmp 2] Tryz.func7 rfl Tryz.ntmps7 Tryz.results7 rfl (by kernel_rfl) ?_
 cases hL:w'Z u&&decide (b≤150)with
 |false=>
  rw[hL]at cl
  repeat' first|refine vb (t:=27) rfl rfl rfl rfl ?_|refine vs T rfl fun K hK=>?_;(try simp (disch:=omega) only[go_sem,Nat.reduceBEq,Nat.reduceAdd,Nat.reduceLeDiff,z'q]);(first|refine hK _ _ ?_;clear hK K|refine Op1.callp rfl rfl (cl) rfl ?_;refine hK _ _ ?_;clear hK K|refine Op1.callp rfl rfl (ck) rfl ?_;refine hK _ _ ?_;clear hK K)|refine st rfl ?_|refine sc rfl ?_|refine nl ?_|exact z'j T (z'a _) ⟨rfl,rfl⟩
 |true=>
 rw[hL]at cl
 simp only[z'h,decide_eq_true_eq]at hL
 have hu:=ZaT hL.1
 have c1:=ZaM u hu m r b (by omega)
 have c2:=Zhg u hu m r b (by omega)
 have c3:=ZlH u hu m r b (by omega)
 obtain⟨C,g,P,B,hx⟩:=ZiH u m r b
 rw[hx]at c1 c2 c3
 generalize x'b u m r b=e at*
 repeat' first|refine vb (t:=27) rfl rfl rfl rfl ?_|refine vs T rfl fun K hK=>?_;(try simp (disch:=omega) only[go_sem,Nat.reduceBEq,Nat.reduceAdd,Nat.reduceLeDiff,z'i,beq_self_eq_true]);(first|refine hK _ _ ?_;clear hK K|intro bq hbq;(try simp only[HB]at hbq);refine hK _ _ ?_;clear hK K|refine Op1.callp rfl rfl (cl) rfl ?_;refine hK _ _ ?_;clear hK K|refine Op1.callp rfl rfl (ck) rfl ?_;refine hK _ _ ?_;clear hK K|refine Op1.callp rfl rfl (c1) rfl ?_;refine hK _ _ ?_;clear hK K|refine Op1.callp rfl rfl (c2) rfl ?_;refine hK _ _ ?_;clear hK K|refine Op1.callp rfl rfl (c3) rfl ?_;refine hK _ _ ?_;clear hK K)|refine st rfl ?_|refine sc rfl ?_|refine nl ?_|refine gs rfl rfl ?_|exact z'j T (z'a _) ⟨rfl,rfl⟩
theorem ZnX {u:Un} {m r b:Int} (hU:z'8 u=true) (hA:w'i m r b=true) (hS:w'h u m r b=none):x'b u m r b=18:=by simp only[x'b,hU,hA,hS]
theorem Zmb {u:Un} {m r b:Int} (hU:z'8 u=true) (hA:w'i m r b=false):x'b u m r b=1:=by simp only[x'b,hU,hA]
theorem ZfI {u:Un} {m r b:Int} {S:Spc Cf} (hU:z'8 u=true) (hA:w'i m r b=true) (hS:w'h u m r b=some S):x'b u m r b=0∧spR u m r b=spA S:=⟨by simp only[x'b,hU,hA,hS],by simp only[spR,hU,hA,hS,w'C]⟩
theorem ZlJ (u:Un) (m r b:Int):Pure Tryz.prog 10 [.agg (Zef u m r b)] (bD true):=by
 have cl:=ZbL u m r b
 have ck:=ZbJ
 refine Fun.of T [.tmp 2] Tryz.func10 rfl Tryz.ntmps10 Tryz.results10 rfl (by kernel_rfl) ?_
 cases hL:w'Z u&&decide (b≤150)with
 |false=>
  rw[hL]at cl
  repeat' first|refine vb (t:=27) rfl rfl rfl rfl ?_|refine vs T rfl fun K hK=>?_;(try simp (disch:=omega) only[go_sem,Nat.reduceBEq,Nat.reduceAdd,Nat.reduceLeDiff,z'q]);(first|refine hK _ _ ?_;clear hK K|refine Op1.callp rfl rfl (cl) rfl ?_;refine hK _ _ ?_;clear hK K|refine Op1.callp rfl rfl (ck) rfl ?_;refine hK _ _ ?_;clear hK K)|refine st rfl ?_|refine sc rfl ?_|refine nl ?_|exact z'j T (z'a _) ⟨rfl,rfl⟩
 |true=>
 rw[hL]at cl
 simp only[z'h,decide_eq_true_eq]at hL
 have hu:=ZaT hL.1
 have c1:=ZaM u hu m r b (by omega)
 by_cases he:x'b u m r b=0
 case neg=>
  have e1:(x'b u m r b != 0)=true:=by simp[he]
  obtain⟨C,g,P,B,hx⟩:=ZiH u m r b
  rw[hx]at c1
  generalize x'b u m r b=e at*
  repeat' first|refine vb (t:=27) rfl rfl rfl rfl ?_|refine vs T rfl fun K hK=>?_;(try simp (disch:=omega) only[go_sem,Nat.reduceBEq,Nat.reduceAdd,Nat.reduceLeDiff,z'i,e1]);(first|refine hK _ _ ?_;clear hK K|intro bq hbq;(try simp only[HB]at hbq);refine hK _ _ ?_;clear hK K|refine Op1.callp rfl rfl (cl) rfl ?_;refine hK _ _ ?_;clear hK K|refine Op1.callp rfl rfl (ck) rfl ?_;refine hK _ _ ?_;clear hK K|refine Op1.callp rfl rfl (c1) rfl ?_;refine hK _ _ ?_;clear hK K)|refine st rfl ?_|refine sc rfl ?_|refine nl ?_|exact z'j T (z'a _) ⟨rfl,rfl⟩
 obtain⟨S,hU,hA,hS,hsp⟩:=Zds he
 rw[he,hsp]at c1
 have hA':=hA
 simp only[w'i,z'h,decide_eq_true_eq]at hA'
 obtain⟨hn1,hn2,hmore,hless⟩:=ZaL (show Zc1 _ _ _ _=some S from hS) (by omega)
 have hm2: ∀b':Int,(S.cf.length:Int)≤b'→w'h u m r b'=some S:=fun b' h=>hmore b'.toNat (by omega)
 have hl2: ∀b':Int,b'<S.cf.length→1≤b'→w'h u m r b'=none:=fun b' h h1=>hless b'.toNat (by omega) (by omega)
 have hAb: ∀b':Int,1≤b'→b'≤1000→w'i m r b'=true:=fun b' h h1=>by
  simp only[w'i,z'h,decide_eq_true_eq]
  exact⟨hA'.1,hA'.2.1,h,by omega⟩
 have cs:=Zjj hu hU hA hS (by omega)
 have c2:=ZaM u hu m r (b+7) (by omega)
 obtain⟨q1,q2⟩:=ZfI hU (hAb (b+7) (by omega) (by omega)) (hm2 (b+7) (by omega))
 rw[q1,q2]at c2
 have c3:=ZaM u hu m r (S.cf.length:Nat) (by omega)
 obtain⟨q1,q2⟩:=ZfI hU (hAb (S.cf.length:Nat) (by omega) (by omega)) (hm2 (S.cf.length:Nat) (by omega))
 rw[q1,q2]at c3
 have c4:=ZaM u hu m r ((S.cf.length:Int)-1) (by omega)
 have w1:IntKind.i64.wrap (b+7)=b+7:=w64 (by omega)
 have w2:IntKind.i64.wrap ((S.cf.length:Int)-1)=(S.cf.length:Int)-1:=w64 (by omega)
 by_cases h1:S.cf.length=1
 ·have e4:x'b u m r ((S.cf.length:Int)-1)=1:=Zmb hU (by
   rw[h1]
   simp[w'i])
  rw[e4,ZeC (by omega)]at c4
  have d1:decide ((S.cf.length:Int)>1)=false:=decide_eq_false (by omega)
  have d2:((S.cf.length:Int) == 1)=true:=by simp[h1]
  repeat' first|refine vb (t:=27) rfl rfl rfl rfl ?_|refine vs T rfl fun K hK=>?_;(try simp (disch:=omega) only[go_sem,Nat.reduceBEq,Nat.reduceAdd,Nat.reduceLeDiff,z'i,bne_self_eq_false,beq_self_eq_true,y'M,w1,w2,d1,d2]);(first|refine hK _ _ ?_;clear hK K|intro bq hbq;(try simp only[HB]at hbq);refine hK _ _ ?_;clear hK K|refine Op1.callp rfl rfl (cl) rfl ?_;refine hK _ _ ?_;clear hK K|refine Op1.callp rfl rfl (ck) rfl ?_;refine hK _ _ ?_;clear hK K|refine Op1.callp rfl rfl (c1) rfl ?_;refine hK _ _ ?_;clear hK K|refine Op1.callp rfl rfl (c2) rfl ?_;refine hK _ _ ?_;clear hK K|refine Op1.callp rfl rfl (c3) rfl ?_;refine hK _ _ ?_;clear hK K|refine Op1.callp rfl rfl (c4) rfl ?_;refine hK _ _ ?_;clear hK K|refine Op1.callp rfl rfl (cs) rfl ?_;refine hK _ _ ?_;clear hK K)|refine st rfl ?_|refine sc rfl ?_|refine nl ?_|refine gs rfl rfl ?_|exact z'j T (z'a _) ⟨rfl,rfl⟩
 ·have e4:x'b u m r ((S.cf.length:Int)-1)=18:=ZnX hU (hAb _ (by omega) (by omega)) (hl2 _ (by omega) (by omega))
  rw[e4,ZeC (by omega)]at c4
  have d1:decide ((S.cf.length:Int)>1)=true:=decide_eq_true (by omega)
  repeat' first|refine vb (t:=27) rfl rfl rfl rfl ?_|refine vs T rfl fun K hK=>?_;(try simp (disch:=omega) only[go_sem,Nat.reduceBEq,Nat.reduceAdd,Nat.reduceLeDiff,z'i,bne_self_eq_false,beq_self_eq_true,y'M,w1,w2,d1]);(first|refine hK _ _ ?_;clear hK K|intro bq hbq;(try simp only[HB]at hbq);refine hK _ _ ?_;clear hK K|refine Op1.callp rfl rfl (cl) rfl ?_;refine hK _ _ ?_;clear hK K|refine Op1.callp rfl rfl (ck) rfl ?_;refine hK _ _ ?_;clear hK K|refine Op1.callp rfl rfl (c1) rfl ?_;refine hK _ _ ?_;clear hK K|refine Op1.callp rfl rfl (c2) rfl ?_;refine hK _ _ ?_;clear hK K|refine Op1.callp rfl rfl (c3) rfl ?_;refine hK _ _ ?_;clear hK K|refine Op1.callp rfl rfl (c4) rfl ?_;refine hK _ _ ?_;clear hK K|refine Op1.callp rfl rfl (cs) rfl ?_;refine hK _ _ ?_;clear hK K)|refine st rfl ?_|refine sc rfl ?_|refine nl ?_|refine gs rfl rfl ?_|refine gu rfl rfl ?_|exact z'j T (z'a _) ⟨rfl,rfl⟩
end Go.Proofs.YtomcmfbpmkklmaaGreat
