/- The law WitnessFound. No condition. -/
import Derived.Test.YtfneeacgkdhldaaGreatJh
import Derived.Test.YtfneeacgkdhldaaGreatCv
import Derived.Test.YtfneeacgkdhldaaGreatSp
namespace Go.Proofs.YtfneeacgkdhldaaGreat
set_option maxHeartbeats 16000000
set_option linter.unusedSimpArgs false
set_option linter.unusedVariables false
set_option maxRecDepth 20000
open Go Go.Proofs Go.Vc
attribute [local irreducible] y'5 VCg VCw VCx
section
variable {u : Un} {m r b : Int} {S : Spc Cf}
abbrev Zhb (u:Un) (m r:Int) (S:Spc Cf):List (List Bool):=S.cf.map (enR u m r)
theorem ZpV {a:Nat} {i:Int}:enA (Zhb u m r S) a i=enS u m r S i a:=rfl
theorem ZlD (h:v'k u m r b=some S) (hb:1≤b) (hb2:b≤1000):Zau (v'A S) (Zhb u m r S) (y'C u m).length:=by
 have hbud:=(ZaS (show Zdm _ _ _ _=some S from h) (by omega)).2.1
 have hal:=v'd u m
 refine⟨Zmd h hb hb2,x'G.2 (Zd0 (Zev h hb)),by rw[ZfG h hb,z's],⟨by rw[z's];omega,fun row hr=>?_,by omega⟩,fun e he=>?_⟩
 ·obtain⟨c,_,rfl⟩:=z'y.1 hr
  exact ZiW u m r c
 ·obtain⟨p,q,c,e1,e2,h2,h3,h4⟩:=Zhx h hb he
  have hbd:=ZhS h3
  refine⟨hbd.2,?_⟩
  rw[ZpV,e1,ZkF h2 (by omega),Int.toNat_of_nonneg hbd.1]
  exact Zfc h3
theorem Zmg {g:Cs} {en:List (List Bool)} {part:List Int} (hp:InR en part) {e:Ed} (h:e∈x'M g (wiF en.length part)) (h0:0≤e.1):e∈x'S g∧e.1∈part:=by
 simp only[x'M,y'x,z'i]at h
 refine⟨h.1,?_⟩
 have hb:=h.2.1
 unfold isB at hb
 rw[z'i,decide_eq_true_eq,w'0]at hb
 rw[ZcA (by omega),Int.toNat_of_nonneg h0]at hb
 exact of_decide_eq_true hb.2
theorem ZnU (hu:OkU u) (hU:y't u=true) (hA:Zal m r b=true) (h:v'k u m r b=some S) (hb2:b≤1000) {md:Int} {part w:List Int} (hC:CyP (v'A S) (Zhb u m r S) (y'C u m).length md part w):Zc3 u m r md (toI S.cf.length S.pa S.ag (v'i part)) w=true:=by
 have hA':=hA
 simp only[Zal,z'i,decide_eq_true_eq]at hA'
 have hb:=hA'.2.2.1
 have hT:=ZlD h hb hb2
 obtain⟨hG,es,rfl,hch,hsub,hcov⟩:=hC
 have hx:v'i part∈part:=Zdz hG.ne _ (z'w _)
 have hxb:=hG.inr.2 _ hx
 rw[z's]at hxb
 have hok:=(ZaG (x'G.1 hT.right)).1
 have hall: ∀e,e∈es→e∈x'S (v'A S):=fun e he=>by
  have:=hsub e he
  simp only[x'M,y'x]at this
  exact this.1
 have hin: ∀e,e∈es→e.1∈part:=fun e he=>(Zmg hG.inr (hsub e he) (hok e (hall e he)).1).2
 have hne:es≠[]:=by
  rintro rfl
  have hf:=hG.fair
  unfold Zaq at hf
  rw[z'i]at hf
  have hcy:=hf.2
  unfold Ze4 at hcy
  obtain⟨e,he,hc⟩:=List.any_eq_true.1 hcy
  unfold Zcg at hc
  simp only[z'i,decide_eq_true_eq]at hc
  obtain⟨p,q,c,e1,e2,h2,h3,h4⟩:=Zhx h hb he
  have hbd:=ZhS h3
  have:=(hcov e.2.1.toNat (by omega)).1 (Zhm.2 ⟨e,he,by rw[Int.toNat_of_nonneg hbd.1],hc.1,hc.2⟩)
  simp[agE]at this
 generalize v'i part=x at*
 obtain⟨x,rfl⟩: ∃k:Nat,x=(k:Int):=⟨x.toNat,by omega⟩
 refine ZpZ hu hU hA h hG.mode (by omega) hch hall hne fun a ha=>?_
 cases hAc:v'j (v'A S) part (a:Nat)with
 |true=>exact .inl ((hcov a ha).1 hAc)
 |false=>
  refine .inr ⟨fun h1=>?_,fun h2 e he=>?_⟩
  ·obtain⟨i,hi,hv⟩:=(hcov a ha).2 hAc h1
   obtain⟨e,he,rfl⟩:=ZlX hch hne hv
   exact⟨e,he,hi⟩
  ·exact(ZiX hG.fair ha hAc).2 h2 _ (hin e he)
theorem Zo4 (hU:y't u=true) (hA:Zal m r b=true) (h:v'k u m r b=some S) (hb2:b≤1000) {k:Nat} {c:Cf} (hc:S.cf[k]?=some c):ZeH u m r (toI S.cf.length S.pa S.ag (k:Int))=Zdr u c m r:=by
 have hA':=hA
 simp only[Zal,z'i,decide_eq_true_eq]at hA'
 have hto:=(ZlH h hA'.2.2.1 (by omega) k c hc).1
 have hM:Zb3 m r=true:=by
  unfold Zb3
  rw[decide_eq_true hA'.1.1,decide_eq_true hA'.1.2,decide_eq_true hA'.2.1.1,decide_eq_true hA'.2.1.2]
  rfl
 have hrep:x'5 u m r (toI S.cf.length S.pa S.ag (k:Int))=(c,(toF S.pa S.ag k).length,0):=by
  rw[Zjq (z'c.1 hc).1]
  unfold x'5
  rw[hU,hM]
  exact hto
 unfold ZeH
 rw[hrep]
 rfl
end
theorem Zmi (u:Un) (m r b:Int) (sg:Bool):Pure Tryz.prog 3 [.agg (Zo0 u m r b),bD sg] (bD true):=by
 have cl:=ZlI u
 have ck:=ZjX
 refine Fun.of T [.tmp 4] Tryz.func3 rfl Tryz.ntmps3 Tryz.results3 rfl (by kernel_rfl) ?_
 cases hL:Zag u with
 |false=>
  rw[hL]at cl
  repeat' first|refine vb (t:=27) rfl rfl rfl rfl ?_|refine vs T rfl fun K hK=>?_;(try simp (disch:=omega) only[go_sem,Nat.reduceBEq,Nat.reduceAdd,Nat.reduceLeDiff,z'r]);(first|refine hK _ _ ?_;clear hK K|refine Op1.callp rfl rfl (cl) rfl ?_;refine hK _ _ ?_;clear hK K|refine Op1.callp rfl rfl (ck) rfl ?_;refine hK _ _ ?_;clear hK K)|refine st rfl ?_|refine sc rfl ?_|refine nl ?_|refine gs rfl rfl ?_|exact z'n T (z'a _) ⟨rfl,rfl⟩
 |true=>
 rw[hL]at cl
 have hu:=ZcJ hL
 by_cases hb:b≤100
 case neg=>
  have d1:decide (b>100)=true:=decide_eq_true (by omega)
  repeat' first|refine vb (t:=27) rfl rfl rfl rfl ?_|refine vs T rfl fun K hK=>?_;(try simp (disch:=omega) only[go_sem,Nat.reduceBEq,Nat.reduceAdd,Nat.reduceLeDiff,z'l,d1]);(first|refine hK _ _ ?_;clear hK K|refine Op1.callp rfl rfl (cl) rfl ?_;refine hK _ _ ?_;clear hK K|refine Op1.callp rfl rfl (ck) rfl ?_;refine hK _ _ ?_;clear hK K)|refine st rfl ?_|refine sc rfl ?_|refine nl ?_|refine gs rfl rfl ?_|exact z'n T (z'a _) ⟨rfl,rfl⟩
 have d1:decide (b>100)=false:=decide_eq_false (by omega)
 have c1:=Zlg u hu m r b (by omega)
 by_cases he:v'5 u m r b=0
 case neg=>
  have e1:(v'5 u m r b != 0)=true:=by simp[he]
  obtain⟨C,g,P,B,hx⟩:=ZpJ u m r b
  rw[hx]at c1
  generalize v'5 u m r b=e at*
  repeat' first|refine vb (t:=27) rfl rfl rfl rfl ?_|refine vs T rfl fun K hK=>?_;(try simp (disch:=omega) only[go_sem,Nat.reduceBEq,Nat.reduceAdd,Nat.reduceLeDiff,z'l,d1,e1]);(first|refine hK _ _ ?_;clear hK K|intro bq hbq;(try simp only[HB]at hbq);refine hK _ _ ?_;clear hK K|refine Op1.callp rfl rfl (cl) rfl ?_;refine hK _ _ ?_;clear hK K|refine Op1.callp rfl rfl (ck) rfl ?_;refine hK _ _ ?_;clear hK K|refine Op1.callp rfl rfl (c1) rfl ?_;refine hK _ _ ?_;clear hK K)|refine st rfl ?_|refine sc rfl ?_|refine nl ?_|refine gs rfl rfl ?_|exact z'n T (z'a _) ⟨rfl,rfl⟩
 obtain⟨S,hU,hA,hS,hsp⟩:=Zlx he
 rw[he,hsp]at c1
 have hA':=hA
 simp only[Zal,z'i,decide_eq_true_eq]at hA'
 have hb1:=hA'.2.2.1
 have hT:=ZiO hS hb1 (by omega)
 have hrt:=Znr hS hb1 (ZbP hu hU hA'.1 hA'.2.1)
 have hbud:=(ZaS (show Zdm _ _ _ _=some S from hS) (by omega)).2.1
 have hTab:=ZlD hS hb1 (by omega)
 have c2:=ZiF u hu m r S.cf (v'A S) S.pa S.ag (by omega) hrt
 have c3:=Zb8 u hu m
 have c4:=ZkI hTab
 have c5:=fun md (q:List Int) (hq:q.length≤1000000)=>Zk3 (md:=md) hTab hq S.cf S.pa S.ag hT (by omega)
 have hlas:=fun md (q w:List Int) (hC:CyP (v'A S) (Zhb u m r S) (y'C u m).length md q w)=>ZnU hu hU hA hS (by omega) hC
 have hdead:=fun k c (hc:S.cf[k]?=some c)=>Zo4 hU hA hS (by omega) hc
 rw[show spA S=spC S.cf (v'A S) S.pa S.ag from rfl]at c1
 have hto:=fun(i:Int)=>Zlt S.cf (v'A S) S.pa S.ag hT i
 cases sg
 all_goals
  repeat' first|refine vb (t:=27) rfl rfl rfl rfl ?_|refine VC.drawS (id:=11) (by kernel_rfl) ?_|refine VCd.group T (s:=0) 10 17 rfl rfl (by kernel_rfl) (by kernel_rfl) (by kernel_rfl) ?_;(try simp only[y'o,Nat.reduceSub])|refine VCg.nil T ?_;simp only[y'4,WB]|(apply VCg.step T rfl rfl);focus((try simp (disch:=omega) only[go_sem,Nat.reduceBEq,Nat.reduceAdd,Nat.reduceLeDiff]);(exact rfl))|refine VCg.ownx T rfl rfl rfl rfl (c4 1) rfl ?_|refine VCg.ownx T rfl rfl rfl rfl (c4 2) rfl ?_|refine vs T rfl fun K hK=>?_;(try simp (disch:=omega) only[go_sem,Nat.reduceBEq,Nat.reduceAdd,Nat.reduceLeDiff,z'l,bne_self_eq_false,d1]);(first|refine hK _ _ ?_;clear hK K|intro bq hbq;(try simp only[HB]at hbq);refine hK _ _ ?_;clear hK K|refine Op1.callp rfl rfl (cl) rfl ?_;refine hK _ _ ?_;clear hK K|refine Op1.callp rfl rfl (c1) rfl ?_;refine hK _ _ ?_;clear hK K|refine Op1.callp rfl rfl (c2) rfl ?_;refine hK _ _ ?_;clear hK K|refine Op1.callp rfl rfl (c3) rfl ?_;refine hK _ _ ?_;clear hK K)|refine st rfl ?_|refine sc rfl ?_|refine nl ?_|refine gs rfl rfl ?_
  rintro _ _ ⟨q,hq,rfl,rfl⟩ hap
  repeat' first|refine VCd.group T (s:=10) 11 17 rfl rfl (by kernel_rfl) (by kernel_rfl) (by kernel_rfl) ?_;(try simp only[y'I,y'o,Nat.reduceSub])|refine VCg.nil T ?_;simp only[y'4,WB]|refine VCg.ownx T rfl rfl rfl rfl (c5 _ q hq) rfl ?_
  rintro _ _ ⟨⟨p,w,is⟩,hM,rfl,rfl⟩ hap
  obtain⟨hM1,hM2,hM3⟩:=hM
  dsimp only at hM1 hM2 hM3⊢
  have c6:=fun md=>ZeJ u hu m r md p w hM1 hM2
  have h6:is=true→Zc3 u m r _ p w=true:=fun h=>by
   obtain⟨e1,e2⟩:=hM3 h
   rw[e1]
   exact hlas _ _ _ e2
  have c7:=c6 1
  have c8:=c6 2
  cases is
  case' false=>
   repeat' first|refine VCd.tail (f:=17) (by kernel_rfl) ?_;(try simp only[y'I,y'o])|refine VCd.group T (s:=11) 17 17 rfl rfl (by kernel_rfl) (by kernel_rfl) (by kernel_rfl) ?_;(try simp only[y'I,y'o,Nat.reduceSub])|refine gn ?_|(apply VCg.step T rfl rfl);focus((try simp (disch:=omega) only[go_sem,Nat.reduceBEq]);(exact rfl))|refine vs T rfl fun K hK=>?_;(try simp (disch:=omega) only[go_sem,Nat.reduceBEq]);(refine hK _ _ ?_;clear hK K)|refine st rfl ?_|refine sc rfl ?_|refine nl ?_|refine gs rfl rfl ?_|refine ov ?_
  case' true=>
   have h7:=h6 rfl
   first|rw[h7]at c7|rw[h7]at c8
   repeat' first|refine VCd.tail (f:=17) (by kernel_rfl) ?_;(try simp only[y'I,y'o])|refine VCd.group T (s:=11) 17 17 rfl rfl (by kernel_rfl) (by kernel_rfl) (by kernel_rfl) ?_;(try simp only[y'I,y'o,Nat.reduceSub])|refine gn ?_|(apply VCg.step T rfl rfl);focus((try simp (disch:=omega) only[go_sem,Nat.reduceBEq]);(exact rfl))|refine vs T rfl fun K hK=>?_;(try simp (disch:=omega) only[go_sem,Nat.reduceBEq,Nat.reduceAdd,Nat.reduceLeDiff,z'l]);(first|refine hK _ _ ?_;clear hK K|refine Op1.callp rfl rfl (c7) rfl ?_;refine hK _ _ ?_;clear hK K|refine Op1.callp rfl rfl (c8) rfl ?_;refine hK _ _ ?_;clear hK K)|refine st rfl ?_|refine sc rfl ?_|refine nl ?_|refine gs rfl rfl ?_|refine ov ?_
 all_goals
  refine VC.loop {k:Nat//k≤S.cf.length} (fun x=>⟨z'J [(2,.pt (Zo0 u m r b)),(5,pD bq),(13,iD (x.1:Nat))],[(bq,.cells 34 6 (spC S.cf (v'A S) S.pa S.ag))]⟩) (fun x=>S.cf.length-x.1) ⟨0,z'M _⟩ ?_ ?_
  ·refine z'v rfl ?_
   simp[sub,upd]
  rintro⟨k,hk⟩
  dsimp only
  rcases z'g k S.cf.length with hlt|hge
  ·obtain⟨c,hc⟩: ∃c,S.cf[k]?=some c:=⟨_,z'b hlt⟩
   have hx:S.cf.getD k default=c:=by rw[z'e,hc];rfl
   have c9:=hto (k:Nat)
   have c10:=Zfp u hu m r (toI S.cf.length S.pa S.ag (k:Nat)) (by
    rw[Zjq hlt]
    have:=Zgq hT k hlt
    omega)
   rw[hdead k c hc]at c10
   have c11:=ZmP (hrt c (z'h hc))
   repeat' first|refine dr (id:=18) T 19 (by kernel_rfl) ?_|refine gn ?_|(first|apply VCg.step T rfl rfl|apply exF);focus((try simp (disch:=omega) only[go_sem,Nat.reduceBEq,Nat.reduceAdd,Nat.reduceLeDiff,ZfJ,hx,z'f]);(first|exact rfl|refine⟨?_,rfl⟩;try omega|refine Op1.callp rfl rfl (c10) rfl ?_;exact⟨rfl,rfl⟩))|refine vs T rfl fun K hK=>?_;(try simp (disch:=omega) only[go_sem,Nat.reduceBEq,Nat.reduceAdd,Nat.reduceLeDiff,w'S,bne_self_eq_false,w64]);(first|refine hK _ _ ?_;clear hK K|refine Op1.callp rfl rfl (c9) rfl ?_;refine hK _ _ ?_;clear hK K|refine Op1.callp rfl rfl (c11) rfl ?_;refine hK _ _ ?_;clear hK K)|refine st rfl ?_|refine sc rfl ?_|refine nl ?_|with_reducible refine z'j (fun hc=>?_) (fun hc=>?_)<;>(try simp only[decide_eq_true_eq,decide_eq_false_iff_not,z'm]at hc)<;>(try(exfalso;omega))
   refine⟨⟨k+1,hlt⟩,z'v rfl ?_,by dsimp only;omega⟩
   simp[sub,upd]
  obtain rfl:k=S.cf.length:=by omega
  repeat' first|refine vs T rfl fun K hK=>?_;(try simp (disch:=omega) only[go_sem,Nat.reduceBEq,w'S]);(first|refine hK _ _ ?_;clear hK K|refine Op1.callp rfl rfl (ck) rfl ?_;refine hK _ _ ?_;clear hK K)|refine st rfl ?_|refine sc rfl ?_|refine nl ?_|exact z'n T (z'a _) ⟨rfl,rfl⟩|with_reducible refine z'j (fun hc=>?_) (fun hc=>?_)<;>(try simp only[decide_eq_true_eq,decide_eq_false_iff_not,z'm]at hc)<;>(try(exfalso;omega))
end Go.Proofs.YtfneeacgkdhldaaGreat
