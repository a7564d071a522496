/- Contracts: code's value, as the reference says. No condition. -/
import Derived.Test.YtomcmfbpmkklmaaGreatYc
import Derived.Test.YtomcmfbpmkklmaaGreatXk
import Derived.Test.YtomcmfbpmkklmaaGreatK2
namespace Go.Proofs.YtomcmfbpmkklmaaGreat
set_option maxHeartbeats 16000000
set_option linter.unusedSimpArgs false
set_option linter.unusedVariables false
set_option maxRecDepth 20000
open Go Go.Proofs Go.Vc
attribute [local irreducible] y'0 VCg VCw VCx
theorem Weak.cutC {env:Nat→D} {b n:Nat} {e:TypeId} {k:Nat} {l:List Int} {X:Heap}:Weak ⟨env,(b,.cells e n (l.map iD))::X⟩ ⟨env,(b,.cells e n ((l.take k).map iD))::X⟩:=fun x a w h=>by
 have hlv:live ((b,HC.cells e n ((l.take k).map iD))::X) x.L0=live ((b,HC.cells e n (l.map iD))::X) x.L0:=rfl
 refine{env:=fun t=>by rw[hlv];exact h.env t,inv:=?_,evo:=?_,defers:=h.defers,size:=h.size}
 ·refine{rel:=fun b' c hm=>?_,nodup:=h.inv.nodup,apart:=h.inv.apart,old:=h.inv.old}
  rw[hlv]
  rcases z'L.1 hm with hm|hm
  ·cases hm
   rw[List.map_take]
   exact HRel.cut (h.inv.rel b _ (z'C ..))
  ·exact h.inv.rel b' c (z'e _ hm)
 ·exact⟨h.evo.os,h.evo.tape,h.evo.output,h.evo.size,h.evo.block,h.evo.fresh⟩
def Zde (l:List Opc) (md:Int) (own:List Int) (all:List (List Int)) (mem:List Int):D:= .tup [iD (Zdo l md own all mem),bD (v'9 l md own all mem)]
theorem ZaX {l:List Opc} {md:Int} {own mem:List Int} {all:List (List Int)} (h:v'9 l md own all mem=false):Zde l md own all mem= .tup [iD 0,bD false]:=by simp[Zde,Zdo,h]
structure OkV (l:List Opc) (own:List Int) (all:List (List Int)) (mem:List Int):Prop where
 kl:l.length≤1000
 ko:own.length≤1000
 km:mem.length≤1000
 ka:all.length≤1000
 kr: ∀r,r∈all→r.length≤1000
theorem Zgb {all:List (List Int)} {k:Nat} {r:List Int} (h:all[k]?=some r):(x'R (all.take (k+1))).map iD=(x'R (all.take k)).map iD++[iD (r.length:Nat)]:=by
 rw[y'b,h]
 simp[x'R]
theorem Zap (all:List (List Int)):(x'R all).length=all.length:=z'p ..
theorem Zlj (l:List Opc) (md:Int) (own:List Int) (all:List (List Int)) (mem:List Int) (hk:OkV l own all mem):Pure Tryz.prog 164 [z'R l,iD md,z'S own,.sl false 1 (x'j all),z'S mem] (Zde l md own all mem):=by
 have kl:=hk.kl
 have ko:=hk.ko
 have km:=hk.km
 have ka:=hk.ka
 have c1:=Zb2 own (by omega) md
 have c2:=Zb2 mem (by omega) md
 refine Fun.of T [.tmp 10,.tmp 11] Tryz.func164 rfl Tryz.ntmps164 Tryz.results164 rfl (by kernel_rfl) ?_
 by_cases m2:md<2
 ·have e1:decide (md<2)=true:=by simpa using m2
  rw[ZaX (by simp[v'9];omega)]
  repeat' first|refine vs T rfl fun K hK=>?_;(try simp (disch:=omega) only[go_sem,Nat.reduceBEq,Nat.reduceAdd,e1]);(refine hK _ _ ?_;clear hK K)|refine st rfl ?_|refine sc rfl ?_|refine nl ?_|refine gs rfl rfl ?_|exact x'E T (z'a _) ⟨rfl,rfl⟩
 have e1:decide (md<2)=false:=by simpa using m2
 by_cases m16:md>16
 ·have e2:decide (md>16)=true:=by simpa using m16
  rw[ZaX (by simp[v'9];omega)]
  repeat' first|refine vs T rfl fun K hK=>?_;(try simp (disch:=omega) only[go_sem,Nat.reduceBEq,Nat.reduceAdd,e1,e2]);(refine hK _ _ ?_;clear hK K)|refine st rfl ?_|refine sc rfl ?_|refine nl ?_|refine gs rfl rfl ?_|exact x'E T (z'a _) ⟨rfl,rfl⟩
 have e2:decide (md>16)=false:=by simpa using m16
 cases ho:y'z own md with
 |false=>
  rw[ZaX (by simp[v'9,ho])]
  repeat' first|refine vs T rfl fun K hK=>?_;(try simp (disch:=omega) only[go_sem,Nat.reduceBEq,Nat.reduceAdd,e1,e2,ho,z'q]);(first|refine hK _ _ ?_;clear hK K|refine Op1.callp rfl rfl (c1) rfl ?_;refine hK _ _ ?_;clear hK K)|refine st rfl ?_|refine sc rfl ?_|refine nl ?_|refine gs rfl rfl ?_|exact x'E T (z'a _) ⟨rfl,rfl⟩
 |true=>
 cases hmm:y'z mem md with
 |false=>
  rw[ZaX (by simp[v'9,hmm])]
  repeat' first|refine vs T rfl fun K hK=>?_;(try simp (disch:=omega) only[go_sem,Nat.reduceBEq,Nat.reduceAdd,e1,e2,ho,hmm,z'q,z'i]);(first|refine hK _ _ ?_;clear hK K|refine Op1.callp rfl rfl (c1) rfl ?_;refine hK _ _ ?_;clear hK K|refine Op1.callp rfl rfl (c2) rfl ?_;refine hK _ _ ?_;clear hK K)|refine st rfl ?_|refine sc rfl ?_|refine nl ?_|refine gs rfl rfl ?_|exact x'E T (z'a _) ⟨rfl,rfl⟩
 |true=>
 repeat' first|refine vs T rfl fun K hK=>?_;(try simp (disch:=omega) only[go_sem,Nat.reduceBEq,Nat.reduceAdd,e1,e2,ho,hmm,z'i]);(first|refine hK _ _ ?_;clear hK K|refine Op1.callp rfl rfl (c1) rfl ?_;refine hK _ _ ?_;clear hK K|refine Op1.callp rfl rfl (c2) rfl ?_;refine hK _ _ ?_;clear hK K)|refine st rfl ?_|refine sc rfl ?_|refine nl ?_|refine gs rfl rfl ?_
 refine VC.loop {p:Nat×Option (Nat×Nat)//p.1≤all.length∧ ∀(i:Nat) (y:List Int),i<p.1→all[i]?=some y→y'z y md=true} (fun p=>⟨z'M [(0,z'R l),(1,iD md),(2,z'S own),(3,.sl false 1 (x'j all)),(4,z'S mem),(12,.gs p.1.2 p.1.1),(13,iD (p.1.1:Nat))],shp p.1.2 3 1 ((x'R (all.take p.1.1)).map iD) []⟩) (fun p=>all.length-p.1.1) ⟨(0,none),by simp⟩ ?_ ?_
 ·refine Weak.sub ?_
  simp[sub,upd]
 ·rintro⟨⟨k,g⟩,hka,hs⟩
  dsimp only at hka hs⊢
  have hfl:((x'R (all.take k)).map iD).length=k*1:=by simp[x'R];omega
  rcases z'g k all.length with hlt|hge
  ·have hd:decide ((k:Int)<(all.length:Int))=true:=by simp;omega
   have hw:IntKind.i64.wrap ((k:Int)+1)=((k+1:Nat):Int):=by rw[w64 (by omega)];omega
   obtain⟨r,hr⟩: ∃r,all[k]?=some r:=⟨_,z'b hlt⟩
   have hrow:(x'j all)[k]?=some [z'S r]:=by rw[w'j,hr];rfl
   have hrl:=hk.kr r (z'f hr)
   have c3:=Zb2 r (by omega) md
   cases har:y'z r md with
   |false=>
    have hA:(all.all fun r=>y'z r md)=false:=v'g (p:=fun r=>y'z r md) hr har
    rw[ZaX (by simp only[v'9,hA,w'o,x'z])]
    repeat' first|refine vs T rfl fun K hK=>?_;(try simp (disch:=omega) only[go_sem,Nat.reduceBEq,hd,hrow,har,z'W,z'q]);(first|refine hK _ _ ?_;clear hK K|refine⟨?_,hK _ _ ?_⟩<;>clear hK K;focus(try omega)|refine Op1.callp rfl rfl (c3) rfl ?_;refine hK _ _ ?_;clear hK K)|refine st rfl ?_|refine sc rfl ?_|refine nl ?_|exact x'E T (z'a _) ⟨rfl,rfl⟩
   |true=>
    repeat' first|refine vs T rfl fun K hK=>?_;(try simp (disch:=omega) only[go_sem,Nat.reduceBEq,Nat.reduceMul,Nat.reduceLeDiff,hd,hw,hrow,har,z'W,z'l,z'i]);(first|refine hK _ _ ?_;clear hK K|refine⟨_,_,_,_,(by repeat (exact Sp.here)),?_,(by exact⟨rfl,rfl⟩),⟨by decide,?_⟩,fun g' hg'=>hK _ _ ?_⟩<;>clear hK K|refine⟨?_,hK _ _ ?_⟩<;>clear hK K;focus(try omega)|refine Op1.callp rfl rfl (c3) rfl ?_;refine hK _ _ ?_;clear hK K)|refine st rfl ?_|refine sc rfl ?_|refine nl ?_
    ·exact hfl
    ·omega
    ·refine⟨⟨(k+1,g'),by simp only[];omega,v'W hs hr har⟩,z'G ?_ ?_,by simp only[];omega⟩
     ·simp only[]
      rw[Zgb hr]
     ·simp[sub,upd]
  ·have hd:decide ((k:Int)<(all.length:Int))=false:=by simp;omega
   have hA:(all.all fun r=>y'z r md)=true:=ZaC fun i y hi hy=>hs i y (by omega) hy
   obtain rfl:k=all.length:=by omega
   have hta:all.take all.length=all:=z'Q
   have c4:=x'q l kl (x'R all) (by rw[Zap];omega) own.length mem.length
   refine v'4 (t:=12) (g:=g) rfl fun hg=>?_
   have hV:v'9 l md own all mem=y'X l (x'R all) own.length mem.length:=by simp[v'9,ho,hmm,hA,z'u.1 m2,z'u.1 m16]
   have hfz: ∀H:Heap,H=shp g 3 1 ((x'R all).map iD) []→FzL H [z'R l,z'S (x'R all),iD own.length,iD mem.length] [z'R l,.gs g all.length,iD own.length,iD mem.length]:=fun H hH=>by
    refine x'u ?_
    have:=x'4 (g:=g) (e:=3) (s:=x'R all) (H:=H) (by rw[Zap];exact hg) (fun b cap hb=>by rw[hH,hb];exact z'C ..)
    rw[Zap]at this
    exact this
   rw[hta]
   repeat' first|refine vs T rfl fun K hK=>?_;(try simp (disch:=omega) only[go_sem,Nat.reduceBEq,hd,z'W,z'l]);(first|refine hK _ _ ?_;clear hK K|skip)|refine st rfl ?_|refine sc rfl ?_|refine nl ?_
   refine Op1.lend rfl rfl c4 (hfz _ rfl) (.inr rfl) ?_
   refine hK _ _ ?_
   clear hK K
   cases hC:y'X l (x'R all) own.length mem.length with
   |false=>
    rw[ZaX (by rw[hV,hC])]
    repeat' first|refine vs T rfl fun K hK=>?_;(try simp (disch:=omega) only[go_sem,Nat.reduceBEq,z'q]);(refine hK _ _ ?_;clear hK K)|refine st rfl ?_|refine sc rfl ?_|refine nl ?_|exact x'E T (z'a _) ⟨rfl,rfl⟩
   |true=>
    rw[hC]at hV
    have hD:Zde l md own all mem= .tup [iD ((ZgP md own all mem l []).getD 0 0),bD true]:=by simp[Zde,Zdo,hV]
    have hOk:l.all (y'K (x'R all) own.length mem.length)=true∧oneL (w'U l 0 0)=true:=by simpa[y'X]using hC
    rw[hD]
    repeat' first|refine vs T rfl fun K hK=>?_;(try simp (disch:=omega) only[go_sem,Nat.reduceBEq,z'i]);(refine hK _ _ ?_;clear hK K)|refine st rfl ?_|refine sc rfl ?_|refine nl ?_
    refine VC.loop {p:Nat×List Int×Option (Nat×Nat)//RunI md own all mem l p.1 p.2.1} (fun p=>⟨z'M [(0,z'R l),(1,iD md),(2,z'S own),(3,.sl false 1 (x'j all)),(4,z'S mem),(14,.gs p.1.2.2 p.1.2.1.length),(15,iD (p.1.1:Nat))],shp p.1.2.2 3 1 (p.1.2.1.map iD) []⟩) (fun p=>l.length-p.1.1) ⟨(0,[],none),RunI.zero hOk.2⟩ ?_ ?_
    ·refine Weak.subH (z'a _) ?_
     simp[sub,upd]
    ·rintro⟨⟨k,s,g⟩,hR⟩
     dsimp only at hR⊢
     have hle:=hR.le
     have hln:=hR.len
     have hsl:(s.map iD).length=s.length*1:=by simp
     rcases z'g k l.length with hlt|hge
     ·have hd:decide ((k:Int)<(l.length:Int))=true:=by simp;omega
      have hw:IntKind.i64.wrap ((k:Int)+1)=((k+1:Nat):Int):=by rw[w64 (by omega)];omega
      obtain⟨x,hx⟩: ∃x,l[k]?=some x:=⟨_,z'b hlt⟩
      have hrow:(ZdW l)[k]?=some [iD x.1,iD x.2.1,iD x.2.2]:=by rw[ZcL,hx];rfl
      have hxo:y'K (x'R all) own.length mem.length x=true:=by
       have:=hOk.1
       rw[z'B]at this
       exact this x (z'f hx)
      have hm2:2≤md:=by omega
      obtain⟨⟨n',hn'⟩,hN⟩:=hR.next hm2 hx hxo ho hmm hA
      by_cases h1:x.1=1
      ·have e1:(x.1 == 1)=true:=by simpa using h1
       have hst:w'm md own all mem s x=s++[x.2.1.tmod md]:=by simp[w'm,h1]
       rw[hst]at hN
       have hmd:md≠0:=by omega
       repeat' first|refine vs T rfl fun K hK=>?_;(try simp (disch:=omega) only[go_sem,Nat.reduceBEq,Nat.reduceAdd,Nat.reduceMul,Nat.reduceLeDiff,hd,hw,hrow,e1,hmd,ne_eq,not_false_eq_true,z'O]);(first|refine hK _ _ ?_;clear hK K|refine⟨_,_,_,_,(by repeat (first|exact Sp.here|apply Sp.cons)),?_,(by exact⟨rfl,rfl⟩),⟨by decide,?_⟩,fun g' hg'=>hK _ _ ?_⟩<;>clear hK K|intro bq hbq;(try simp only[HB]at hbq);refine hK _ _ ?_;clear hK K|refine⟨?_,hK _ _ ?_⟩<;>clear hK K;focus(try omega))|refine st rfl ?_|refine sc rfl ?_|refine nl ?_
       ·exact hsl
       ·omega
       ·refine⟨⟨(k+1,_,g'),hN⟩,y'S ?_ ?_,by simp only[];omega⟩
        ·simp
        ·simp[sub,upd]
      have e1:(x.1 == 1)=false:=by simpa using h1
      by_cases h2:x.1=2
      ·have e2:(x.1 == 2)=true:=by simpa using h2
       have hst:w'm md own all mem s x=s++[own.getD x.2.1.toNat 0]:=by simp[w'm,h2]
       have hb:0≤x.2.1∧x.2.1<own.length:=y'7.1 (by simpa[y'K,h2]using hxo)
       obtain⟨v,hv⟩: ∃v,own[x.2.1.toNat]?=some v:=⟨_,z'b (by omega)⟩
       have rv:(iRs own)[x.2.1.toNat]?=some [iD v]:=by rw[y'y,hv];rfl
       rw[hst,z'd,hv,z'I]at hN
       repeat' first|refine vs T rfl fun K hK=>?_;(try simp (disch:=omega) only[go_sem,Nat.reduceBEq,Nat.reduceAdd,Nat.reduceMul,Nat.reduceLeDiff,hd,hw,hrow,e1,e2,rv,z'O,z'l]);(first|refine hK _ _ ?_;clear hK K|refine⟨_,_,_,_,(by repeat (first|exact Sp.here|apply Sp.cons)),?_,(by exact⟨rfl,rfl⟩),⟨by decide,?_⟩,fun g' hg'=>hK _ _ ?_⟩<;>clear hK K|intro bq hbq;(try simp only[HB]at hbq);refine hK _ _ ?_;clear hK K|refine⟨?_,hK _ _ ?_⟩<;>clear hK K;focus(try omega))|refine st rfl ?_|refine sc rfl ?_|refine nl ?_
       ·exact hsl
       ·omega
       ·refine⟨⟨(k+1,_,g'),hN⟩,y'S ?_ ?_,by simp only[];omega⟩
        ·simp
        ·simp[sub,upd]
      have e2:(x.1 == 2)=false:=by simpa using h2
      by_cases h3:x.1=3
      ·have e3:(x.1 == 3)=true:=by simpa using h3
       have hst:w'm md own all mem s x=s++[mem.getD x.2.1.toNat 0]:=by simp[w'm,h3]
       have hb:0≤x.2.1∧x.2.1<mem.length:=y'7.1 (by simpa[y'K,h3]using hxo)
       obtain⟨v,hv⟩: ∃v,mem[x.2.1.toNat]?=some v:=⟨_,z'b (by omega)⟩
       have rv:(iRs mem)[x.2.1.toNat]?=some [iD v]:=by rw[y'y,hv];rfl
       rw[hst,z'd,hv,z'I]at hN
       repeat' first|refine vs T rfl fun K hK=>?_;(try simp (disch:=omega) only[go_sem,Nat.reduceBEq,Nat.reduceAdd,Nat.reduceMul,Nat.reduceLeDiff,hd,hw,hrow,e1,e2,e3,rv,z'O,z'l]);(first|refine hK _ _ ?_;clear hK K|refine⟨_,_,_,_,(by repeat (first|exact Sp.here|apply Sp.cons)),?_,(by exact⟨rfl,rfl⟩),⟨by decide,?_⟩,fun g' hg'=>hK _ _ ?_⟩<;>clear hK K|intro bq hbq;(try simp only[HB]at hbq);refine hK _ _ ?_;clear hK K|refine⟨?_,hK _ _ ?_⟩<;>clear hK K;focus(try omega))|refine st rfl ?_|refine sc rfl ?_|refine nl ?_
       ·exact hsl
       ·omega
       ·refine⟨⟨(k+1,_,g'),hN⟩,y'S ?_ ?_,by simp only[];omega⟩
        ·simp
        ·simp[sub,upd]
      have e3:(x.1 == 3)=false:=by simpa using h3
      by_cases h4:x.1=4
      ·have e4:(x.1 == 4)=true:=by simpa using h4
       have hst:w'm md own all mem s x=s++[(all.getD x.2.2.toNat []).getD x.2.1.toNat 0]:=by simp[w'm,h4]
       have hok4:inB x.2.2 (x'R all).length=true∧inB x.2.1 (((x'R all)[x.2.2.toNat]?).getD 0)=true:=by simpa[y'K,h4]using hxo
       have hb:=y'7.1 hok4.1
       rw[Zap]at hb
       obtain⟨r,hr⟩: ∃r,all[x.2.2.toNat]?=some r:=⟨_,z'b (by omega)⟩
       have hlr:(x'R all)[x.2.2.toNat]?=some (r.length:Int):=by simp[x'R,hr]
       have hb2:=y'7.1 hok4.2
       rw[hlr,z'I]at hb2
       obtain⟨v,hv⟩: ∃v,r[x.2.1.toNat]?=some v:=⟨_,z'b (by omega)⟩
       have rr:(x'j all)[x.2.2.toNat]?=some [z'S r]:=by rw[w'j,hr];rfl
       have rv:(iRs r)[x.2.1.toNat]?=some [iD v]:=by rw[y'y,hv];rfl
       rw[hst,z'd (l:=all),hr,z'I,z'd,hv,z'I]at hN
       repeat' first|refine dr (id:=29) T 11 (by kernel_rfl) ?_|refine gn ?_|(first|apply VCg.step T rfl rfl|apply exF);focus((try simp (disch:=omega) only[go_sem,Nat.reduceBEq,Nat.reduceMul,Nat.reduceLeDiff,rr,rv,z'l,z'W]);(first|exact rfl|refine⟨?_,rfl⟩;try omega))|refine vs T rfl fun K hK=>?_;(try simp (disch:=omega) only[go_sem,Nat.reduceBEq,Nat.reduceAdd,Nat.reduceLeDiff,hd,hw,hrow,e1,e2,e3,e4,z'O]);(first|refine hK _ _ ?_;clear hK K|refine⟨_,_,_,_,(by repeat (first|exact Sp.here|apply Sp.cons)),?_,(by exact⟨rfl,rfl⟩),⟨by decide,?_⟩,fun g' hg'=>hK _ _ ?_⟩<;>clear hK K|intro bq hbq;(try simp only[HB]at hbq);refine hK _ _ ?_;clear hK K|refine⟨?_,hK _ _ ?_⟩<;>clear hK K;focus(try omega))|refine st rfl ?_|refine sc rfl ?_|refine nl ?_
       ·exact hsl
       ·omega
       ·refine⟨⟨(k+1,_,g'),hN⟩,y'S ?_ ?_,by simp only[];omega⟩
        ·simp
        ·simp[sub,upd]
      have e4:(x.1 == 4)=false:=by simpa using h4
      refine v'4 (t:=14) (g:=g) rfl fun hg=>?_
      have hge:1≤s.length:=by
       unfold y'D at hn'
       rw[if_neg (by omega)]at hn'
       split at hn'
       ·omega
       ·split at hn'
        ·omega
        ·cases hn'
      rcases g with _|⟨b,cap⟩
      ·have:s.length=0:=hg
       omega
      have hgc:s.length≤cap:=hg
      simp only[shp]
      obtain⟨a1,ha1⟩: ∃a,s[s.length-1]?=some a:=⟨_,z'b (by omega)⟩
      have w1:IntKind.i64.wrap ((s.length:Int)-1)=((s.length-1:Nat):Int):=by rw[w64 (by omega)];omega
      have i1:=Zb0 hR.inm ha1
      by_cases h5:x.1=5
      ·have e5:(x.1 == 5)=true:=by simpa using h5
       have hst:w'm md own all mem s x=s.set (s.length-1) (tI (a1 == 0)):=by simp only[w'm,h5,z'd,ha1];rfl
       rw[hst]at hN
       repeat' first|refine vs T rfl fun K hK=>?_;(try simp (disch:=omega) only[go_sem,Nat.reduceBEq,Nat.reduceAdd,Nat.reduceLeDiff,hd,hw,hrow,e1,e2,e3,e4,e5,w1,ha1,z'w,z'O]);(first|refine hK _ _ ?_;clear hK K|intro bq hbq;(try simp only[HB]at hbq);refine hK _ _ ?_;clear hK K|refine⟨?_,hK _ _ ?_⟩<;>clear hK K;focus(try omega)|refine Op1.callp rfl rfl (w'B _) rfl ?_;refine hK _ _ ?_;clear hK K)|refine st rfl ?_|refine sc rfl ?_|refine nl ?_
       refine⟨⟨(k+1,_,some (b,cap)),hN⟩,y'S ?_ ?_,by simp only[];omega⟩
       ·simp[shp,y'k]
       ·simp[sub,upd]
      have e5:(x.1 == 5)=false:=by simpa using h5
      have h6:(6≤x.1∧x.1≤14)∧2≤s.length:=by
       unfold y'D at hn'
       rw[if_neg (by omega),if_neg (by omega)]at hn'
       split at hn'
       ·omega
       ·cases hn'
      obtain⟨a2,ha2⟩: ∃a,s[s.length-2]?=some a:=⟨_,z'b (by omega)⟩
      have w2:IntKind.i64.wrap ((s.length:Int)-2)=((s.length-2:Nat):Int):=by rw[w64 (by omega)];omega
      have i2:=Zb0 hR.inm ha2
      have hst:w'm md own all mem s x=(s.set (s.length-2) (x'G x.1 a2 a1 md)).take (s.length-1):=by simp only[w'm,h1,h2,h3,h4,h5,if_false,z'd,ha1,ha2,z'I]
      rw[hst]at hN
      have cl:=ZlZ x.1 a2 a1 md (by omega) (by omega) (by omega)
      repeat' first|refine dr (id:=19) T 13 (by kernel_rfl) ?_|refine gn ?_|(first|apply VCg.step T rfl rfl|apply exF);focus((try simp (disch:=omega) only[go_sem,Nat.reduceBEq,w1,w2,ha1,ha2,z'w]);(first|exact rfl|refine⟨?_,rfl⟩;try omega))|refine vs T rfl fun K hK=>?_;(try simp (disch:=omega) only[go_sem,Nat.reduceBEq,Nat.reduceAdd,Nat.reduceLeDiff,hd,hw,hrow,e1,e2,e3,e4,e5,w1,w2,z'w,z'O]);(first|refine hK _ _ ?_;clear hK K|intro bq hbq;(try simp only[HB]at hbq);refine hK _ _ ?_;clear hK K|refine⟨?_,hK _ _ ?_⟩<;>clear hK K;focus(try omega)|refine Op1.callp rfl rfl (cl) rfl ?_;refine hK _ _ ?_;clear hK K)|refine st rfl ?_|refine sc rfl ?_|refine nl ?_
      have hlen:((s.set (s.length-2) (x'G x.1 a2 a1 md)).take (s.length-1)).length=s.length-1:=by rw[z'A,y'u];omega
      refine⟨⟨(k+1,_,some (b,cap)),hN⟩,?_,by simp only[];omega⟩
      refine Weak.trans (y'S (H':=[(b,.cells _ _ ((s.set (s.length-2) (x'G x.1 a2 a1 md)).map iD))]) ?_ ?_) Weak.cutC
      ·simp[shp,y'k]
      ·rw[hlen]
       simp[sub,upd]
     ·have hd:decide ((k:Int)<(l.length:Int))=false:=by simp;omega
      obtain⟨hr1,hr2⟩:=hR.last (by omega)
      refine v'4 (t:=14) (g:=g) rfl fun hg=>?_
      rcases g with _|⟨b,cap⟩
      ·have:s.length=0:=hg
       omega
      obtain⟨v,hv⟩: ∃v,s[0]?=some v:=⟨_,z'b (by omega)⟩
      rw[←hr1,z'd,hv,z'I]
      simp only[shp]
      repeat' first|refine vs T rfl fun K hK=>?_;(try simp (disch:=omega) only[go_sem,Nat.reduceBEq,Int.reduceToNat,hd,hv,hr2,z'O]);(first|refine hK _ _ ?_;clear hK K|refine⟨?_,hK _ _ ?_⟩<;>clear hK K;focus(try omega))|refine st rfl ?_|refine sc rfl ?_|refine nl ?_|exact x'E T (z'a _) ⟨rfl,rfl⟩
end Go.Proofs.YtomcmfbpmkklmaaGreat
