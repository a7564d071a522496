/- Contracts: code's value, as the program says. No condition. -/
import Derived.Test.YtfneeacgkdhldaaGreatYd
import Derived.Test.YtfneeacgkdhldaaGreatYa
namespace Go.Proofs.YtfneeacgkdhldaaGreat
set_option maxHeartbeats 16000000
set_option linter.unusedSimpArgs false
set_option linter.unusedVariables false
set_option maxRecDepth 20000
open Go Go.Proofs Go.Vc
attribute [local irreducible] y'5 VCg VCw VCx
theorem Zfr {env:Nat→D} {env':List (Nat×D)} {x y:Nat×HC} {H H':Heap} (hh:H=H') (h:Vc.sub env env'):Weak ⟨env,x::y::H⟩ ⟨z'J env',H'⟩:=Weak.subH (hh▸(z'5 _ _).trans (z'5 _ _)) h
theorem Zm6 (l:List Opc) (md:Int) (own:List Int) (all:List (List Int)) (mem:List Int) (hk:OkV l own all mem):Pure Tryz.prog 174 [z'S l,iD md,z'C own,.sl false 1 (y'V all),z'C mem] (ZcU l md own all mem):=by
 have kl:=hk.kl
 have ko:=hk.ko
 have km:=hk.km
 have ka:=hk.ka
 refine Fun.of T [.tmp 10,.tmp 11] Tryz.func174 rfl Tryz.ntmps174 Tryz.results174 rfl (by kernel_rfl) ?_
 by_cases m2:md<2
 ·have e1:decide (md<2)=true:=by simpa using m2
  rw[ZaE (by simp[v'V];omega)]
  repeat' first|refine vs T rfl fun K hK=>?_;(try simp (disch:=omega) only[go_sem,Nat.reduceBEq,Nat.reduceAdd,e1]);(refine hK _ _ ?_;clear hK K)|refine st rfl ?_|refine sc rfl ?_|refine nl ?_|refine gs rfl rfl ?_|exact y'9 T (z'a _) ⟨rfl,rfl⟩
 have e1:decide (md<2)=false:=by simpa using m2
 by_cases m16:md>16
 ·have e2:decide (md>16)=true:=by simpa using m16
  rw[ZaE (by simp[v'V];omega)]
  repeat' first|refine vs T rfl fun K hK=>?_;(try simp (disch:=omega) only[go_sem,Nat.reduceBEq,Nat.reduceAdd,e1,e2]);(refine hK _ _ ?_;clear hK K)|refine st rfl ?_|refine sc rfl ?_|refine nl ?_|refine gs rfl rfl ?_|exact y'9 T (z'a _) ⟨rfl,rfl⟩
 have e2:decide (md>16)=false:=by simpa using m16
 have hrow2: ∀r,r∈[own,mem]→r.length≤1000:=fun r hr=>by
  rcases z'P.1 hr with rfl|hr
  ·exact ko
  ·rcases z'P.1 hr with rfl|hr
   ·exact km
   ·cases hr
 have cb:=Zhq md [own,mem] (by simp) hrow2
 have cb:Pure Tryz.prog 177 [iD md,.sl true 1 [[z'C own],[z'C mem]]] (bD (ZaU md [own,mem])):=Fun.argsW cb (x't ZaJ)
 have cb2:=Zhq md all ka hk.kr
 cases hB:ZaU md [own,mem]with
 |false=>
  have hoo:y'W own md=false∨y'W mem md=false:=by
   simp only[ZaU,y'X,Zah,w'E]at hB
   cases h1:y'W own md<;>cases h2:y'W mem md<;>simp_all
  rw[ZaE (by rcases hoo with h|h<;>simp[v'V,h])]
  repeat' first|refine vs T rfl fun K hK=>?_;(try simp (disch:=omega) only[go_sem,Nat.reduceBEq,Nat.reduceAdd,Nat.reduceMul,Nat.reduceLeDiff,e1,e2,hB,z'r]);(first|refine hK _ _ ?_;clear hK K|refine Op1.callp rfl rfl (cb) rfl ?_;refine hK _ _ ?_;clear hK K)|refine st rfl ?_|refine sc rfl ?_|refine nl ?_|refine gs rfl rfl ?_|exact y'9 T (z'a _) ⟨rfl,rfl⟩
 |true=>
 have ho:y'W own md=true:=by
  simp only[ZaU,y'X,Zah,w'E,z'i]at hB
  exact hB.1
 have hmm:y'W mem md=true:=by
  simp only[ZaU,y'X,Zah,w'E,z'i]at hB
  exact hB.2
 cases hA:ZaU md all with
 |false=>
  have hA':(all.all fun r=>y'W r md)=false:=hA
  rw[ZaE (by simp only[v'V,hA',w's,y'p])]
  repeat' first|refine vs T rfl fun K hK=>?_;(try simp (disch:=omega) only[go_sem,Nat.reduceBEq,Nat.reduceAdd,Nat.reduceMul,Nat.reduceLeDiff,e1,e2,hB,hA,z'r,z'l]);(first|refine hK _ _ ?_;clear hK K|refine Op1.callp rfl rfl (cb) rfl ?_;refine hK _ _ ?_;clear hK K|refine Op1.callp rfl rfl (cb2) rfl ?_;refine hK _ _ ?_;clear hK K)|refine st rfl ?_|refine sc rfl ?_|refine nl ?_|refine gs rfl rfl ?_|exact y'9 T (z'a _) ⟨rfl,rfl⟩
 |true=>
 have hA:(all.all fun r=>y'W r md)=true:=hA
 repeat' first|refine vs T rfl fun K hK=>?_;(try simp (disch:=omega) only[go_sem,Nat.reduceBEq,Nat.reduceAdd,Nat.reduceMul,Nat.reduceLeDiff,e1,e2,hB,(show ZaU md all=true from hA),z'l,y'm]);(first|refine hK _ _ ?_;clear hK K|refine Op1.callp rfl rfl (cb) rfl ?_;refine hK _ _ ?_;clear hK K|refine Op1.callp rfl rfl (cb2) rfl ?_;refine hK _ _ ?_;clear hK K)|refine st rfl ?_|refine sc rfl ?_|refine nl ?_|refine gs rfl rfl ?_
 refine VC.loop {p:Nat×Option (Nat×Nat)//p.1≤all.length} (fun p=>⟨z'J [(0,z'S l),(1,iD md),(2,z'C own),(3,.sl false 1 (y'V all)),(4,z'C mem),(12,.gs p.1.2 p.1.1),(42,.sl false 1 (y'V all)),(43,iD (all.length:Nat)),(44,iD (p.1.1:Nat))],shp p.1.2 3 1 ((x'N (all.take p.1.1)).map iD) []⟩) (fun p=>all.length-p.1.1) ⟨(0,none),by simp⟩ ?_ ?_
 ·refine Weak.sub ?_
  simp[sub,upd]
 ·rintro⟨⟨k,g⟩,hka⟩
  dsimp only at hka⊢
  have hfl:((x'N (all.take k)).map iD).length=k*1:=by simp[x'N];omega
  rcases z'g k all.length with hlt|hge
  ·have hd:decide ((k:Int)<(all.length:Int))=true:=by simp;omega
   have hw:IntKind.i64.wrap ((k:Int)+1)=((k+1:Nat):Int):=by rw[w64 (by omega)];omega
   obtain⟨r,hr⟩: ∃r,all[k]?=some r:=⟨_,z'b hlt⟩
   have hrow:(y'V all)[k]?=some [z'C r]:=by rw[w'Z,hr];rfl
   have hrl:=hk.kr r (z'h hr)
   repeat' first|refine vs T rfl fun K hK=>?_;(try simp (disch:=omega) only[go_sem,Nat.reduceBEq,Nat.reduceMul,Nat.reduceLeDiff,hd,hw,hrow,y'm,z'k]);(first|refine hK _ _ ?_;clear hK K|refine⟨_,_,_,_,(by repeat (exact Sp.here)),?_,(by exact⟨rfl,rfl⟩),⟨by decide,?_⟩,fun g' hg'=>hK _ _ ?_⟩<;>clear hK K|refine⟨?_,hK _ _ ?_⟩<;>clear hK K;focus(try omega))|refine st rfl ?_|refine sc rfl ?_|refine nl ?_
   ·exact hfl
   ·omega
   ·refine⟨⟨(k+1,g'),by simp only[];omega⟩,z'v ?_ ?_,by simp only[];omega⟩
    ·simp only[]
     rw[ZfM hr]
    ·simp[sub,upd]
  ·have hd:decide ((k:Int)<(all.length:Int))=false:=by simp;omega
   obtain rfl:k=all.length:=by omega
   have hta:all.take all.length=all:=z'X
   have c4:=Zia l kl (x'N all) (by rw[v'8];omega) own.length mem.length
   refine v'H (t:=12) (g:=g) rfl fun hg=>?_
   have hV:v'V l md own all mem=y'1 l (x'N all) own.length mem.length:=by simp[v'V,ho,hmm,hA,z'm.1 m2,z'm.1 m16]
   have hfz: ∀H:Heap,H=shp g 3 1 ((x'N all).map iD) []→FzL H [z'S l,z'C (x'N all),iD own.length,iD mem.length] [z'S l,.gs g all.length,iD own.length,iD mem.length]:=fun H hH=>by
    refine x't ?_
    have:=w'z (g:=g) (e:=3) (s:=x'N all) (H:=H) (by rw[v'8];exact hg) (fun b cap hb=>by rw[hH,hb];exact z'D ..)
    rw[v'8]at this
    exact this
   rw[hta]
   repeat' first|refine vs T rfl fun K hK=>?_;(try simp (disch:=omega) only[go_sem,Nat.reduceBEq,hd,z'k]);(first|refine hK _ _ ?_;clear hK K|skip)|refine st rfl ?_|refine sc rfl ?_|refine nl ?_
   refine Op1.lend rfl rfl c4 (hfz _ rfl) (.inr rfl) ?_
   refine hK _ _ ?_
   clear hK K
   cases hC:y'1 l (x'N all) own.length mem.length with
   |false=>
    rw[ZaE (by rw[hV,hC])]
    repeat' first|refine vs T rfl fun K hK=>?_;(try simp (disch:=omega) only[go_sem,Nat.reduceBEq,z'r]);(refine hK _ _ ?_;clear hK K)|refine st rfl ?_|refine sc rfl ?_|refine nl ?_|exact y'9 T (z'a _) ⟨rfl,rfl⟩
   |true=>
    rw[hC]at hV
    have hD:ZcU l md own all mem= .tup [iD ((Zgo md own all mem l []).getD 0 0),bD true]:=by simp[ZcU,Zc2,hV]
    have hOk:l.all (y'M (x'N all) own.length mem.length)=true∧oneL (w'F l 0 0)=true:=by simpa[y'1]using hC
    rw[hD]
    repeat' first|refine vs T rfl fun K hK=>?_;(try simp (disch:=omega) only[go_sem,Nat.reduceBEq,z'l,z'K]);(refine hK _ _ ?_;clear hK K)|refine st rfl ?_|refine sc rfl ?_|refine nl ?_
    refine VC.loop {p:Nat×List Int×Option (Nat×Nat)//RunI md own all mem l p.1 p.2.1} (fun p=>⟨z'J [(0,z'S l),(1,iD md),(2,z'C own),(3,.sl false 1 (y'V all)),(4,z'C mem),(15,.gs p.1.2.2 p.1.2.1.length),(62,z'S l),(63,iD (l.length:Nat)),(64,iD (p.1.1:Nat))],shp p.1.2.2 3 1 (p.1.2.1.map iD) []⟩) (fun p=>l.length-p.1.1) ⟨(0,[],none),RunI.zero hOk.2⟩ ?_ ?_
    ·refine Weak.subH (z'a _) ?_
     simp[sub,upd]
    ·rintro⟨⟨k,s,g⟩,hR⟩
     dsimp only at hR⊢
     have hle:=hR.le
     have hln:=hR.len
     have hsl:(s.map iD).length=s.length*1:=by simp
     rcases z'g k l.length with hlt|hge
     ·have hd:decide ((k:Int)<(l.length:Int))=true:=by simp;omega
      have hw:IntKind.i64.wrap ((k:Int)+1)=((k+1:Nat):Int):=by rw[w64 (by omega)];omega
      obtain⟨x,hx⟩: ∃x,l[k]?=some x:=⟨_,z'b hlt⟩
      have hrow:(ZdD l)[k]?=some [iD x.1,iD x.2.1,iD x.2.2]:=by rw[Zca,hx];rfl
      have hxo:y'M (x'N all) own.length mem.length x=true:=by
       have:=hOk.1
       rw[z'I]at this
       exact this x (z'h hx)
      have hm2:2≤md:=by omega
      obtain⟨⟨n',hn'⟩,hN⟩:=hR.next hm2 hx hxo ho hmm hA
      by_cases h1:x.1=1
      ·have e1:(x.1 == 1)=true:=by simpa using h1
       have hst:w'g md own all mem s x=s++[x.2.1.tmod md]:=by simp[w'g,h1]
       rw[hst]at hN
       have hmd:md≠0:=by omega
       repeat' first|refine vs T rfl fun K hK=>?_;(try simp (disch:=omega) only[go_sem,Nat.reduceBEq,Nat.reduceAdd,Nat.reduceMul,Nat.reduceLeDiff,hd,hw,hrow,e1,hmd,ne_eq,not_false_eq_true,z'K]);(first|refine hK _ _ ?_;clear hK K|refine⟨_,_,_,_,(by repeat (first|exact Sp.here|apply Sp.cons)),?_,(by exact⟨rfl,rfl⟩),⟨by decide,?_⟩,fun g' hg'=>hK _ _ ?_⟩<;>clear hK K|intro bq hbq;(try simp only[HB]at hbq);refine hK _ _ ?_;clear hK K|refine⟨?_,hK _ _ ?_⟩<;>clear hK K;focus(try omega))|refine st rfl ?_|refine sc rfl ?_|refine nl ?_
       ·exact hsl
       ·omega
       ·refine⟨⟨(k+1,_,g'),hN⟩,w'd ?_ ?_,by simp only[];omega⟩
        ·simp
        ·simp[sub,upd]
      have e1:(x.1 == 1)=false:=by simpa using h1
      by_cases h2:x.1=2
      ·have e2:(x.1 == 2)=true:=by simpa using h2
       have hst:w'g md own all mem s x=s++[own.getD x.2.1.toNat 0]:=by simp[w'g,h2]
       have hb:0≤x.2.1∧x.2.1<own.length:=x'i.1 (by simpa[y'M,h2]using hxo)
       obtain⟨v,hv⟩: ∃v,own[x.2.1.toNat]?=some v:=⟨_,z'b (by omega)⟩
       have rv:(iRs own)[x.2.1.toNat]?=some [iD v]:=by rw[y'Q,hv];rfl
       rw[hst,z'e,hv,z'L]at hN
       repeat' first|refine vs T rfl fun K hK=>?_;(try simp (disch:=omega) only[go_sem,Nat.reduceBEq,Nat.reduceAdd,Nat.reduceMul,Nat.reduceLeDiff,hd,hw,hrow,e1,e2,rv,z'K,z'k]);(first|refine hK _ _ ?_;clear hK K|refine⟨_,_,_,_,(by repeat (first|exact Sp.here|apply Sp.cons)),?_,(by exact⟨rfl,rfl⟩),⟨by decide,?_⟩,fun g' hg'=>hK _ _ ?_⟩<;>clear hK K|intro bq hbq;(try simp only[HB]at hbq);refine hK _ _ ?_;clear hK K|refine⟨?_,hK _ _ ?_⟩<;>clear hK K;focus(try omega))|refine st rfl ?_|refine sc rfl ?_|refine nl ?_
       ·exact hsl
       ·omega
       ·refine⟨⟨(k+1,_,g'),hN⟩,w'd ?_ ?_,by simp only[];omega⟩
        ·simp
        ·simp[sub,upd]
      have e2:(x.1 == 2)=false:=by simpa using h2
      by_cases h3:x.1=3
      ·have e3:(x.1 == 3)=true:=by simpa using h3
       have hst:w'g md own all mem s x=s++[mem.getD x.2.1.toNat 0]:=by simp[w'g,h3]
       have hb:0≤x.2.1∧x.2.1<mem.length:=x'i.1 (by simpa[y'M,h3]using hxo)
       obtain⟨v,hv⟩: ∃v,mem[x.2.1.toNat]?=some v:=⟨_,z'b (by omega)⟩
       have rv:(iRs mem)[x.2.1.toNat]?=some [iD v]:=by rw[y'Q,hv];rfl
       rw[hst,z'e,hv,z'L]at hN
       repeat' first|refine vs T rfl fun K hK=>?_;(try simp (disch:=omega) only[go_sem,Nat.reduceBEq,Nat.reduceAdd,Nat.reduceMul,Nat.reduceLeDiff,hd,hw,hrow,e1,e2,e3,rv,z'K,z'k]);(first|refine hK _ _ ?_;clear hK K|refine⟨_,_,_,_,(by repeat (first|exact Sp.here|apply Sp.cons)),?_,(by exact⟨rfl,rfl⟩),⟨by decide,?_⟩,fun g' hg'=>hK _ _ ?_⟩<;>clear hK K|intro bq hbq;(try simp only[HB]at hbq);refine hK _ _ ?_;clear hK K|refine⟨?_,hK _ _ ?_⟩<;>clear hK K;focus(try omega))|refine st rfl ?_|refine sc rfl ?_|refine nl ?_
       ·exact hsl
       ·omega
       ·refine⟨⟨(k+1,_,g'),hN⟩,w'd ?_ ?_,by simp only[];omega⟩
        ·simp
        ·simp[sub,upd]
      have e3:(x.1 == 3)=false:=by simpa using h3
      by_cases h4:x.1=4
      ·have e4:(x.1 == 4)=true:=by simpa using h4
       have hst:w'g md own all mem s x=s++[(all.getD x.2.2.toNat []).getD x.2.1.toNat 0]:=by simp[w'g,h4]
       have hok4:inB x.2.2 (x'N all).length=true∧inB x.2.1 (((x'N all)[x.2.2.toNat]?).getD 0)=true:=by simpa[y'M,h4]using hxo
       have hb:=x'i.1 hok4.1
       rw[v'8]at hb
       obtain⟨r,hr⟩: ∃r,all[x.2.2.toNat]?=some r:=⟨_,z'b (by omega)⟩
       have hlr:(x'N all)[x.2.2.toNat]?=some (r.length:Int):=by simp[x'N,hr]
       have hb2:=x'i.1 hok4.2
       rw[hlr,z'L]at hb2
       obtain⟨v,hv⟩: ∃v,r[x.2.1.toNat]?=some v:=⟨_,z'b (by omega)⟩
       have rr:(y'V all)[x.2.2.toNat]?=some [z'C r]:=by rw[w'Z,hr];rfl
       have rv:(iRs r)[x.2.1.toNat]?=some [iD v]:=by rw[y'Q,hv];rfl
       rw[hst,z'e (l:=all),hr,z'L,z'e,hv,z'L]at hN
       repeat' first|refine dr (id:=28) T 11 (by kernel_rfl) ?_|refine gn ?_|(first|apply VCg.step T rfl rfl|apply exF);focus((try simp (disch:=omega) only[go_sem,Nat.reduceBEq,Nat.reduceMul,Nat.reduceLeDiff,rr,rv,z'k,y'm]);(first|exact rfl|refine⟨?_,rfl⟩;try omega))|refine vs T rfl fun K hK=>?_;(try simp (disch:=omega) only[go_sem,Nat.reduceBEq,Nat.reduceAdd,Nat.reduceLeDiff,hd,hw,hrow,e1,e2,e3,e4,z'K]);(first|refine hK _ _ ?_;clear hK K|refine⟨_,_,_,_,(by repeat (first|exact Sp.here|apply Sp.cons)),?_,(by exact⟨rfl,rfl⟩),⟨by decide,?_⟩,fun g' hg'=>hK _ _ ?_⟩<;>clear hK K|intro bq hbq;(try simp only[HB]at hbq);refine hK _ _ ?_;clear hK K|refine⟨?_,hK _ _ ?_⟩<;>clear hK K;focus(try omega))|refine st rfl ?_|refine sc rfl ?_|refine nl ?_
       ·exact hsl
       ·omega
       ·refine⟨⟨(k+1,_,g'),hN⟩,w'd ?_ ?_,by simp only[];omega⟩
        ·simp
        ·simp[sub,upd]
      have e4:(x.1 == 4)=false:=by simpa using h4
      refine v'H (t:=15) (g:=g) rfl fun hg=>?_
      have hge:1≤s.length:=by
       unfold y'H at hn'
       rw[if_neg (by omega)]at hn'
       split at hn'
       ·omega
       ·split at hn'
        ·omega
        ·cases hn'
      rcases g with _|⟨b,cap⟩
      ·have:s.length=0:=hg
       omega
      have hgc:s.length≤cap:=hg
      simp only[shp]
      obtain⟨a1,ha1⟩: ∃a,s[s.length-1]?=some a:=⟨_,z'b (by omega)⟩
      have w1:IntKind.i64.wrap ((s.length:Int)-1)=((s.length-1:Nat):Int):=by rw[w64 (by omega)];omega
      have i1:=Zbz hR.inm ha1
      have wp1:IntKind.i64.wrap (((s.length-1:Nat):Int)+1)=(s.length:Int):=by rw[w64 (by omega)];omega
      have cof:=Znh x.1
      by_cases h5:x.1=5
      ·have e4:(x.1 == 4)=false:=by simpa using h4
       have hst:w'g md own all mem s x=s.set (s.length-1) (tI (a1 == 0)):=by simp only[w'g,h5,z'e,ha1];rfl
       have cof:Pure Tryz.prog 122 [iD x.1] (.tup [.agg [iD 1,fD 123],bD true]):=by rw[h5]at cof⊢;exact cof
       rw[hst]at hN
       repeat' first|refine dr (id:=19) T 14 (by kernel_rfl) ?_|refine gn ?_|(first|apply VCg.step T rfl rfl|apply exF);focus((try simp (disch:=omega) only[go_sem,Nat.reduceBEq,ha1,z'u]);(first|exact rfl|refine⟨?_,rfl⟩;try omega|refine Op1.callp rfl rfl (Zps a1 a1 md) rfl ?_;exact⟨rfl,rfl⟩))|refine vs T rfl fun K hK=>?_;(try simp (disch:=omega) only[go_sem,Nat.reduceBEq,Nat.reduceAdd,Nat.reduceLeDiff,hd,hw,hrow,e1,e2,e3,e4,w1,wp1,z'u,z'K]);(first|refine hK _ _ ?_;clear hK K|intro bq hbq;(try simp only[HB]at hbq);refine hK _ _ ?_;clear hK K|refine⟨?_,hK _ _ ?_⟩<;>clear hK K;focus(try omega)|refine Op1.callp rfl rfl (cof) rfl ?_;refine hK _ _ ?_;clear hK K)|refine st rfl ?_|refine sc rfl ?_|refine nl ?_
       refine⟨⟨(k+1,_,some (b,cap)),hN⟩,Zfr ?_ ?_,by simp only[];omega⟩
       ·simp[shp,y'n]
       ·simp[sub,upd]
      have h6:(6≤x.1∧x.1≤14)∧2≤s.length:=by
       unfold y'H at hn'
       rw[if_neg (by omega),if_neg (by omega)]at hn'
       split at hn'
       ·omega
       ·cases hn'
      obtain⟨a2,ha2⟩: ∃a,s[s.length-2]?=some a:=⟨_,z'b (by omega)⟩
      have w2:IntKind.i64.wrap ((s.length:Int)-2)=((s.length-2:Nat):Int):=by rw[w64 (by omega)];omega
      have wp2:IntKind.i64.wrap (((s.length-2:Nat):Int)+1)=((s.length-1:Nat):Int):=by rw[w64 (by omega)];omega
      have i2:=Zbz hR.inm ha2
      have hst:w'g md own all mem s x=(s.set (s.length-2) (x'E x.1 a2 a1 md)).take (s.length-1):=by simp only[w'g,h1,h2,h3,h4,h5,if_false,z'e,ha1,ha2,z'L]
      rw[hst]at hN
      rw[Zi9 h6.1]at cof
      have cl:=ZpU x.1 a2 a1 md h6.1 (by omega) (by omega) (by omega)
      repeat' first|refine dr (id:=19) T 14 (by kernel_rfl) ?_|refine gn ?_|(first|apply VCg.step T rfl rfl|apply exF);focus((try simp (disch:=omega) only[go_sem,Nat.reduceBEq,ha1,ha2,z'u]);(first|exact rfl|refine⟨?_,rfl⟩;try omega|refine Op1.callp rfl rfl (cl) rfl ?_;exact⟨rfl,rfl⟩))|refine vs T rfl fun K hK=>?_;(try simp (disch:=omega) only[go_sem,Nat.reduceBEq,Nat.reduceAdd,Nat.reduceLeDiff,hd,hw,hrow,e1,e2,e3,e4,w1,wp1,w2,wp2,z'u,z'K]);(first|refine hK _ _ ?_;clear hK K|intro bq hbq;(try simp only[HB]at hbq);refine hK _ _ ?_;clear hK K|refine⟨?_,hK _ _ ?_⟩<;>clear hK K;focus(try omega)|refine Op1.callp rfl rfl (cof) rfl ?_;refine hK _ _ ?_;clear hK K)|refine st rfl ?_|refine sc rfl ?_|refine nl ?_
      have hlen:((s.set (s.length-2) (x'E x.1 a2 a1 md)).take (s.length-1)).length=s.length-1:=by rw[z'F,y'U];omega
      refine⟨⟨(k+1,_,some (b,cap)),hN⟩,?_,by simp only[];omega⟩
      refine Weak.trans (Zfr (H':=[(b,.cells _ _ ((s.set (s.length-2) (x'E x.1 a2 a1 md)).map iD))]) ?_ ?_) Weak.cutC
      ·simp[shp,y'n]
      ·rw[hlen]
       simp[sub,upd]
     ·have hd:decide ((k:Int)<(l.length:Int))=false:=by simp;omega
      obtain⟨hr1,hr2⟩:=hR.last (by omega)
      refine v'H (t:=15) (g:=g) rfl fun hg=>?_
      rcases g with _|⟨b,cap⟩
      ·have:s.length=0:=hg
       omega
      obtain⟨v,hv⟩: ∃v,s[0]?=some v:=⟨_,z'b (by omega)⟩
      rw[←hr1,z'e,hv,z'L]
      simp only[shp]
      repeat' first|refine vs T rfl fun K hK=>?_;(try simp (disch:=omega) only[go_sem,Nat.reduceBEq,Int.reduceToNat,hd,hv,hr2]);(first|refine hK _ _ ?_;clear hK K|refine⟨?_,hK _ _ ?_⟩<;>clear hK K;focus(try omega))|refine st rfl ?_|refine sc rfl ?_|refine nl ?_|exact y'9 T (z'a _) ⟨rfl,rfl⟩
end Go.Proofs.YtfneeacgkdhldaaGreat
