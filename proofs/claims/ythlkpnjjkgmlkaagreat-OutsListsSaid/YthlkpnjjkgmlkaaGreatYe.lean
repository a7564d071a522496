/- Contracts: code's value, as the program says. No condition. -/
import Derived.Test.YthlkpnjjkgmlkaaGreatYf
import Derived.Test.YthlkpnjjkgmlkaaGreatYb
namespace Go.Proofs.YthlkpnjjkgmlkaaGreat
set_option maxHeartbeats 16000000
set_option linter.unusedSimpArgs false
set_option linter.unusedVariables false
set_option maxRecDepth 20000
open Go Go.Proofs Go.Vc
attribute [local irreducible] x'c VCg VCw VCx
theorem Zhb {env:Nat→D} {env':List (Nat×D)} {x y:Nat×HC} {H H':Heap} (hh:H=H') (h:Vc.sub env env'):Weak ⟨env,x::y::H⟩ ⟨y'd env',H'⟩:=Weak.subH (hh▸(z'0 _ _).trans (z'0 _ _)) h
theorem Zrj (l:List Opc) (md:Int) (own:List Int) (all:List (List Int)) (mem:List Int) (hk:OkV l own all mem):Pure Tryz.prog 69 [y'8 l,iD md,y'c own,.sl false 1 (x'X all),y'c mem] (Zh2 l md own all mem):=by
 have kl:=hk.kl
 have ko:=hk.ko
 have km:=hk.km
 have ka:=hk.ka
 refine Fun.of T [.tmp 10,.tmp 11] Tryz.func69 rfl Tryz.ntmps69 Tryz.results69 rfl (by kernel_rfl) ?_
 by_cases m2:md<2
 ·have e1:decide (md<2)=true:=by simpa using m2
  rw[ZfJ (by simp[ZbT];omega)]
  repeat' first|refine vs T rfl fun K hK=>?_;(try simp (disch:=omega) only[go_sem,Nat.reduceBEq,Nat.reduceAdd,e1]);(refine hK _ _ ?_;clear hK K)|refine st rfl ?_|refine sc rfl ?_|refine nl ?_|refine gs rfl rfl ?_|exact w'd T (z'a _) ⟨rfl,rfl⟩
 have e1:decide (md<2)=false:=by simpa using m2
 by_cases m16:md>16
 ·have e2:decide (md>16)=true:=by simpa using m16
  rw[ZfJ (by simp[ZbT];omega)]
  repeat' first|refine vs T rfl fun K hK=>?_;(try simp (disch:=omega) only[go_sem,Nat.reduceBEq,Nat.reduceAdd,e1,e2]);(refine hK _ _ ?_;clear hK K)|refine st rfl ?_|refine sc rfl ?_|refine nl ?_|refine gs rfl rfl ?_|exact w'd T (z'a _) ⟨rfl,rfl⟩
 have e2:decide (md>16)=false:=by simpa using m16
 have hrow2: ∀r,r∈[own,mem]→r.length≤1000:=fun r hr=>by
  rcases z't.1 hr with rfl|hr
  ·exact ko
  ·rcases z't.1 hr with rfl|hr
   ·exact km
   ·cases hr
 have cb:=ZjS md [own,mem] (by simp) hrow2
 have cb:Pure Tryz.prog 129 [iD md,.sl true 1 [[y'c own],[y'c mem]]] (bD (Zav md [own,mem])):=Fun.argsW cb (ZiW ZjB)
 have cb2:=ZjS md all ka hk.kr
 cases hB:Zav md [own,mem]with
 |false=>
  have hoo:y'E own md=false∨y'E mem md=false:=by
   simp only[Zav,y'q,v'Q,w'm]at hB
   cases h1:y'E own md<;>cases h2:y'E mem md<;>simp_all
  rw[ZfJ (by rcases hoo with h|h<;>simp[ZbT,h])]
  repeat' first|refine vs T rfl fun K hK=>?_;(try simp (disch:=omega) only[go_sem,Nat.reduceBEq,Nat.reduceAdd,Nat.reduceMul,Nat.reduceLeDiff,e1,e2,hB,z'O]);(first|refine hK _ _ ?_;clear hK K|refine Op1.callp rfl rfl (cb) rfl ?_;refine hK _ _ ?_;clear hK K)|refine st rfl ?_|refine sc rfl ?_|refine nl ?_|refine gs rfl rfl ?_|exact w'd T (z'a _) ⟨rfl,rfl⟩
 |true=>
 have ho:y'E own md=true:=by
  simp only[Zav,y'q,v'Q,w'm,z'c]at hB
  exact hB.1
 have hmm:y'E mem md=true:=by
  simp only[Zav,y'q,v'Q,w'm,z'c]at hB
  exact hB.2
 cases hA:Zav md all with
 |false=>
  have hA':(all.all fun r=>y'E r md)=false:=hA
  rw[ZfJ (by simp only[ZbT,hA',Bool.and_false,w'E])]
  repeat' first|refine vs T rfl fun K hK=>?_;(try simp (disch:=omega) only[go_sem,Nat.reduceBEq,Nat.reduceAdd,Nat.reduceMul,Nat.reduceLeDiff,e1,e2,hB,hA,z'O,z'E]);(first|refine hK _ _ ?_;clear hK K|refine Op1.callp rfl rfl (cb) rfl ?_;refine hK _ _ ?_;clear hK K|refine Op1.callp rfl rfl (cb2) rfl ?_;refine hK _ _ ?_;clear hK K)|refine st rfl ?_|refine sc rfl ?_|refine nl ?_|refine gs rfl rfl ?_|exact w'd T (z'a _) ⟨rfl,rfl⟩
 |true=>
 have hA:(all.all fun r=>y'E r md)=true:=hA
 repeat' first|refine vs T rfl fun K hK=>?_;(try simp (disch:=omega) only[go_sem,Nat.reduceBEq,Nat.reduceAdd,Nat.reduceMul,Nat.reduceLeDiff,e1,e2,hB,(show Zav md all=true from hA),z'E,y'4]);(first|refine hK _ _ ?_;clear hK K|refine Op1.callp rfl rfl (cb) rfl ?_;refine hK _ _ ?_;clear hK K|refine Op1.callp rfl rfl (cb2) rfl ?_;refine hK _ _ ?_;clear hK K)|refine st rfl ?_|refine sc rfl ?_|refine nl ?_|refine gs rfl rfl ?_
 refine VC.loop {p:Nat×Option (Nat×Nat)//p.1≤all.length} (fun p=>⟨y'd [(0,y'8 l),(1,iD md),(2,y'c own),(3,.sl false 1 (x'X all)),(4,y'c mem),(12,.gs p.1.2 p.1.1),(42,.sl false 1 (x'X all)),(43,iD (all.length:Nat)),(44,iD (p.1.1:Nat))],shp p.1.2 3 1 ((w'f (all.take p.1.1)).map iD) []⟩) (fun p=>all.length-p.1.1) ⟨(0,none),by simp⟩ ?_ ?_
 ·refine Weak.sub ?_
  simp[sub,upd]
 ·rintro⟨⟨k,g⟩,hka⟩
  dsimp only at hka⊢
  have hfl:((w'f (all.take k)).map iD).length=k*1:=by simp[w'f];omega
  rcases z'j k all.length with hlt|hge
  ·have hd:decide ((k:Int)<(all.length:Int))=true:=by simp;omega
   have hw:IntKind.i64.wrap ((k:Int)+1)=((k+1:Nat):Int):=by rw[w64 (by omega)];omega
   obtain⟨r,hr⟩: ∃r,all[k]?=some r:=⟨_,z'b hlt⟩
   have hrow:(x'X all)[k]?=some [y'c r]:=by rw[Zaa,hr];rfl
   have hrl:=hk.kr r (z'l hr)
   repeat' first|refine vs T rfl fun K hK=>?_;(try simp (disch:=omega) only[go_sem,Nat.reduceBEq,Nat.reduceMul,Nat.reduceLeDiff,hd,hw,hrow,y'4,z'I]);(first|refine hK _ _ ?_;clear hK K|refine⟨_,_,_,_,(by repeat (exact Sp.here)),?_,(by exact⟨rfl,rfl⟩),⟨by decide,?_⟩,fun g' hg'=>hK _ _ ?_⟩<;>clear hK K|refine⟨?_,hK _ _ ?_⟩<;>clear hK K;focus(try omega))|refine st rfl ?_|refine sc rfl ?_|refine nl ?_
   ·exact hfl
   ·omega
   ·refine⟨⟨(k+1,g'),by simp only[];omega⟩,z'S ?_ ?_,by simp only[];omega⟩
    ·simp only[]
     rw[ZnN hr]
    ·simp[sub,upd]
  ·have hd:decide ((k:Int)<(all.length:Int))=false:=by simp;omega
   obtain rfl:k=all.length:=by omega
   have hta:all.take all.length=all:=z'Y
   have c4:=Zlm l kl (w'f all) (by rw[Zdq];omega) own.length mem.length
   refine ZdL (t:=12) (g:=g) rfl fun hg=>?_
   have hV:ZbT l md own all mem=v'V l (w'f all) own.length mem.length:=by simp[ZbT,ho,hmm,hA,z'F.1 m2,z'F.1 m16]
   have hfz: ∀H:Heap,H=shp g 3 1 ((w'f all).map iD) []→FzL H [y'8 l,y'c (w'f all),iD own.length,iD mem.length] [y'8 l,.gs g all.length,iD own.length,iD mem.length]:=fun H hH=>by
    refine ZiW ?_
    have:=v'l (g:=g) (e:=3) (s:=w'f all) (H:=H) (by rw[Zdq];exact hg) (fun b cap hb=>by rw[hH,hb];exact z'n ..)
    rw[Zdq]at this
    exact this
   rw[hta]
   repeat' first|refine vs T rfl fun K hK=>?_;(try simp (disch:=omega) only[go_sem,Nat.reduceBEq,hd,z'I]);(first|refine hK _ _ ?_;clear hK K|skip)|refine st rfl ?_|refine sc rfl ?_|refine nl ?_
   refine Op1.lend rfl rfl c4 (hfz _ rfl) (.inr rfl) ?_
   refine hK _ _ ?_
   clear hK K
   cases hC:v'V l (w'f all) own.length mem.length with
   |false=>
    rw[ZfJ (by rw[hV,hC])]
    repeat' first|refine vs T rfl fun K hK=>?_;(try simp (disch:=omega) only[go_sem,Nat.reduceBEq,z'O]);(refine hK _ _ ?_;clear hK K)|refine st rfl ?_|refine sc rfl ?_|refine nl ?_|exact w'd T (z'a _) ⟨rfl,rfl⟩
   |true=>
    rw[hC]at hV
    have hD:Zh2 l md own all mem= .tup [iD ((Zlt md own all mem l []).getD 0 0),bD true]:=by simp[Zh2,ZfI,hV]
    have hOk:l.all (x'o (w'f all) own.length mem.length)=true∧oneL (v'E l 0 0)=true:=by simpa[v'V]using hC
    rw[hD]
    repeat' first|refine vs T rfl fun K hK=>?_;(try simp (disch:=omega) only[go_sem,Nat.reduceBEq,z'E,y's]);(refine hK _ _ ?_;clear hK K)|refine st rfl ?_|refine sc rfl ?_|refine nl ?_
    refine VC.loop {p:Nat×List Int×Option (Nat×Nat)//RunI md own all mem l p.1 p.2.1} (fun p=>⟨y'd [(0,y'8 l),(1,iD md),(2,y'c own),(3,.sl false 1 (x'X all)),(4,y'c mem),(15,.gs p.1.2.2 p.1.2.1.length),(62,y'8 l),(63,iD (l.length:Nat)),(64,iD (p.1.1:Nat))],shp p.1.2.2 3 1 (p.1.2.1.map iD) []⟩) (fun p=>l.length-p.1.1) ⟨(0,[],none),RunI.zero hOk.2⟩ ?_ ?_
    ·refine Weak.subH (z'a _) ?_
     simp[sub,upd]
    ·rintro⟨⟨k,s,g⟩,hR⟩
     dsimp only at hR⊢
     have hle:=hR.le
     have hln:=hR.len
     have hsl:(s.map iD).length=s.length*1:=by simp
     rcases z'j k l.length with hlt|hge
     ·have hd:decide ((k:Int)<(l.length:Int))=true:=by simp;omega
      have hw:IntKind.i64.wrap ((k:Int)+1)=((k+1:Nat):Int):=by rw[w64 (by omega)];omega
      obtain⟨x,hx⟩: ∃x,l[k]?=some x:=⟨_,z'b hlt⟩
      have hrow:(Ziz l)[k]?=some [iD x.1,iD x.2.1,iD x.2.2]:=by rw[ZiA,hx];rfl
      have hxo:x'o (w'f all) own.length mem.length x=true:=by
       have:=hOk.1
       rw[z'o]at this
       exact this x (z'l hx)
      have hm2:2≤md:=by omega
      obtain⟨⟨n',hn'⟩,hN⟩:=hR.next hm2 hx hxo ho hmm hA
      by_cases h1:x.1=1
      ·have e1:(x.1 == 1)=true:=by simpa using h1
       have hst:v'b md own all mem s x=s++[x.2.1.tmod md]:=by simp[v'b,h1]
       rw[hst]at hN
       have hmd:md≠0:=by omega
       repeat' first|refine vs T rfl fun K hK=>?_;(try simp (disch:=omega) only[go_sem,Nat.reduceBEq,Nat.reduceAdd,Nat.reduceMul,Nat.reduceLeDiff,hd,hw,hrow,e1,hmd,ne_eq,not_false_eq_true,y's]);(first|refine hK _ _ ?_;clear hK K|refine⟨_,_,_,_,(by repeat (first|exact Sp.here|apply Sp.cons)),?_,(by exact⟨rfl,rfl⟩),⟨by decide,?_⟩,fun g' hg'=>hK _ _ ?_⟩<;>clear hK K|intro bq hbq;(try simp only[HB]at hbq);refine hK _ _ ?_;clear hK K|refine⟨?_,hK _ _ ?_⟩<;>clear hK K;focus(try omega))|refine st rfl ?_|refine sc rfl ?_|refine nl ?_
       ·exact hsl
       ·omega
       ·refine⟨⟨(k+1,_,g'),hN⟩,x'g ?_ ?_,by simp only[];omega⟩
        ·simp
        ·simp[sub,upd]
      have e1:(x.1 == 1)=false:=by simpa using h1
      by_cases h2:x.1=2
      ·have e2:(x.1 == 2)=true:=by simpa using h2
       have hst:v'b md own all mem s x=s++[own.getD x.2.1.toNat 0]:=by simp[v'b,h2]
       have hb:0≤x.2.1∧x.2.1<own.length:=y'1.1 (by simpa[x'o,h2]using hxo)
       obtain⟨v,hv⟩: ∃v,own[x.2.1.toNat]?=some v:=⟨_,z'b (by omega)⟩
       have rv:(iRs own)[x.2.1.toNat]?=some [iD v]:=by rw[x'7,hv];rfl
       rw[hst,z'd,hv,z'M]at hN
       repeat' first|refine vs T rfl fun K hK=>?_;(try simp (disch:=omega) only[go_sem,Nat.reduceBEq,Nat.reduceAdd,Nat.reduceMul,Nat.reduceLeDiff,hd,hw,hrow,e1,e2,rv,y's,z'I]);(first|refine hK _ _ ?_;clear hK K|refine⟨_,_,_,_,(by repeat (first|exact Sp.here|apply Sp.cons)),?_,(by exact⟨rfl,rfl⟩),⟨by decide,?_⟩,fun g' hg'=>hK _ _ ?_⟩<;>clear hK K|intro bq hbq;(try simp only[HB]at hbq);refine hK _ _ ?_;clear hK K|refine⟨?_,hK _ _ ?_⟩<;>clear hK K;focus(try omega))|refine st rfl ?_|refine sc rfl ?_|refine nl ?_
       ·exact hsl
       ·omega
       ·refine⟨⟨(k+1,_,g'),hN⟩,x'g ?_ ?_,by simp only[];omega⟩
        ·simp
        ·simp[sub,upd]
      have e2:(x.1 == 2)=false:=by simpa using h2
      by_cases h3:x.1=3
      ·have e3:(x.1 == 3)=true:=by simpa using h3
       have hst:v'b md own all mem s x=s++[mem.getD x.2.1.toNat 0]:=by simp[v'b,h3]
       have hb:0≤x.2.1∧x.2.1<mem.length:=y'1.1 (by simpa[x'o,h3]using hxo)
       obtain⟨v,hv⟩: ∃v,mem[x.2.1.toNat]?=some v:=⟨_,z'b (by omega)⟩
       have rv:(iRs mem)[x.2.1.toNat]?=some [iD v]:=by rw[x'7,hv];rfl
       rw[hst,z'd,hv,z'M]at hN
       repeat' first|refine vs T rfl fun K hK=>?_;(try simp (disch:=omega) only[go_sem,Nat.reduceBEq,Nat.reduceAdd,Nat.reduceMul,Nat.reduceLeDiff,hd,hw,hrow,e1,e2,e3,rv,y's,z'I]);(first|refine hK _ _ ?_;clear hK K|refine⟨_,_,_,_,(by repeat (first|exact Sp.here|apply Sp.cons)),?_,(by exact⟨rfl,rfl⟩),⟨by decide,?_⟩,fun g' hg'=>hK _ _ ?_⟩<;>clear hK K|intro bq hbq;(try simp only[HB]at hbq);refine hK _ _ ?_;clear hK K|refine⟨?_,hK _ _ ?_⟩<;>clear hK K;focus(try omega))|refine st rfl ?_|refine sc rfl ?_|refine nl ?_
       ·exact hsl
       ·omega
       ·refine⟨⟨(k+1,_,g'),hN⟩,x'g ?_ ?_,by simp only[];omega⟩
        ·simp
        ·simp[sub,upd]
      have e3:(x.1 == 3)=false:=by simpa using h3
      by_cases h4:x.1=4
      ·have e4:(x.1 == 4)=true:=by simpa using h4
       have hst:v'b md own all mem s x=s++[(all.getD x.2.2.toNat []).getD x.2.1.toNat 0]:=by simp[v'b,h4]
       have hok4:inB x.2.2 (w'f all).length=true∧inB x.2.1 (((w'f all)[x.2.2.toNat]?).getD 0)=true:=by simpa[x'o,h4]using hxo
       have hb:=y'1.1 hok4.1
       rw[Zdq]at hb
       obtain⟨r,hr⟩: ∃r,all[x.2.2.toNat]?=some r:=⟨_,z'b (by omega)⟩
       have hlr:(w'f all)[x.2.2.toNat]?=some (r.length:Int):=by simp[w'f,hr]
       have hb2:=y'1.1 hok4.2
       rw[hlr,z'M]at hb2
       obtain⟨v,hv⟩: ∃v,r[x.2.1.toNat]?=some v:=⟨_,z'b (by omega)⟩
       have rr:(x'X all)[x.2.2.toNat]?=some [y'c r]:=by rw[Zaa,hr];rfl
       have rv:(iRs r)[x.2.1.toNat]?=some [iD v]:=by rw[x'7,hv];rfl
       rw[hst,z'd (l:=all),hr,z'M,z'd,hv,z'M]at hN
       repeat' first|refine dr (id:=28) T 11 (by kernel_rfl) ?_|refine gn ?_|(first|apply VCg.step T rfl rfl|apply exF);focus((try simp (disch:=omega) only[go_sem,Nat.reduceBEq,Nat.reduceMul,Nat.reduceLeDiff,rr,rv,z'I,y'4]);(first|exact rfl|refine⟨?_,rfl⟩;try omega))|refine vs T rfl fun K hK=>?_;(try simp (disch:=omega) only[go_sem,Nat.reduceBEq,Nat.reduceAdd,Nat.reduceLeDiff,hd,hw,hrow,e1,e2,e3,e4,y's]);(first|refine hK _ _ ?_;clear hK K|refine⟨_,_,_,_,(by repeat (first|exact Sp.here|apply Sp.cons)),?_,(by exact⟨rfl,rfl⟩),⟨by decide,?_⟩,fun g' hg'=>hK _ _ ?_⟩<;>clear hK K|intro bq hbq;(try simp only[HB]at hbq);refine hK _ _ ?_;clear hK K|refine⟨?_,hK _ _ ?_⟩<;>clear hK K;focus(try omega))|refine st rfl ?_|refine sc rfl ?_|refine nl ?_
       ·exact hsl
       ·omega
       ·refine⟨⟨(k+1,_,g'),hN⟩,x'g ?_ ?_,by simp only[];omega⟩
        ·simp
        ·simp[sub,upd]
      have e4:(x.1 == 4)=false:=by simpa using h4
      refine ZdL (t:=15) (g:=g) rfl fun hg=>?_
      have hge:1≤s.length:=by
       unfold x'b at hn'
       rw[if_neg (by omega)]at hn'
       split at hn'
       ·omega
       ·split at hn'
        ·omega
        ·cases hn'
      rcases g with _|⟨b,cap⟩
      ·have:s.length=0:=hg
       omega
      have hgc:s.length≤cap:=hg
      simp only[shp]
      obtain⟨a1,ha1⟩: ∃a,s[s.length-1]?=some a:=⟨_,z'b (by omega)⟩
      have w1:IntKind.i64.wrap ((s.length:Int)-1)=((s.length-1:Nat):Int):=by rw[w64 (by omega)];omega
      have i1:=Zd9 hR.inm ha1
      have wp1:IntKind.i64.wrap (((s.length-1:Nat):Int)+1)=(s.length:Int):=by rw[w64 (by omega)];omega
      have cof:=Zry x.1
      by_cases h5:x.1=5
      ·have e4:(x.1 == 4)=false:=by simpa using h4
       have hst:v'b md own all mem s x=s.set (s.length-1) (tI (a1 == 0)):=by simp only[v'b,h5,z'd,ha1];rfl
       have cof:Pure Tryz.prog 131 [iD x.1] (.tup [.agg [iD 1,fD 192],bD true]):=by rw[h5]at cof⊢;exact cof
       rw[hst]at hN
       repeat' first|refine dr (id:=19) T 14 (by kernel_rfl) ?_|refine gn ?_|(first|apply VCg.step T rfl rfl|apply exF);focus((try simp (disch:=omega) only[go_sem,Nat.reduceBEq,ha1,z'K]);(first|exact rfl|refine⟨?_,rfl⟩;try omega|refine Op1.callp rfl rfl (ZtG a1 a1 md) rfl ?_;exact⟨rfl,rfl⟩))|refine vs T rfl fun K hK=>?_;(try simp (disch:=omega) only[go_sem,Nat.reduceBEq,Nat.reduceAdd,Nat.reduceLeDiff,hd,hw,hrow,e1,e2,e3,e4,w1,wp1,z'K,y's]);(first|refine hK _ _ ?_;clear hK K|intro bq hbq;(try simp only[HB]at hbq);refine hK _ _ ?_;clear hK K|refine⟨?_,hK _ _ ?_⟩<;>clear hK K;focus(try omega)|refine Op1.callp rfl rfl (cof) rfl ?_;refine hK _ _ ?_;clear hK K)|refine st rfl ?_|refine sc rfl ?_|refine nl ?_
       refine⟨⟨(k+1,_,some (b,cap)),hN⟩,Zhb ?_ ?_,by simp only[];omega⟩
       ·simp[shp,x'd]
       ·simp[sub,upd]
      have h6:(6≤x.1∧x.1≤14)∧2≤s.length:=by
       unfold x'b at hn'
       rw[if_neg (by omega),if_neg (by omega)]at hn'
       split at hn'
       ·omega
       ·cases hn'
      obtain⟨a2,ha2⟩: ∃a,s[s.length-2]?=some a:=⟨_,z'b (by omega)⟩
      have w2:IntKind.i64.wrap ((s.length:Int)-2)=((s.length-2:Nat):Int):=by rw[w64 (by omega)];omega
      have wp2:IntKind.i64.wrap (((s.length-2:Nat):Int)+1)=((s.length-1:Nat):Int):=by rw[w64 (by omega)];omega
      have i2:=Zd9 hR.inm ha2
      have hst:v'b md own all mem s x=(s.set (s.length-2) (w'V x.1 a2 a1 md)).take (s.length-1):=by simp only[v'b,h1,h2,h3,h4,h5,if_false,z'd,ha1,ha2,z'M]
      rw[hst]at hN
      rw[ZmH h6.1]at cof
      have cl:=Zt8 x.1 a2 a1 md h6.1 (by omega) (by omega) (by omega)
      repeat' first|refine dr (id:=19) T 14 (by kernel_rfl) ?_|refine gn ?_|(first|apply VCg.step T rfl rfl|apply exF);focus((try simp (disch:=omega) only[go_sem,Nat.reduceBEq,ha1,ha2,z'K]);(first|exact rfl|refine⟨?_,rfl⟩;try omega|refine Op1.callp rfl rfl (cl) rfl ?_;exact⟨rfl,rfl⟩))|refine vs T rfl fun K hK=>?_;(try simp (disch:=omega) only[go_sem,Nat.reduceBEq,Nat.reduceAdd,Nat.reduceLeDiff,hd,hw,hrow,e1,e2,e3,e4,w1,wp1,w2,wp2,z'K,y's]);(first|refine hK _ _ ?_;clear hK K|intro bq hbq;(try simp only[HB]at hbq);refine hK _ _ ?_;clear hK K|refine⟨?_,hK _ _ ?_⟩<;>clear hK K;focus(try omega)|refine Op1.callp rfl rfl (cof) rfl ?_;refine hK _ _ ?_;clear hK K)|refine st rfl ?_|refine sc rfl ?_|refine nl ?_
      have hlen:((s.set (s.length-2) (w'V x.1 a2 a1 md)).take (s.length-1)).length=s.length-1:=by rw[z'y,y't];omega
      refine⟨⟨(k+1,_,some (b,cap)),hN⟩,?_,by simp only[];omega⟩
      refine Weak.trans (Zhb (H':=[(b,.cells _ _ ((s.set (s.length-2) (w'V x.1 a2 a1 md)).map iD))]) ?_ ?_) Weak.cutC
      ·simp[shp,x'd]
      ·rw[hlen]
       simp[sub,upd]
     ·have hd:decide ((k:Int)<(l.length:Int))=false:=by simp;omega
      obtain⟨hr1,hr2⟩:=hR.last (by omega)
      refine ZdL (t:=15) (g:=g) rfl fun hg=>?_
      rcases g with _|⟨b,cap⟩
      ·have:s.length=0:=hg
       omega
      obtain⟨v,hv⟩: ∃v,s[0]?=some v:=⟨_,z'b (by omega)⟩
      rw[←hr1,z'd,hv,z'M]
      simp only[shp]
      repeat' first|refine vs T rfl fun K hK=>?_;(try simp (disch:=omega) only[go_sem,Nat.reduceBEq,Int.reduceToNat,hd,hv,hr2]);(first|refine hK _ _ ?_;clear hK K|refine⟨?_,hK _ _ ?_⟩<;>clear hK K;focus(try omega))|refine st rfl ?_|refine sc rfl ?_|refine nl ?_|exact w'd T (z'a _) ⟨rfl,rfl⟩
end Go.Proofs.YthlkpnjjkgmlkaaGreat
