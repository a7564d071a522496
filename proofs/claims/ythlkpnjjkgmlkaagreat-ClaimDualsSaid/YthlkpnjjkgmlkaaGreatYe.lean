/- Contracts: code's value, as the program says. No condition. -/
import Derived.Test.YthlkpnjjkgmlkaaGreatYd
import Derived.Test.YthlkpnjjkgmlkaaGreatYb
namespace Go.Proofs.YthlkpnjjkgmlkaaGreat
set_option maxHeartbeats 16000000
set_option linter.unusedSimpArgs false
set_option linter.unusedVariables false
set_option maxRecDepth 20000
open Go Go.Proofs Go.Vc
attribute [local irreducible] x'v VCg VCw VCx
theorem ZhQ {env:Nat→D} {env':List (Nat×D)} {x y:Nat×HC} {H H':Heap} (hh:H=H') (h:Vc.sub env env'):Weak ⟨env,x::y::H⟩ ⟨z'T env',H'⟩:=Weak.subH (hh▸(y'H _ _).trans (y'H _ _)) h
theorem ZrS (l:List Opc) (md:Int) (own:List Int) (all:List (List Int)) (mem:List Int) (hk:OkV l own all mem):Pure Tryz.prog 69 [z'S l,iD md,y'r own,.sl false 1 (w'y all),y'r mem] (valD2 l md own all mem):=by
 have kl:=hk.kl
 have ko:=hk.ko
 have km:=hk.km
 have ka:=hk.ka
 refine Fun.of T [.tmp 10,.tmp 11] Tryz.func69 rfl Tryz.ntmps69 Tryz.results69 rfl (by kernel_rfl) ?_
 by_cases m2:md<2
 ·have e1:decide (md<2)=true:=by simpa using m2
  rw[Za8 (by simp[w'1];omega)]
  repeat' first|refine mq1 @e1 ?_|exact y'B T (z'a _) ⟨rfl,rfl⟩|fail
 have e1:decide (md<2)=false:=by simpa using m2
 by_cases m16:md>16
 ·have e2:decide (md>16)=true:=by simpa using m16
  rw[Za8 (by simp[w'1];omega)]
  repeat' first|refine mq1 (z'X @e1 @e2) ?_|exact y'B T (z'a _) ⟨rfl,rfl⟩|fail
 have e2:decide (md>16)=false:=by simpa using m16
 have hrow2: ∀r,r∈[own,mem]→r.length≤1000:=fun r hr=>by
  rcases z'F.1 hr with rfl|hr
  ·exact ko
  ·rcases z'F.1 hr with rfl|hr
   ·exact km
   ·cases hr
 have cb:=ZkK md [own,mem] (by simp) hrow2
 have cb:Pure Tryz.prog 129 [iD md,.sl true 1 [[y'r own],[y'r mem]]] (bD (Zbi md [own,mem])):=Fun.argsW cb (x'o Zu9)
 have cb2:=ZkK md all ka hk.kr
 cases hB:Zbi md [own,mem]with
 |false=>
  have hoo:y'O own md=false∨y'O mem md=false:=by
   simp only[Zbi,y'x,ZaI,v'C]at hB
   cases h1:y'O own md<;>cases h2:y'O mem md<;>simp_all
  rw[Za8 (by rcases hoo with h|h<;>simp[w'1,h])]
  repeat' first|refine mq2 (x'i @e1 @e2 @hB) cb ?_|exact y'B T (z'a _) ⟨rfl,rfl⟩|fail
 |true=>
 have ho:y'O own md=true:=by
  simp only[Zbi,y'x,ZaI,v'C,z'f]at hB
  exact hB.1
 have hmm:y'O mem md=true:=by
  simp only[Zbi,y'x,ZaI,v'C,z'f]at hB
  exact hB.2
 cases hA:Zbi md all with
 |false=>
  have hA':(all.all fun r=>y'O r md)=false:=hA
  rw[Za8 (by simp only[w'1,hA',w'G,v'V])]
  repeat' first|refine mq2 (x'f @e1 @e2 @hB @hA) (z'X cb cb2) ?_|exact y'B T (z'a _) ⟨rfl,rfl⟩|fail
 |true=>
 have hA:(all.all fun r=>y'O r md)=true:=hA
 repeat' first|refine vs T rfl fun K hK=>?_;(try simp (disch:=omega) only[go_sem,Nat.reduceBEq,Nat.reduceAdd,Nat.reduceMul,Nat.reduceLeDiff,e1,e2,hB,(show Zbi md all=true from hA),z'P,y'C]);(first|refine hK _ _ ?_;clear hK K|refine Op1.callp rfl rfl (cb) rfl ?_;refine hK _ _ ?_;clear hK K|refine Op1.callp rfl rfl (cb2) rfl ?_;refine hK _ _ ?_;clear hK K)|refine st rfl ?_|refine sc rfl ?_|refine nl ?_|refine gs rfl rfl ?_
 refine VC.loop {p:Nat×Option (Nat×Nat)//p.1≤all.length} (fun p=>⟨z'T [(0,z'S l),(1,iD md),(2,y'r own),(3,.sl false 1 (w'y all)),(4,y'r mem),(12,.gs p.1.2 p.1.1),(42,.sl false 1 (w'y all)),(43,iD (all.length:Nat)),(44,iD (p.1.1:Nat))],shp p.1.2 3 1 ((x'y (all.take p.1.1)).map iD) []⟩) (fun p=>all.length-p.1.1) ⟨(0,none),by simp⟩ ?_ ?_
 ·refine Weak.sub ?_
  simp[sub,upd]
 ·rintro⟨⟨k,g⟩,hka⟩
  dsimp only at hka⊢
  have hfl:((x'y (all.take k)).map iD).length=k*1:=by simp[x'y];omega
  rcases z'i k all.length with hlt|hge
  ·have hd:decide ((k:Int)<(all.length:Int))=true:=by simp;omega
   have hw:IntKind.i64.wrap ((k:Int)+1)=((k+1:Nat):Int):=by rw[w64 (by omega)];omega
   obtain⟨r,hr⟩: ∃r,all[k]?=some r:=⟨_,z'c hlt⟩
   have hrow:(w'y all)[k]?=some [y'r r]:=by rw[v'3,hr];rfl
   have hrl:=hk.kr r (z'l hr)
   repeat' first|refine mq1 (y'Z @hd @hw @hrow @y'C @z'o) ?_|refine .wk ?_ ?_;focus(try omega)|refine vs T rfl fun K hK=>?_;(try simp (disch:=omega) only[go_sem,Nat.reduceBEq,Nat.reduceMul,Nat.reduceLeDiff,hd,hw,hrow,y'C,z'o]);(first|refine⟨_,_,_,_,(by repeat (exact Sp.here)),?_,(by exact⟨rfl,rfl⟩),⟨by decide,?_⟩,fun g' hg'=>hK _ _ ?_⟩<;>clear hK K)|fail
   ·exact hfl
   ·omega
   ·refine⟨⟨(k+1,g'),by simp only[];omega⟩,z'Q ?_ ?_,by simp only[];omega⟩
    ·simp only[]
     rw[Zip hr]
    ·simp[sub,upd]
  ·have hd:decide ((k:Int)<(all.length:Int))=false:=by simp;omega
   obtain rfl:k=all.length:=by omega
   have hta:all.take all.length=all:=y'g
   have c4:=Zrz l kl (x'y all) (by rw[Zan];omega) own.length mem.length
   refine ZaD (t:=12) (g:=g) rfl fun hg=>?_
   have hV:w'1 l md own all mem=y'G l (x'y all) own.length mem.length:=by simp[w'1,ho,hmm,hA,z'w.1 m2,z'w.1 m16]
   have hfz: ∀H:Heap,H=shp g 3 1 ((x'y all).map iD) []→FzL H [z'S l,y'r (x'y all),iD own.length,iD mem.length] [z'S l,.gs g all.length,iD own.length,iD mem.length]:=fun H hH=>by
    refine x'o ?_
    have:=w'H (g:=g) (e:=3) (s:=x'y all) (H:=H) (by rw[Zan];exact hg) (fun b cap hb=>by rw[hH,hb];exact z'z ..)
    rw[Zan]at this
    exact this
   rw[hta]
   repeat' first|refine vs T rfl fun K hK=>?_;(try simp (disch:=omega) only[go_sem,Nat.reduceBEq,hd,z'o]);(first|refine hK _ _ ?_;clear hK K|skip)|refine st rfl ?_|refine sc rfl ?_|refine nl ?_
   refine Op1.lend rfl rfl c4 (hfz _ rfl) (.inr rfl) ?_
   refine hK _ _ ?_
   clear hK K
   cases hC:y'G l (x'y all) own.length mem.length with
   |false=>
    rw[Za8 (by rw[hV,hC])]
    repeat' first|refine mq0 ?_|exact y'B T (z'a _) ⟨rfl,rfl⟩|fail
   |true=>
    rw[hC]at hV
    have hD:valD2 l md own all mem= .tup [iD ((ZdO md own all mem l []).getD 0 0),bD true]:=by simp[valD2,Zcc,hV]
    have hOk:l.all (y'y (x'y all) own.length mem.length)=true∧oneL (w'i l 0 0)=true:=by simpa[y'G]using hC
    rw[hD]
    repeat' first|refine mq1 @z'C ?_|fail
    refine VC.loop {p:Nat×List Int×Option (Nat×Nat)//RunI md own all mem l p.1 p.2.1} (fun p=>⟨z'T [(0,z'S l),(1,iD md),(2,y'r own),(3,.sl false 1 (w'y all)),(4,y'r mem),(15,.gs p.1.2.2 p.1.2.1.length),(62,z'S l),(63,iD (l.length:Nat)),(64,iD (p.1.1:Nat))],shp p.1.2.2 3 1 (p.1.2.1.map iD) []⟩) (fun p=>l.length-p.1.1) ⟨(0,[],none),RunI.zero hOk.2⟩ ?_ ?_
    ·refine Weak.subH (z'a _) ?_
     simp[sub,upd]
    ·rintro⟨⟨k,s,g⟩,hR⟩
     dsimp only at hR⊢
     have hle:=hR.le
     have hln:=hR.len
     have hsl:(s.map iD).length=s.length*1:=by simp
     rcases z'i k l.length with hlt|hge
     ·have hd:decide ((k:Int)<(l.length:Int))=true:=by simp;omega
      have hw:IntKind.i64.wrap ((k:Int)+1)=((k+1:Nat):Int):=by rw[w64 (by omega)];omega
      obtain⟨x,hx⟩: ∃x,l[k]?=some x:=⟨_,z'c hlt⟩
      have hrow:(w'l l)[k]?=some [iD x.1,iD x.2.1,iD x.2.2]:=by rw[Zdl,hx];rfl
      have hxo:y'y (x'y all) own.length mem.length x=true:=by
       have:=hOk.1
       rw[z'q]at this
       exact this x (z'l hx)
      have hm2:2≤md:=by omega
      obtain⟨⟨n',hn'⟩,hN⟩:=hR.next hm2 hx hxo ho hmm hA
      by_cases h1:x.1=1
      ·have e1:(x.1 == 1)=true:=by simpa using h1
       have hst:w'c md own all mem s x=s++[x.2.1.tmod md]:=by simp[w'c,h1]
       rw[hst]at hN
       have hmd:md≠0:=by omega
       repeat' first|refine mq1 (x'V @hd @hw @hrow @e1 @hmd @z'C) ?_|refine mqn fun bq hbq=>?_|refine .wk ?_ ?_;focus(try omega)|refine vs T rfl fun K hK=>?_;(try simp (disch:=omega) only[go_sem,Nat.reduceBEq,Nat.reduceAdd,Nat.reduceMul,Nat.reduceLeDiff,hd,hw,hrow,e1,hmd,ne_eq,not_false_eq_true,z'C]);(first|refine⟨_,_,_,_,(by repeat (first|exact Sp.here|apply Sp.cons)),?_,(by exact⟨rfl,rfl⟩),⟨by decide,?_⟩,fun g' hg'=>hK _ _ ?_⟩<;>clear hK K)|fail
       ·exact hsl
       ·omega
       ·refine⟨⟨(k+1,_,g'),hN⟩,y'U ?_ ?_,by simp only[];omega⟩
        ·simp
        ·simp[sub,upd]
      have e1:(x.1 == 1)=false:=by simpa using h1
      by_cases h2:x.1=2
      ·have e2:(x.1 == 2)=true:=by simpa using h2
       have hst:w'c md own all mem s x=s++[own.getD x.2.1.toNat 0]:=by simp[w'c,h2]
       have hb:0≤x.2.1∧x.2.1<own.length:=x'e.1 (by simpa[y'y,h2]using hxo)
       obtain⟨v,hv⟩: ∃v,own[x.2.1.toNat]?=some v:=⟨_,z'c (by omega)⟩
       have rv:(iRs own)[x.2.1.toNat]?=some [iD v]:=by rw[x'q,hv];rfl
       rw[hst,z'g,hv,z'y]at hN
       repeat' first|refine mq1 (Za1 @hd @hw @hrow @e1 @e2 @rv @z'C @z'o) ?_|refine mqn fun bq hbq=>?_|refine .wk ?_ ?_;focus(try omega)|refine vs T rfl fun K hK=>?_;(try simp (disch:=omega) only[go_sem,Nat.reduceBEq,Nat.reduceAdd,Nat.reduceMul,Nat.reduceLeDiff,hd,hw,hrow,e1,e2,rv,z'C,z'o]);(first|refine⟨_,_,_,_,(by repeat (first|exact Sp.here|apply Sp.cons)),?_,(by exact⟨rfl,rfl⟩),⟨by decide,?_⟩,fun g' hg'=>hK _ _ ?_⟩<;>clear hK K)|fail
       ·exact hsl
       ·omega
       ·refine⟨⟨(k+1,_,g'),hN⟩,y'U ?_ ?_,by simp only[];omega⟩
        ·simp
        ·simp[sub,upd]
      have e2:(x.1 == 2)=false:=by simpa using h2
      by_cases h3:x.1=3
      ·have e3:(x.1 == 3)=true:=by simpa using h3
       have hst:w'c md own all mem s x=s++[mem.getD x.2.1.toNat 0]:=by simp[w'c,h3]
       have hb:0≤x.2.1∧x.2.1<mem.length:=x'e.1 (by simpa[y'y,h3]using hxo)
       obtain⟨v,hv⟩: ∃v,mem[x.2.1.toNat]?=some v:=⟨_,z'c (by omega)⟩
       have rv:(iRs mem)[x.2.1.toNat]?=some [iD v]:=by rw[x'q,hv];rfl
       rw[hst,z'g,hv,z'y]at hN
       repeat' first|refine mq1 (v'1 @hd @hw @hrow @e1 @e2 @e3 @rv @z'C @z'o) ?_|refine mqn fun bq hbq=>?_|refine .wk ?_ ?_;focus(try omega)|refine vs T rfl fun K hK=>?_;(try simp (disch:=omega) only[go_sem,Nat.reduceBEq,Nat.reduceAdd,Nat.reduceMul,Nat.reduceLeDiff,hd,hw,hrow,e1,e2,e3,rv,z'C,z'o]);(first|refine⟨_,_,_,_,(by repeat (first|exact Sp.here|apply Sp.cons)),?_,(by exact⟨rfl,rfl⟩),⟨by decide,?_⟩,fun g' hg'=>hK _ _ ?_⟩<;>clear hK K)|fail
       ·exact hsl
       ·omega
       ·refine⟨⟨(k+1,_,g'),hN⟩,y'U ?_ ?_,by simp only[];omega⟩
        ·simp
        ·simp[sub,upd]
      have e3:(x.1 == 3)=false:=by simpa using h3
      by_cases h4:x.1=4
      ·have e4:(x.1 == 4)=true:=by simpa using h4
       have hst:w'c md own all mem s x=s++[(all.getD x.2.2.toNat []).getD x.2.1.toNat 0]:=by simp[w'c,h4]
       have hok4:inB x.2.2 (x'y all).length=true∧inB x.2.1 (((x'y all)[x.2.2.toNat]?).getD 0)=true:=by simpa[y'y,h4]using hxo
       have hb:=x'e.1 hok4.1
       rw[Zan]at hb
       obtain⟨r,hr⟩: ∃r,all[x.2.2.toNat]?=some r:=⟨_,z'c (by omega)⟩
       have hlr:(x'y all)[x.2.2.toNat]?=some (r.length:Int):=by simp[x'y,hr]
       have hb2:=x'e.1 hok4.2
       rw[hlr,z'y]at hb2
       obtain⟨v,hv⟩: ∃v,r[x.2.1.toNat]?=some v:=⟨_,z'c (by omega)⟩
       have rr:(w'y all)[x.2.2.toNat]?=some [y'r r]:=by rw[v'3,hr];rfl
       have rv:(iRs r)[x.2.1.toNat]?=some [iD v]:=by rw[x'q,hv];rfl
       rw[hst,z'g (l:=all),hr,z'y,z'g,hv,z'y]at hN
       repeat' first|refine dr (id:=28) T 11 (by kernel_rfl) ?_|(first|apply VCg.step T rfl rfl|apply exF);focus((try simp (disch:=omega) only[go_sem,Nat.reduceBEq,Nat.reduceMul,Nat.reduceLeDiff,rr,rv,z'o,y'C]);(first|exact rfl|refine⟨?_,rfl⟩;try omega))|refine mq1 (Za1 @hd @hw @hrow @e1 @e2 @e3 @e4 @z'C) ?_|refine mqn fun bq hbq=>?_|refine .wk ?_ ?_;focus(try omega)|refine vs T rfl fun K hK=>?_;(try simp (disch:=omega) only[go_sem,Nat.reduceBEq,Nat.reduceAdd,Nat.reduceLeDiff,hd,hw,hrow,e1,e2,e3,e4,z'C]);(first|refine⟨_,_,_,_,(by repeat (first|exact Sp.here|apply Sp.cons)),?_,(by exact⟨rfl,rfl⟩),⟨by decide,?_⟩,fun g' hg'=>hK _ _ ?_⟩<;>clear hK K)|fail
       ·exact hsl
       ·omega
       ·refine⟨⟨(k+1,_,g'),hN⟩,y'U ?_ ?_,by simp only[];omega⟩
        ·simp
        ·simp[sub,upd]
      have e4:(x.1 == 4)=false:=by simpa using h4
      refine ZaD (t:=15) (g:=g) rfl fun hg=>?_
      have hge:1≤s.length:=by
       unfold y'v at hn'
       rw[if_neg (by omega)]at hn'
       split at hn'
       ·omega
       ·split at hn'
        ·omega
        ·cases hn'
      rcases g with _|⟨b,cap⟩
      ·have:s.length=0:=hg
       omega
      have hgc:s.length≤cap:=hg
      simp only[shp]
      obtain⟨a1,ha1⟩: ∃a,s[s.length-1]?=some a:=⟨_,z'c (by omega)⟩
      have w1:IntKind.i64.wrap ((s.length:Int)-1)=((s.length-1:Nat):Int):=by rw[w64 (by omega)];omega
      have i1:=Zcg hR.inm ha1
      have wp1:IntKind.i64.wrap (((s.length-1:Nat):Int)+1)=(s.length:Int):=by rw[w64 (by omega)];omega
      have cof:=Zr5 x.1
      by_cases h5:x.1=5
      ·have e4:(x.1 == 4)=false:=by simpa using h4
       have hst:w'c md own all mem s x=s.set (s.length-1) (tI (a1 == 0)):=by simp only[w'c,h5,z'g,ha1];rfl
       have cof:Pure Tryz.prog 131 [iD x.1] (.tup [.agg [iD 1,fD 192],bD true]):=by rw[h5]at cof⊢;exact cof
       rw[hst]at hN
       repeat' first|refine dr (id:=19) T 14 (by kernel_rfl) ?_|(first|apply VCg.step T rfl rfl|apply exF);focus((try simp (disch:=omega) only[go_sem,Nat.reduceBEq,ha1,y'd]);(first|exact rfl|refine⟨?_,rfl⟩;try omega|refine Op1.callp rfl rfl (Zum a1 a1 md) rfl ?_;exact⟨rfl,rfl⟩))|refine mq2 (Zdc @hd @hw @hrow @e1 @e2 @e3 @e4 @w1 @wp1 @y'd @z'C) cof ?_|refine mqn fun bq hbq=>?_|refine .wk ?_ ?_;focus(try omega)|fail
       refine⟨⟨(k+1,_,some (b,cap)),hN⟩,ZhQ ?_ ?_,by simp only[];omega⟩
       ·simp[shp,y'P]
       ·simp[sub,upd]
      have h6:(6≤x.1∧x.1≤14)∧2≤s.length:=by
       unfold y'v at hn'
       rw[if_neg (by omega),if_neg (by omega)]at hn'
       split at hn'
       ·omega
       ·cases hn'
      obtain⟨a2,ha2⟩: ∃a,s[s.length-2]?=some a:=⟨_,z'c (by omega)⟩
      have w2:IntKind.i64.wrap ((s.length:Int)-2)=((s.length-2:Nat):Int):=by rw[w64 (by omega)];omega
      have wp2:IntKind.i64.wrap (((s.length-2:Nat):Int)+1)=((s.length-1:Nat):Int):=by rw[w64 (by omega)];omega
      have i2:=Zcg hR.inm ha2
      have hst:w'c md own all mem s x=(s.set (s.length-2) (x'B x.1 a2 a1 md)).take (s.length-1):=by simp only[w'c,h1,h2,h3,h4,h5,if_false,z'g,ha1,ha2,z'y]
      rw[hst]at hN
      rw[Znf h6.1]at cof
      have cl:=Zu7 x.1 a2 a1 md h6.1 (by omega) (by omega) (by omega)
      repeat' first|refine dr (id:=19) T 14 (by kernel_rfl) ?_|(first|apply VCg.step T rfl rfl|apply exF);focus((try simp (disch:=omega) only[go_sem,Nat.reduceBEq,ha1,ha2,y'd]);(first|exact rfl|refine⟨?_,rfl⟩;try omega|refine Op1.callp rfl rfl (cl) rfl ?_;exact⟨rfl,rfl⟩))|refine mq2 (Zir @hd @hw @hrow @e1 @e2 @e3 @e4 @w1 @wp1 @w2 @wp2 @y'd @z'C) cof ?_|refine mqn fun bq hbq=>?_|refine .wk ?_ ?_;focus(try omega)|fail
      have hlen:((s.set (s.length-2) (x'B x.1 a2 a1 md)).take (s.length-1)).length=s.length-1:=by rw[z'L,x'w];omega
      refine⟨⟨(k+1,_,some (b,cap)),hN⟩,?_,by simp only[];omega⟩
      refine Weak.trans (ZhQ (H':=[(b,.cells _ _ ((s.set (s.length-2) (x'B x.1 a2 a1 md)).map iD))]) ?_ ?_) Weak.cutC
      ·simp[shp,y'P]
      ·rw[hlen]
       simp[sub,upd]
     ·have hd:decide ((k:Int)<(l.length:Int))=false:=by simp;omega
      obtain⟨hr1,hr2⟩:=hR.last (by omega)
      refine ZaD (t:=15) (g:=g) rfl fun hg=>?_
      rcases g with _|⟨b,cap⟩
      ·have:s.length=0:=hg
       omega
      obtain⟨v,hv⟩: ∃v,s[0]?=some v:=⟨_,z'c (by omega)⟩
      rw[←hr1,z'g,hv,z'y]
      simp only[shp]
      repeat' first|refine mq1 (x'i @hd @hv @hr2) ?_|refine .wk ?_ ?_;focus(try omega)|exact y'B T (z'a _) ⟨rfl,rfl⟩|fail
end Go.Proofs.YthlkpnjjkgmlkaaGreat
