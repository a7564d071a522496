/- Contracts: store, and its reference. No condition. -/
import Derived.Test.YthlkpnjjkgmlkaaGreatBa
namespace Go.Proofs.YthlkpnjjkgmlkaaGreat
set_option maxHeartbeats 16000000
set_option linter.unusedSimpArgs false
set_option linter.unusedVariables false
set_option maxRecDepth 20000
open Go Go.Proofs Go.Vc
attribute [local irreducible] x'v VCg VCw VCx
theorem Ztx (a b:List En) (ha:a.length≤1000000) (hb:b.length≤1000000):Pure Tryz.prog 220 [buf a,buf b] (bD (decide (a=b))):=by
 refine Fun.of T [.tmp 4] Tryz.func220 rfl Tryz.ntmps220 Tryz.results220 rfl (by kernel_rfl) ?_
 by_cases hl:a.length=b.length
 ·have hl':((a.length:Int) != (b.length:Int))=false:=by simp[hl]
  repeat' first|refine mq1 (z'X @z'R @hl') ?_|fail
  refine VC.loop {k:Nat//k≤a.length∧ ∀i,i<k→a[i]?=b[i]?} (fun p=>⟨z'T [(0,buf a),(1,buf b),(5,iD (p.1:Nat))],[]⟩) (fun p=>a.length-p.1) ⟨0,by omega,fun i hi=>by omega⟩ ?_ ?_
  ·refine Weak.sub ?_
   simp[sub,upd]
  ·rintro⟨k,hk,hs⟩
   dsimp only
   rcases z'i k a.length with hlt|hge
   ·have hd:decide ((k:Int)<(a.length:Int))=true:=by simp;omega
    have hw:IntKind.i64.wrap ((k:Int)+1)=((k+1:Nat):Int):=by rw[w64 (by omega)];omega
    have hkb:k<b.length:=by omega
    obtain⟨x,hx⟩: ∃x,a[k]?=some x:=⟨_,z'c hlt⟩
    obtain⟨y,hy⟩: ∃y,b[k]?=some y:=⟨_,z'c hkb⟩
    have hrx:(eRs a)[k]?=some [iD x.1,iD x.2]:=by rw[v'Q,hx];rfl
    have hry:(eRs b)[k]?=some [iD y.1,iD y.2]:=by rw[v'Q,hy];rfl
    by_cases he:x=y
    ·subst he
     repeat' first|refine dr (id:=6) T 8 (by kernel_rfl) ?_|apply VCg.step T rfl rfl;focus((try simp (disch:=omega) only[go_sem,Nat.reduceBEq,Nat.reduceAdd,Nat.reduceLeDiff,hrx,hry,z'R,beq_self_eq_true]);(first|exact rfl|refine⟨?_,rfl⟩;try omega))|refine mq1 (x'i @hd @hw @z'R) ?_|refine vs T rfl fun K hK=>?_;(try simp (disch:=omega) only[go_sem,Nat.reduceBEq,hd,hw,z'R,beq_self_eq_true,z'P]);(first|refine Op1.eqS rfl (ZtT _ _ _ _) rfl rfl rfl ?_;refine hK _ _ ?_;clear hK K)|with_reducible refine gf ?_ ?_;focus(simp (disch:=omega) only[go_sem,beq_self_eq_true,z'P];done)|fail
     refine⟨⟨k+1,by omega,fun i hi=>?_⟩,Weak.sub ?_,by simp only[];omega⟩
     ·rcases z'i i k with h'|h'
      ·exact hs i h'
      ·obtain rfl:i=k:=by omega
       rw[hx,hy]
     ·simp[sub,upd]
    ·have hne:(x.1 == y.1&&x.2 == y.2)=false:=by
      rw[Bool.eq_false_iff]
      simp only[z'f,beq_iff_eq,ne_eq]
      exact fun h=>he (Prod.ext h.1 h.2)
     have hab:decide (a=b)=false:=by
      rw[decide_eq_false_iff_not]
      intro h
      rw[h,hy]at hx
      exact he (z'O hx).symm
     rw[hab]
     repeat' first|refine dr (id:=6) T 8 (by kernel_rfl) ?_|apply VCg.step T rfl rfl;focus((try simp (disch:=omega) only[go_sem,Nat.reduceBEq,Nat.reduceAdd,Nat.reduceLeDiff,hrx,hry,z'R]);(first|exact rfl|refine⟨?_,rfl⟩;try omega))|refine mq1 (x'i @hd @hne @z'R) ?_|refine vs T rfl fun K hK=>?_;(try simp (disch:=omega) only[go_sem,Nat.reduceBEq,hd,hne,z'R,z'W]);(first|refine Op1.eqS rfl (ZtT _ _ _ _) rfl rfl rfl ?_;refine hK _ _ ?_;clear hK K)|exact z'p T (z'a _) ⟨rfl,rfl⟩|with_reducible refine gt ?_ ?_;focus(simp (disch:=omega) only[go_sem,hne,z'W];done)|fail
   ·have hd:decide ((k:Int)<(a.length:Int))=false:=by simp;omega
    have hab:decide (a=b)=true:=by
     rw[decide_eq_true_eq]
     apply w'M
     intro i
     rcases z'i i a.length with h'|h'
     ·exact hs i (by omega)
     ·rw[z'M h',z'M (by omega)]
    rw[hab]
    repeat' first|refine mq1 (z'X @hd @z'R) ?_|exact z'p T (z'a _) ⟨rfl,rfl⟩|fail
 ·have hl':((a.length:Int) != (b.length:Int))=true:=bne_iff_ne.2 (by omega)
  have hab:decide (a=b)=false:=by
   rw[decide_eq_false_iff_not]
   intro h
   exact hl (by rw[h])
  rw[hab]
  repeat' first|refine mq1 (z'X @z'R @hl') ?_|exact z'p T (z'a _) ⟨rfl,rfl⟩|fail
theorem z'o (l:List Int):(iRs l).length=l.length:=z'm ..
theorem x'q (l:List Int) (i:Nat):(iRs l)[i]?=(l[i]?).map fun n=>[iD n]:=y'c ..
theorem ZeI (l:List Int): ∀r,r∈iRs l→r.length=1:=by
 intro r h
 obtain⟨x,_,rfl⟩:=z'D.1 h
 rfl
theorem Zfs (l:List Int):(iRs l).flatten=l.map iD:=by
 induction l with
 |nil=>rfl
 |cons n l ih=>rw[iRs,z's,y'f];rw[iRs]at ih;rw[ih];rfl
theorem ZgJ (a b:List Int) (ha:a.length≤1000000) (hb:b.length≤1000000):Pure Tryz.prog 38 [y'r a,y'r b] (bD (decide (a=b))):=by
 refine Fun.of T [.tmp 4] Tryz.func38 rfl Tryz.ntmps38 Tryz.results38 rfl (by kernel_rfl) ?_
 by_cases hl:a.length=b.length
 ·have hl':((a.length:Int) != (b.length:Int))=false:=by simp[hl]
  repeat' first|refine mq1 (z'X @z'o @hl') ?_|fail
  refine VC.loop {k:Nat//k≤a.length∧ ∀i,i<k→a[i]?=b[i]?} (fun p=>⟨z'T [(0,y'r a),(1,y'r b),(5,iD (p.1:Nat))],[]⟩) (fun p=>a.length-p.1) ⟨0,by omega,fun i hi=>by omega⟩ ?_ ?_
  ·refine Weak.sub ?_
   simp[sub,upd]
  ·rintro⟨k,hk,hs⟩
   dsimp only
   rcases z'i k a.length with hlt|hge
   ·have hd:decide ((k:Int)<(a.length:Int))=true:=by simp;omega
    have hw:IntKind.i64.wrap ((k:Int)+1)=((k+1:Nat):Int):=by rw[w64 (by omega)];omega
    have hkb:k<b.length:=by omega
    obtain⟨x,hx⟩: ∃x,a[k]?=some x:=⟨_,z'c hlt⟩
    obtain⟨y,hy⟩: ∃y,b[k]?=some y:=⟨_,z'c hkb⟩
    have hrx:(iRs a)[k]?=some [iD x]:=by rw[x'q,hx];rfl
    have hry:(iRs b)[k]?=some [iD y]:=by rw[x'q,hy];rfl
    by_cases he:x=y
    ·have he':(x != y)=false:=by simp[he]
     repeat' first|refine dr (id:=6) T 8 (by kernel_rfl) ?_|apply VCg.step T rfl rfl;focus((try simp (disch:=omega) only[go_sem,Nat.reduceBEq,hrx,hry,z'o]);(first|exact rfl|refine⟨?_,rfl⟩;try omega))|refine mq1 (x'f @hd @hw @he' @z'o) ?_|fail
     refine⟨⟨k+1,by omega,fun i hi=>?_⟩,Weak.sub ?_,by simp only[];omega⟩
     ·rcases z'i i k with h'|h'
      ·exact hs i h'
      ·obtain rfl:i=k:=by omega
       rw[hx,hy,he]
     ·simp[sub,upd]
    ·have he':(x != y)=true:=by simpa using he
     have hab:decide (a=b)=false:=by
      rw[decide_eq_false_iff_not]
      intro h
      rw[h,hy]at hx
      exact he (z'O hx).symm
     rw[hab]
     repeat' first|refine dr (id:=6) T 8 (by kernel_rfl) ?_|apply VCg.step T rfl rfl;focus((try simp (disch:=omega) only[go_sem,Nat.reduceBEq,hrx,hry,z'o]);(first|exact rfl|refine⟨?_,rfl⟩;try omega))|refine mq1 (x'i @hd @he' @z'o) ?_|exact z'p T (z'a _) ⟨rfl,rfl⟩|fail
   ·have hd:decide ((k:Int)<(a.length:Int))=false:=by simp;omega
    have hab:decide (a=b)=true:=by
     rw[decide_eq_true_eq]
     apply w'M
     intro i
     rcases z'i i a.length with h'|h'
     ·exact hs i (by omega)
     ·rw[z'M h',z'M (by omega)]
    rw[hab]
    repeat' first|refine mq1 (z'X @hd @z'o) ?_|exact z'p T (z'a _) ⟨rfl,rfl⟩|fail
 ·have hl':((a.length:Int) != (b.length:Int))=true:=bne_iff_ne.2 (by omega)
  have hab:decide (a=b)=false:=by
   rw[decide_eq_false_iff_not]
   intro h
   exact hl (by rw[h])
  rw[hab]
  repeat' first|refine mq1 (z'X @z'o @hl') ?_|exact z'p T (z'a _) ⟨rfl,rfl⟩|fail
theorem Zik (o:Option Nat) (k:Nat):(x'Z o == (k:Int))=decide (o=some k):=by
 cases o with
 |none=>
  have:(x'Z none == (k:Int))=false:=by rw[beq_eq_false_iff_ne];simp only[x'Z];omega
  simp[this]
 |some j=>simp only[x'Z,z'H];rw[x'g];simp;omega
def ZnL (md lc:Int) (x:En):Bool:=decide (x.1<0)||decide (x.1≥lc)||decide (x.2<0)||decide (x.2≥md)
def ZkJ (m r:Int) (b:List En) (i:Nat) (x:En):Bool:=decide (m=3)&&((decide (i>0)&&decide (((b[i-1]?).getD (0,0)).1>x.1))||decide (((w'Q x.1 b:Nat):Int)>r))
def ZhR (m r md lc:Int) (b:List En) (i:Nat):Bool:=ZnL md lc ((b[i]?).getD (0,0))||ZkJ m r b i ((b[i]?).getD (0,0))
theorem x'9 {H:Heap}:FzL H [] []:=rfl
theorem z'u {H:Heap} {d' d:D} {ds' ds:List D} (h:Fz H d' d) (hs:FzL H ds' ds):FzL H (d'::ds') (d::ds):=⟨d,ds,rfl,h,hs⟩
theorem Zu9 {H:Heap} {f:Bool} {esz:Nat} {rows:List (List D)}:Fz H (.sl false esz rows) (.sl f esz rows):= .inr ⟨rfl,.inl ⟨f,rfl⟩⟩
theorem z'1 {H:Heap} {esz:Nat}:Fz H (.sl false esz []) (.gs none 0):= .inr ⟨rfl,.inr (.inl ⟨rfl,rfl⟩)⟩
theorem Zqy {H:Heap} {d' d:D} {ds:List D} (h:Fz H d' d):FzL H (d'::ds) (d::ds):=z'u h (FzL.refl _ _)
theorem x'o {H:Heap} {d0 d' d:D} {ds:List D} (h:Fz H d' d):FzL H (d0::d'::ds) (d0::d::ds):=z'u (Fz.refl _ _) (Zqy h)
theorem HInv.none {w:World} {L0:Nat→Prop} (h:HInv w L0 []):ZeV w L0 [] [] (live [] L0):=⟨h,fun b c hm=>(by cases hm),fun b _ hl=>hl⟩
theorem Fun.argsW {P:Program} {f:FuncId} {args args':List D} {d:D} (h:Pure P f args' d) (hf:FzL [] args' args):Pure P f args d:=
 ⟨h.1,fun w L0 vs hi hr=>h.2 w L0 vs hi (RelL.fz (HInv.none hi) _ _ _ hf hr)⟩
theorem VCg.stepS {P:Program} (T:Tab P) {ops:Array Oper} {H:Heap} {K:(Nat→D)→List (Tmp×NewI)→Prop} {m:Nat} {E:Nat→D} {news:List (Tmp×NewI)} {o:Oper} {l:List Oper} {d:D} {t:Tmp}
  (hg:o.guard=none) (ht:o.dst=some t) (h1:OpS P o (evD E) H (fun d' H'=>d'=d∧H'=H)) (h2:VCg T ops H K m l (upd E t d) news):VCg T ops H K (m+1) (o::l) E news:=
 by unfold VCg;exact⟨.det d,⟨.inl hg,h1⟩,by rw[w'9,z'I,ht];exact h2⟩
def Zun (x:En):Prop:=(0≤x.1∧x.1<4)∧(0≤x.2∧x.2<8)
def InvQ (m:Int) (is b:List En):Prop:=b.length=is.length∧(∀x,x∈b→Zun x)∧(m=2∧b=is∨m=3∧Srt b∧SameQ is b)
theorem InvQ.zero {m:Int} (h:m=2∨m=3):InvQ m [] []:=⟨rfl,fun x h=>(by cases h),h.imp (fun h=>⟨h,rfl⟩) (fun h=>⟨h,trivial,fun _=>rfl⟩)⟩
theorem InvQ.push {m:Int} {is b:List En} {e:En} (h:InvQ m is b) (he:Zun e):InvQ m (is++[e]) (v'a m e b):=by
 obtain⟨h1,h2,h3⟩:=h
 rcases h3 with⟨rfl,rfl⟩|⟨rfl,h4,h5⟩
 ·have hp:v'a 2 e b=b++[e]:=rfl
  rw[hp]
  refine⟨rfl,fun x hx=>?_,.inl ⟨rfl,rfl⟩⟩
  rcases y'2.1 hx with hx|hx
  ·exact h2 x hx
  ·rw[y'F]at hx;subst hx;exact he
 ·have hp:v'a 3 e b=w'O e b:=rfl
  rw[hp]
  refine⟨by rw[ZdE,z'j,h1];rfl,fun x hx=>?_,.inr ⟨rfl,ZhG e b h4,fun loc=>?_⟩⟩
  ·rcases(Zft e b x).1 hx with rfl|hx
   ·exact he
   ·exact h2 x hx
  ·rw[ZhF e loc b h4,v'S,h5 loc]
theorem Srt.le {b:List En} (h:Srt b): ∀(i:Nat) (x y:En),b[i]?=some x→b[i+1]?=some y→x.1≤y.1:=by
 induction b with
 |nil=>intro i x y hx;simp at hx
 |cons a r ih=>
  intro i x y hx hy
  cases i with
  |zero=>
   obtain rfl:a=x:=by simpa using hx
   exact h.1 y (z'l (by simpa using hy))
  |succ i=>exact ih h.2 i x y (by simpa using hx) (by simpa using hy)
def Inv2 (m:Int) (is b:List En):Prop:=b.length=is.length∧(m=2∧b=is∨m=3∧SameQ is b)
theorem Zpp {m:Int} {b:List En} {l:Int} (h:l∈ZaW m b): ∃i x,b[i]?=some x∧x.1=l∧Zgn m b i=true:=by
 obtain⟨i,hi,hl⟩:=z'D.1 h
 obtain⟨h1,h2⟩:=w'J.1 hi
 obtain⟨x,hx⟩: ∃x,b[i]?=some x:=⟨_,z'c (z'U.1 h1)⟩
 exact⟨i,x,hx,by rw[←hl,hx];rfl,h2⟩
theorem Zf4 {x:En} {r:List En}:ZaW 2 (x::r)=[x.1]:=by
 unfold ZaW Zpo
 have: ∀n,(List.range (n+1)).filter (Zgn 2 (x::r))=[0]:=by
  intro n
  induction n with
  |zero=>simp[Zgn]
  |succ n ih=>
   rw[y'p,z'6,ih]
   simp[Zgn]
 rw[z'r,this]
 rfl
theorem Inv2.step {m:Int} {is b:List En} (h:Inv2 m is b) (hne:is≠[]):
  ∃l j k x,(ZaW m b)[(ZaW m b).length-1]?=some l∧0<(ZaW m b).length∧(m=2→(ZaW m b)[0]?=(is[0]?).map (·.1))∧z'2 m l b=some j∧Zad l is=some k∧b[j]?=some x∧is[k]?=some x∧Inv2 m (v'f k is) (v'f j b):=by
 obtain⟨h1,h2⟩:=h
 have lens: ∀(k j:Nat),k<is.length→j<b.length→(v'f j b).length=(v'f k is).length:=fun k j hk hj=>by simp[v'f];omega
 rcases h2 with⟨rfl,rfl⟩|⟨rfl,hq⟩
 ·rcases b with _|⟨x,r⟩
  ·exact absurd rfl hne
  ·have hn:z'2 2 x.1 (x::r)=some 0:=by simp[z'2]
   have hf:Zad x.1 (x::r)=some 0:=by simp[Zad]
   exact⟨x.1,0,0,x,by rw[Zf4];rfl,by rw[Zf4];exact Nat.one_pos,fun _=>by rw[Zf4];rfl,hn,hf,rfl,rfl,rfl,.inl ⟨rfl,rfl⟩⟩
 ·rcases b with _|⟨y,r⟩
  ·exact absurd (z'9 h1.symm) hne
  ·have h0:Zgn 3 (y::r) 0=true:=by simp[Zgn,Zad]
   have hmem:y.1∈ZaW 3 (y::r):=z'D.2 ⟨0,w'J.2 ⟨z'U.2 (by simp),h0⟩,rfl⟩
   have hpos:0<(ZaW 3 (y::r)).length:=List.length_pos_of_mem hmem
   obtain⟨l,hl⟩: ∃l,(ZaW 3 (y::r))[(ZaW 3 (y::r)).length-1]?=some l:=⟨_,z'c (by omega)⟩
   obtain⟨i,x,hx,hxl,hs⟩:=Zpp (z'l hl)
   have hfi:Zad l (y::r)=some i:=by
    simp only[Zgn,hx,z'y,hxl]at hs
    simpa using hs
   have hk: ∃k,Zad l is=some k:=by
    cases hc:Zad l is with
    |some k=>exact⟨k,rfl⟩
    |none=>
     have:=hq l
     rw[ZjB hc]at this
     obtain⟨z,p,q,e,_,hz,_⟩:=ZcQ hfi
     rw[e,v'S]at this
     have hzq:que l (z::q)=z::que l q:=by rw[que,x'1];simp[hz,que]
     rw[hzq]at this
     simp at this
   obtain⟨k,hk⟩:=hk
   obtain⟨e1,e2⟩:=SameQ.cut hq hk hfi
   exact⟨l,i,k,x,hl,hpos,fun h=>absurd h (by decide),by simp[z'2,hfi],hk,hx,by rw[e1,hx],lens _ _ (ZiQ hk) (ZiQ hfi),.inr ⟨rfl,e2⟩⟩
theorem Weak.trans {s s' s'':St} (h:Weak s s') (h':Weak s' s''):Weak s s'':=fun x a w hs=>h' x a w (h x a w hs)
theorem ZaB {g:Option (Nat×Nat)} {e:TypeId} {esz n:Nat} {rows:List (List D)} (hg:gOk g n) (hn:rows.length=n) (hr: ∀r,r∈rows→r.length=esz):Fz (shp g e esz rows.flatten []) (.sl false esz rows) (.gs g n):=by
 subst hn
 cases g with
 |none=>
  have h0:rows=[]:=z'9 hg
  subst h0
  exact .inr ⟨rfl,.inr (.inl ⟨rfl,rfl⟩)⟩
 |some p=>
  obtain⟨b,cap⟩:=p
  exact .inr ⟨rfl,.inr (.inr ⟨b,0,rows.length,cap,.inl ⟨rfl,rfl⟩,rfl,e,_,_,z'z ..,FzR.refl _ _ hr⟩)⟩
theorem ZcJ {g:Option (Nat×Nat)} {e:TypeId} {esz:Nat} {l:List D} {X:Heap}:(shp g e esz l []).Sublist (shp g e esz l X):=by
 cases g with
 |none=>exact z'a _
 |some p=>
  obtain⟨k,cap⟩:=p
  exact(z'a _).cons_cons _
def inB (n m:Int):Bool:=decide (n≥0)&&decide (n<m)
theorem v'B (n m:Int):Pure Tryz.prog 87 [iD n,iD m] (bD (inB n m)):=by
 refine Fun.of T [.tmp 4] Tryz.func87 rfl Tryz.ntmps87 Tryz.results87 rfl (by kernel_rfl) ?_
 repeat' first|refine mq0 ?_|refine z'p T (z'a _) ?_;(try simp only[upd,Nat.reduceBEq,cond_true,cond_false,and_true])|with_reducible refine z'n (fun hc=>?_) (fun hc=>?_)|fail
 all_goals first|(simp_all[inB];done)|(simp_all[inB];omega)
def y'O (l:List Int) (m:Int):Bool:=l.all fun n=>inB n m
theorem ZeW (l:List Int) (hl:l.length≤1000000) (m:Int):Pure Tryz.prog 82 [y'r l,iD m] (bD (y'O l m)):=by
 refine Fun.of T [.tmp 4] Tryz.func82 rfl Tryz.ntmps82 Tryz.results82 rfl (by kernel_rfl) ?_
 repeat' first|refine mq0 ?_|fail
 refine VC.loop {k:Nat//k≤l.length∧ ∀i n,i<k→l[i]?=some n→inB n m=true} (fun p=>⟨z'T [(0,y'r l),(1,iD m),(5,iD (p.1:Nat))],[]⟩) (fun p=>l.length-p.1) ⟨0,by omega,fun i n hi=>by omega⟩ ?_ ?_
 ·refine Weak.sub ?_
  simp[sub,upd]
 ·rintro⟨k,hk,hno⟩
  dsimp only
  rcases z'i k l.length with hlt|hge
  ·have hd:decide ((k:Int)<(l.length:Int))=true:=by simp;omega
   have hw:IntKind.i64.wrap ((k:Int)+1)=((k+1:Nat):Int):=by rw[w64 (by omega)];omega
   obtain⟨x,hx⟩: ∃x,l[k]?=some x:=⟨_,z'c hlt⟩
   have hrow:(iRs l)[k]?=some [iD x]:=by rw[x'q,hx];rfl
   cases he:inB x m with
   |true=>
    repeat' first|refine mq2 (y'Z @hd @hw @hrow @he @z'o) (v'B · ·) ?_|refine .wk ?_ ?_;focus(try omega)|fail
    refine⟨⟨k+1,by omega,fun i n hi hn=>?_⟩,Weak.sub ?_,by simp only[];omega⟩
    ·rcases z'i i k with h'|h'
     ·exact hno i n h' hn
     ·obtain rfl:i=k:=by omega
      rw[hx]at hn;cases hn;exact he
    ·simp[sub,upd]
   |false=>
    have hA:y'O l m=false:=by
     unfold y'O
     rw[v'i]
     exact⟨x,z'l hx,by simp[he]⟩
    rw[hA]
    repeat' first|refine mq2 (x'f @hd @hrow @he @z'o) (v'B · ·) ?_|refine .wk ?_ ?_;focus(try omega)|exact z'p T (z'a _) ⟨rfl,rfl⟩|fail
  ·have hd:decide ((k:Int)<(l.length:Int))=false:=by simp;omega
   have hA:y'O l m=true:=by
    unfold y'O
    rw[z'q]
    intro n hn
    obtain⟨i,hi⟩:=y'k hn
    exact hno i n (by have:=(z'b.1 hi).1;omega) hi
   rw[hA]
   repeat' first|refine mq1 (z'X @hd @z'o) ?_|exact z'p T (z'a _) ⟨rfl,rfl⟩|fail
theorem ZpM (b:List En) (hb:b.length≤1000000) (loc:Int):Pure Tryz.prog 279 [buf b,iD loc] (iD (w'Q loc b:Nat)):=by
 refine Fun.of T [.tmp 4] Tryz.func279 rfl Tryz.ntmps279 Tryz.results279 rfl (by kernel_rfl) ?_
 repeat' first|refine mq0 ?_|fail
 refine VC.loop {k:Nat//k≤b.length} (fun p=>⟨z'T [(0,buf b),(1,iD loc),(5,iD (w'Q loc (b.take p.1):Nat)),(6,iD (p.1:Nat))],[]⟩) (fun p=>b.length-p.1) ⟨0,by omega⟩ ?_ ?_
 ·refine Weak.sub ?_
  simp[sub,upd,w'Q]
 ·rintro⟨k,hk⟩
  dsimp only
  have hc:w'Q loc (b.take k)≤b.length:=z'7 List.countP_le_length (by rw[z'L];omega)
  rcases z'i k b.length with hlt|hge
  ·have hd:decide ((k:Int)<(b.length:Int))=true:=by simp;omega
   have hw:IntKind.i64.wrap ((k:Int)+1)=((k+1:Nat):Int):=by rw[w64 (by omega)];omega
   have hw2:IntKind.i64.wrap ((w'Q loc (b.take k):Nat)+1:Int)=((w'Q loc (b.take k)+1:Nat):Int):=by rw[w64 (by omega)];omega
   obtain⟨x,hx⟩: ∃x,b[k]?=some x:=⟨_,z'c hlt⟩
   have hrow:(eRs b)[k]?=some [iD x.1,iD x.2]:=by rw[v'Q,hx];rfl
   have ht:b.take (k+1)=b.take k++[x]:=by rw[x'U,hx];rfl
   by_cases he:x.1=loc
   ·have he':(x.1 == loc)=true:=by simpa using he
    have hn:w'Q loc (b.take (k+1))=w'Q loc (b.take k)+1:=by rw[ht,w'Q,List.countP_append];simp[he,w'Q]
    repeat' first|refine mq1 (x'V @hd @hw @hw2 @hrow @he' @z'R) ?_|refine .wk ?_ ?_;focus(try omega)|fail
    refine⟨⟨k+1,by omega⟩,Weak.sub ?_,by simp only[];omega⟩
    simp[sub,upd,hn]
   ·have he':(x.1 == loc)=false:=by simpa using he
    have hn:w'Q loc (b.take (k+1))=w'Q loc (b.take k):=by rw[ht,w'Q,List.countP_append];simp[he,w'Q]
    repeat' first|refine mq1 (y'Z @hd @hw @hrow @he' @z'R) ?_|refine .wk ?_ ?_;focus(try omega)|fail
    refine⟨⟨k+1,by omega⟩,Weak.sub ?_,by simp only[];omega⟩
    simp[sub,upd,hn]
  ·have hd:decide ((k:Int)<(b.length:Int))=false:=by simp;omega
   have ht:b.take k=b:=y'8 hge
   repeat' first|refine mq1 (x'i @hd @ht @z'R) ?_|exact z'p T (z'a _) ⟨rfl,rfl⟩|fail
theorem ZrE (b:List En) (hb:b.length≤1000000) (m r loc:Int):Pure Tryz.prog 254 [buf b,iD m,iD r,iD loc] (bD (Zdd m r loc b)):=by
 refine Fun.of T [.tmp 8] Tryz.func254 rfl Tryz.ntmps254 Tryz.results254 rfl (by kernel_rfl) ?_
 by_cases h2:m=2
 ·subst h2
  repeat' first|refine mq1 @z'R ?_|exact z'p T (z'a _) ⟨rfl,rfl⟩|fail
 ·have e2:(m == 2)=false:=by simpa using h2
  by_cases h3:m=3
  ·subst h3
   repeat' first|refine mq3 (ZpM b hb ·) ?_|exact z'p T (z'a _) ⟨rfl,rfl⟩|fail
  ·have e3:(m == 3)=false:=by simpa using h3
   repeat' first|refine mq1 (z'X @e2 @e3) ?_|refine z'p T (z'a _) ?_;(try simp only[upd,Nat.reduceBEq,cond_true,cond_false,and_true])|fail
   simp[Zdd,h2,h3]
theorem ZrA (b:List En) (hb:b.length≤1000000) (loc:Int):Pure Tryz.prog 255 [buf b,iD loc] (Zve (v'9 loc b)):=by
 have hw0:IntKind.i64.wrap ((b.length:Int)-1)=(b.length:Int)-1:=by rw[w64 (by omega)]
 refine Fun.of T [.tmp 4,.tmp 5] Tryz.func255 rfl Tryz.ntmps255 Tryz.results255 rfl (by kernel_rfl) ?_
 repeat' first|refine mq1 (z'X @z'R @hw0) ?_|fail
 refine VC.loop {k:Nat//k≤b.length∧ ∀(i:Nat) (y:En),k≤i→b[i]?=some y→y.1≠loc} (fun p=>⟨z'T [(0,buf b),(1,iD loc),(6,iD ((p.1:Nat)-1:Int))],[]⟩) (fun p=>p.1) ⟨b.length,by omega,fun i y hi hy=>by have:=(z'b.1 hy).1;omega⟩ ?_ ?_
 ·refine Weak.sub ?_
  simp[sub,upd]
 ·rintro⟨k,hk,hno⟩
  dsimp only
  rcases k with _|k
  ·have hd:decide (((0:Nat):Int)-1≥0)=false:=by decide
   have hf:v'9 loc b=none:=lastF_at.lastF_no fun i y hy=>hno i y (by omega) hy
   rw[hf]
   repeat' first|refine mq1 @hd ?_|exact y'B T (z'a _) ⟨rfl,rfl⟩|fail
  ·have hd:decide (((k+1:Nat):Int)-1≥0)=true:=by rw[decide_eq_true_eq];omega
   have hi:((k+1:Nat):Int)-1=(k:Int):=by omega
   have hw:IntKind.i64.wrap ((k:Int)-1)=(k:Int)-1:=by rw[w64 (by omega)]
   obtain⟨x,hx⟩: ∃x,b[k]?=some x:=⟨_,z'c (by omega)⟩
   have hrow:(eRs b)[k]?=some [iD x.1,iD x.2]:=by rw[v'Q,hx];rfl
   rw[hi]at hd⊢
   by_cases he:x.1=loc
   ·have he':(x.1 == loc)=true:=by simpa using he
    have hf:=lastF_at hx he fun i y h1 h2=>hno i y (by omega) h2
    rw[hf]
    repeat' first|refine mq1 (x'f @hd @hrow @he' @z'R) ?_|refine .wk ?_ ?_;focus(try omega)|exact y'B T (z'a _) ⟨rfl,rfl⟩|fail
   ·have he':(x.1 == loc)=false:=by simpa using he
    repeat' first|refine mq1 (y'Z @hd @hw @hrow @he' @z'R) ?_|refine .wk ?_ ?_;focus(try omega)|fail
    refine⟨⟨k,by omega,fun i y h1 h2=>?_⟩,Weak.sub ?_,by simp only[];omega⟩
    ·rcases y'N h1 with rfl|h'
     ·rw[hx]at h2;cases h2;exact he
     ·exact hno i y (by omega) h2
    ·simp[sub,upd]
theorem Zi7 {e:En}: ∀{b:List En} {k:Nat},(∀(i:Nat) (y:En),i<k→b[i]?=some y→ ¬y.1>e.1)→k≤b.length→w'O e b=b.take k++w'O e (b.drop k)
 |b,0,_,_=>by simp
 |[],k+1,_,h=>by simp at h
 |x::r,k+1,hno,h=>by
  have h0: ¬x.1>e.1:=hno 0 x (by omega) rfl
  have:=Zi7 (e:=e) (b:=r) (k:=k) (fun i y hi hy=>hno (i+1) y (by omega) (by simpa using hy)) (by simpa using h)
  have hu:w'O e (x::r)=x::w'O e r:=by simp[w'O,h0]
  rw[hu,this]
  simp
theorem Zly {e:En}: ∀{p:List En} (q:List En),(∃(j:Nat) (x:En),p[j]?=some x∧x.1>e.1)→w'O e (p++q)=w'O e p++q
 |[],q,⟨j,x,h,_⟩=>by simp at h
 |y::r,q,⟨j,x,h,hx⟩=>by
  by_cases hy:y.1>e.1
  ·simp[w'O,hy]
  ·cases j with
   |zero=>
    obtain rfl:y=x:=by simpa using h
    exact absurd hx hy
   |succ j=>
    have:=Zly (e:=e) (p:=r) q ⟨j,x,by simpa using h,hx⟩
    simp[w'O,hy,this]
def Zbg (e:En) (b:List En) (k:Nat) (p:Bool):List En:=match p with|true=>w'O e (b.take k)|false=>b.take k
theorem ZrD (b:List En) (hb:b.length≤100000) (m e1 e2:Int):Pure Tryz.prog 209 [buf b,iD m,.agg [iD e1,iD e2]] (buf (v'a m (e1,e2) b)):=by
 refine Fun.freeze (ZaJ _) ?_
 have hfb:(eRs b).flatten.length=b.length*2:=Zck b
 by_cases h3:m=3
 ·have e3:(m != 3)=false:=by simp[h3]
  have hp:v'a m (e1,e2) b=w'O (e1,e2) b:=by simp[v'a,h3]
  rw[hp]
  refine Fun.of T [.tmp 6] Tryz.func209 rfl Tryz.ntmps209 Tryz.results209 rfl (by kernel_rfl) ?_
  repeat' first|refine vb rfl rfl rfl rfl ?_|refine mq1 @e3 ?_|fail
  refine VC.loop {q:Nat×Bool×Option (Nat×Nat)//q.1≤b.length∧(q.2.1=false→ ∀(i:Nat) (y:En),i<q.1→b[i]?=some y→ ¬y.1>e1)∧(q.2.1=true→ ∃j x,j<q.1∧b[j]?=some x∧x.1>e1∧ ∀(i:Nat) (y:En),i<j→b[i]?=some y→ ¬y.1>e1)}
   (fun q=>⟨z'T [(0,buf b),(5,.pt [iD e1,iD e2]),(7,.gs q.1.2.2 (q.1.1+q.1.2.1.toNat)),(8,bD q.1.2.1),(9,iD (q.1.1:Nat))],shp q.1.2.2 201 2 (eRs (Zbg (e1,e2) b q.1.1 q.1.2.1)).flatten []⟩) (fun q=>b.length-q.1.1) ⟨(0,false,none),by simp,fun _ i y hi=>by omega,fun h=>by cases h⟩ ?_ ?_
  ·refine Weak.sub ?_
   simp[sub,upd]
  ·rintro⟨⟨k,p,g⟩,hk,hno,hyes⟩
   dsimp only at hk hno hyes⊢
   have hmid:(eRs (Zbg (e1,e2) b k p)).flatten.length=(k+p.toNat)*2:=by
    rw[Zck]
    cases p<;>simp[Zbg,ZdE]<;>omega
   rcases z'i k b.length with hlt|hge
   ·have hd:decide ((k:Int)<(b.length:Int))=true:=by simp;omega
    have hw:IntKind.i64.wrap ((k:Int)+1)=((k+1:Nat):Int):=by rw[w64 (by omega)];omega
    obtain⟨x,hx⟩: ∃x,b[k]?=some x:=⟨_,z'c hlt⟩
    have hrow:(eRs b)[k]?=some [iD x.1,iD x.2]:=by rw[v'Q,hx];rfl
    have htk:b.take (k+1)=b.take k++[x]:=by rw[x'U,hx];rfl
    cases p with
    |true=>
     obtain⟨j,z,hj,hz,hzl,hjn⟩:=hyes rfl
     have hn:Zbg (e1,e2) b (k+1) true=Zbg (e1,e2) b k true++[x]:=by
      simp only[Zbg]
      rw[htk,Zly [x] ⟨j,z,by rw[x't,if_pos hj];exact hz,hzl⟩]
     repeat' first|refine dr (id:=11) T 10 (by kernel_rfl) ?_|(first|apply VCg.step T rfl rfl|apply exF);focus((try simp (disch:=omega) only[go_sem,Nat.reduceBEq,z'P]);(exact rfl))|refine VCg.gstep T rfl rfl rfl rfl ?_;try simp only[GB]|refine mq1 (y'Z @hd @hw @hrow @z'R @Bool.toNat_true) ?_|refine .wk ?_ ?_;focus(try omega)|refine vs T rfl fun K hK=>?_;(try simp (disch:=omega) only[go_sem,Nat.reduceBEq,Nat.reduceAdd,Nat.reduceMul,Nat.reduceLeDiff,hd,hw,hrow,z'R,Bool.toNat_true]);(first|refine⟨_,_,_,_,(by repeat (exact Sp.here)),?_,(by exact⟨rfl,rfl⟩),?_,fun g' hg'=>hK _ _ ?_⟩<;>clear hK K)|fail
     ·exact hmid
     ·omega
     ·refine⟨⟨(k+1,true,g'),by simp only[];omega,fun h=>(by cases h),fun _=>⟨j,z,by simp only[];omega,hz,hzl,hjn⟩⟩,z'Q ?_ ?_,by simp only[];omega⟩
      ·simp only[]
       rw[hn,w'7,x'k]
       rfl
      ·simp[sub,upd]
    |false=>
     by_cases hg:x.1>e1
     ·have hg':decide (x.1>e1)=true:=by simpa using hg
      have hn:Zbg (e1,e2) b (k+1) true=Zbg (e1,e2) b k false++[(e1,e2)]++[x]:=by
       simp only[Zbg]
       have h1:=Zi7 (e:=(e1,e2)) (b:=b.take (k+1)) (k:=k) (fun i y hi hy=>hno rfl i y hi (by rw[x't]at hy;split at hy;exact hy;cases hy)) (by rw[z'L];omega)
       have h2:(b.take (k+1)).take k=b.take k:=by rw[List.take_take];congr 1;omega
       have h3:(b.take (k+1)).drop k=[x]:=by rw[htk,List.drop_left' (by rw[z'L];omega)]
       rw[h1,h2,h3]
       simp[w'O,hg]
      have hm2:((eRs (Zbg (e1,e2) b k false)).flatten++[iD e1,iD e2]).length=(k+1)*2:=by rw[z'j,hmid];simp;omega
      repeat' first|refine dr (id:=11) T 10 (by kernel_rfl) ?_|(first|apply VCg.step T rfl rfl|apply exF);focus((try simp (disch:=omega) only[go_sem,Nat.reduceBEq,hrow,z'R,z'W]);(first|exact rfl|refine⟨?_,rfl⟩;try omega))|refine VCg.gstep T rfl rfl rfl rfl ?_;try simp only[GB]|refine mq1 (x'V @hd @hw @hrow @hg' @z'R @Bool.toNat_false) ?_|refine .wk ?_ ?_;focus(try omega)|refine vs T rfl fun K hK=>?_;(try simp (disch:=omega) only[go_sem,Nat.reduceBEq,Nat.reduceAdd,Nat.reduceMul,Nat.reduceLeDiff,hd,hw,hrow,hg',z'R,Bool.toNat_false]);(first|refine⟨_,_,_,_,(by repeat (exact Sp.here)),?_,(by exact⟨rfl,rfl⟩),?_,fun g' hg'=>hK _ _ ?_⟩<;>clear hK K)|fail
      ·exact hmid
      ·omega
      ·exact hm2
      ·omega
      ·refine⟨⟨(k+1,true,g'),by simp only[];omega,fun h=>(by cases h),fun _=>⟨k,x,by simp only[];omega,hx,hg,hno rfl⟩⟩,z'Q ?_ ?_,by simp only[];omega⟩
       ·simp only[]
        rw[hn,w'7,w'7,x'k,x'k]
        rfl
       ·simp[sub,upd]
     ·have hg':decide (x.1>e1)=false:=by simpa using hg
      have hn:Zbg (e1,e2) b (k+1) false=Zbg (e1,e2) b k false++[x]:=htk
      repeat' first|refine dr (id:=11) T 10 (by kernel_rfl) ?_|(first|apply VCg.step T rfl rfl|apply exF);focus((try simp (disch:=omega) only[go_sem,Nat.reduceBEq,hrow,z'R,z'W]);(first|exact rfl|refine⟨?_,rfl⟩;try omega))|refine VCg.gstep T rfl rfl rfl rfl ?_;try simp only[GB]|refine mq1 (x'V @hd @hw @hrow @hg' @z'R @Bool.toNat_false) ?_|refine .wk ?_ ?_;focus(try omega)|refine vs T rfl fun K hK=>?_;(try simp (disch:=omega) only[go_sem,Nat.reduceBEq,Nat.reduceAdd,Nat.reduceMul,Nat.reduceLeDiff,hd,hw,hrow,hg',z'R,Bool.toNat_false]);(first|refine⟨_,_,_,_,(by repeat (exact Sp.here)),?_,(by exact⟨rfl,rfl⟩),?_,fun g' hg'=>hK _ _ ?_⟩<;>clear hK K)|fail
      ·exact hmid
      ·omega
      ·refine⟨⟨(k+1,false,g'),by simp only[];omega,fun _ i y hi hy=>?_,fun h=>(by cases h)⟩,z'Q ?_ ?_,by simp only[];omega⟩
       ·simp only[]at hi
        rcases z'i i k with h'|h'
        ·exact hno rfl i y h' hy
        ·obtain rfl:i=k:=by omega
         rw[hx]at hy;cases hy;exact hg
       ·simp only[]
        rw[hn,w'7,x'k]
        rfl
       ·simp[sub,upd]
   ·have hd:decide ((k:Int)<(b.length:Int))=false:=by simp;omega
    have htk:b.take k=b:=y'8 hge
    have hkl:k=b.length:=by omega
    cases p with
    |true=>
     repeat' first|refine mq1 (x'i @hd @z'R @Bool.toNat_true) ?_|fail
     refine z'p T (H':=shp g 201 2 (eRs (Zbg (e1,e2) b k true)).flatten []) ZcJ ⟨g,201,?_,?_⟩
     ·rw[z'R,ZdE,hkl];rfl
     ·rw[Zbg,htk]
    |false=>
     have hfin:w'O (e1,e2) b=b++[(e1,e2)]:=by
      have:=Zi7 (e:=(e1,e2)) (b:=b) (k:=b.length) (fun i y hi hy=>hno rfl i y (by omega) hy) (z'h _)
      rw[y'g,List.drop_length]at this
      exact this
     repeat' first|refine mq1 (x'i @hd @z'R @Bool.toNat_false) ?_|refine vs T rfl fun K hK=>?_;(try simp (disch:=omega) only[go_sem,Nat.reduceBEq,Nat.reduceAdd,Nat.reduceMul,Nat.reduceLeDiff,hd,z'R,z'W,Bool.toNat_false]);(first|refine⟨_,_,_,_,(by repeat (exact Sp.here)),?_,(by exact⟨rfl,rfl⟩),?_,fun g' hg'=>hK _ _ ?_⟩<;>clear hK K)|fail
     ·exact hmid
     ·omega
     ·refine z'p T (H':=shp g' 201 2 ((eRs (Zbg (e1,e2) b k false)).flatten++[iD e1,iD e2]) []) ZcJ ⟨g',201,?_,?_⟩
      ·rw[z'R,ZdE,hkl];rfl
      ·rw[hfin,Zbg,htk,w'7,x'k];rfl
 ·have e3:(m != 3)=true:=by simpa using h3
  by_cases h2:m=2
  ·have e2':(m == 2)=true:=by simpa using h2
   have hp:v'a m (e1,e2) b=b++[(e1,e2)]:=by simp[v'a,h2]
   rw[hp]
   refine Fun.of T [.tmp 6] Tryz.func209 rfl Tryz.ntmps209 Tryz.results209 rfl (by kernel_rfl) ?_
   repeat' first|refine vb rfl rfl rfl rfl ?_|refine mq1 (x'i @e3 @e2' @z'R) ?_|refine vs T rfl fun K hK=>?_;(try simp (disch:=omega) only[go_sem,Nat.reduceBEq,Nat.reduceAdd,Nat.reduceMul,Nat.reduceLeDiff,e3,e2',z'R]);(first|refine⟨_,_,_,_,(by repeat (first|exact Sp.here|exact Sp.nil)),?_,(by exact⟨rfl,rfl⟩),?_,fun g' hg'=>hK _ _ ?_⟩<;>clear hK K)|fail
   ·rfl
   ·omega
   ·exact hfb
   ·omega
   ·refine z'p T (H':=shp g' 201 2 ((eRs b).flatten++[iD e1,iD e2]) []) ZcJ ⟨g',201,?_,?_⟩
    ·rw[z'R,z'j];rfl
    ·rw[w'7,x'k];rfl
  ·have e2':(m == 2)=false:=by simpa using h2
   have hp:v'a m (e1,e2) b=b:=by simp[v'a,h2,h3]
   rw[hp]
   refine Fun.of T [.tmp 6] Tryz.func209 rfl Tryz.ntmps209 Tryz.results209 rfl (by kernel_rfl) ?_
   repeat' first|refine vb rfl rfl rfl rfl ?_|refine mq1 (x'i @e3 @e2' @z'R) ?_|refine vs T rfl fun K hK=>?_;(try simp (disch:=omega) only[go_sem,Nat.reduceBEq,Nat.reduceAdd,e3,e2',z'R]);(first|refine⟨_,_,_,_,(by repeat (exact Sp.nil)),?_,(by exact⟨rfl,rfl⟩),?_,fun g' hg'=>hK _ _ ?_⟩<;>clear hK K)|fail
   ·rfl
   ·omega
   ·refine z'p T (H':=shp g' 201 2 (eRs b).flatten []) ZcJ ⟨g',201,?_,?_⟩
    ·rw[z'R];rfl
    ·rfl
def Zd6 (m r md:Int):Bool:=decide (1≤m)&&decide (m≤3)&&(decide (1≤r)&&decide (r≤4)&&decide (2≤md)&&decide (md≤16))
def ZgQ (m r:Int) (b:List En):Bool:=(decide (m≠1)&&(decide (m=3)||decide ((b.length:Int)≤r)))||decide ((b.length:Int)=0)
def v'T (m r md lc:Int) (b:List En):Bool:=Zd6 m r md&&((List.range b.length).all fun i=> !ZhR m r md lc b i)&&ZgQ m r b
end Go.Proofs.YthlkpnjjkgmlkaaGreat
