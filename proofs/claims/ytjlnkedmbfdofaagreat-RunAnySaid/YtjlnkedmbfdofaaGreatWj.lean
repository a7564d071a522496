/- Contracts: store. No condition. -/
import Derived.Test.YtjlnkedmbfdofaaGreatWb
namespace Go.Proofs.YtjlnkedmbfdofaaGreat
set_option linter.unusedSimpArgs false
set_option linter.unusedVariables false
open Go Go.Proofs Go.Vc
attribute [local irreducible] z'Z VCg VCw VCx
theorem x'4 {env:Nat→D} {env':List (Nat×D)} {H H':Heap} (hh:H=H') (h:Vc.sub env env'):Weak ⟨env,H⟩ ⟨x'K env',H'⟩:=hh▸Weak.sub h
theorem Ze1 {env:Nat→D} {env':List (Nat×D)} {x:Nat×HC} {H H':Heap} (hh:H=H') (h:Vc.sub env env'):Weak ⟨env,x::H⟩ ⟨x'K env',H'⟩:=Weak.subH (hh▸List.sublist_cons_self _ _) h
def Zc6 (m r loc:Int) (b:List En):Bool:=if m=2 then decide ((b.length:Int)<r)else if m=3 then decide (((w'0 loc b:Nat):Int)<r)else false
theorem Zim (a b:List En):eRs (a++b)=eRs a++eRs b:=z'y ..
theorem ZmG (b:List En) (k:Nat):(eRs b).take k=eRs (b.take k):=by rw[eRs,eRs,List.map_take]
theorem ZmF (b:List En) (k:Nat):(eRs b).drop k=eRs (b.drop k):=by rw[eRs,eRs,List.map_drop]
set_option maxRecDepth 20000
def v'e (k:Nat) (b:List En):List En:=b.take k++b.drop (k+1)
theorem Zmy (b:List En) (hb:b.length≤1000000) (k:Nat) (hk:k<b.length):Pure Tryz.prog 341 [buf b,iD (k:Nat)] (buf (v'e k b)):=by
 refine Fun.fz ?_
 have hw2:IntKind.i64.wrap ((k:Int)+1)=((k+1:Nat):Int):=by rw[w64 (by omega)];omega
 have hl:(b.take k).length=k:=by rw[z'z];omega
 have hl2:(b.drop (k+1)).length=b.length-(k+1):=y'k
 refine Fun.of T [.tmp 4] Tryz.func341 rfl Tryz.ntmps341 Tryz.results341 rfl (by kernel_rfl) ?_
 have hkb:Nat.beq k k=true:=y'8 k
 repeat' first|refine dr (id:=1) T 8 (by kernel_rfl) ?_|refine gn ?_|apply VCg.step T rfl rfl;focus((try simp (disch:=omega) only[go_sem,Nat.reduceBEq,Zes,hw2,ZmG,ZmF,hkb]);(first|exact rfl|refine⟨?_,rfl⟩;try omega))|refine vs T rfl fun K hK=>?_;(try simp (disch:=omega) only[go_sem,Nat.reduceBEq,Zes]);(first|refine hK _ _ ?_;clear hK K|skip)|refine st rfl ?_|refine nl ?_
 refine⟨_,_,⟨rfl,rfl⟩,by rw[hl,hl2];omega,fun h0=>hK _ _ ?_,fun h0 b' cap' hb' hcap=>hK _ _ ?_⟩<;>clear hK K
 ·repeat' first|refine vs T rfl fun K hK=>?_;(try simp (disch:=omega) only[go_sem,Nat.reduceBEq]);(refine hK _ _ ?_;clear hK K)|refine st rfl ?_|refine nl ?_
  refine x'7 T (z'V _) (.inr ⟨rfl,.inl ⟨true,?_⟩⟩)
  have:b.drop (k+1)=[]:=z'M h0
  rw[v'e,this,z'x]
  rfl
 ·repeat' first|refine vs T rfl fun K hK=>?_;(try simp (disch:=omega) only[go_sem,Nat.reduceBEq]);(refine hK _ _ ?_;clear hK K)|refine st rfl ?_|refine nl ?_
  have hrows:(eRs (b.take k)).flatten++(eRs (b.drop (k+1))).flatten=(eRs (v'e k b)).flatten:=by rw[v'e,Zim,List.flatten_append]
  rw[hrows]
  refine x'7 T (z'V _) (.inr ⟨rfl,.inr (.inr ⟨b',0,_,cap',.inl ⟨rfl,rfl⟩,?_,_,_,_,z'k ..,FzR.refl _ _ (ZlP _)⟩)⟩)
  rw[Zes,v'e,z'r]
theorem ZkK {m loc:Int} {b:List En} {k:Nat} (h:v'N m loc b=some k):k<b.length:=by
 unfold v'N at h
 split at h
 ·exact Zeu h
 ·split at h
  ·rename_i hc
   obtain rfl:=z'2 h
   have:=hc.2.1
   rcases b with _|⟨x,r⟩
   ·exact absurd rfl this
   ·simp
  ·cases h
def ZaC (m loc:Int) (b:List En):List En×En×Bool:=match v'N m loc b with
 |none=>(b,(0,0),false)
 |some k=>(v'e k b,(b[k]?).getD (0,0),true)
where
 lastF_no {loc:Int}: ∀{b:List En},(∀(i:Nat) (y:En),b[i]?=some y→y.1≠loc)→ZaY loc b=none
 |[],_=>rfl
 |x0::r,hno=>by
  have h0:x0.1≠loc:=hno 0 x0 rfl
  have:=lastF_no (b:=r) fun i y hy=>hno (i+1) y (by simpa using hy)
  simp[ZaY,h0,this]
theorem ZhF (l:List Int):(iRs l).length=l.length:=z'f ..
theorem ZhG (l:List Int): ∀r,r∈iRs l→r.length=1:=by
 intro r h
 obtain⟨x,_,rfl⟩:=z'o.1 h
 rfl
def Zia (md lc:Int) (x:En):Bool:=decide (x.1<0)||decide (x.1≥lc)||decide (x.2<0)||decide (x.2≥md)
def ZfP (m r:Int) (b:List En) (i:Nat) (x:En):Bool:=decide (m=3)&&((decide (i>0)&&decide (((b[i-1]?).getD (0,0)).1>x.1))||decide (((w'0 x.1 b:Nat):Int)>r))
def ZdM (m r md lc:Int) (b:List En) (i:Nat):Bool:=Zia md lc ((b[i]?).getD (0,0))||ZfP m r b i ((b[i]?).getD (0,0))
theorem Zjk {H:Heap}:FzL H [] []:=rfl
theorem Zaj {H:Heap} {d' d:D} {ds' ds:List D} (h:Fz H d' d) (hs:FzL H ds' ds):FzL H (d'::ds') (d::ds):=⟨d,ds,rfl,h,hs⟩
theorem Zjl {H:Heap} {esz:Nat}:Fz H (.sl false esz []) (.gs none 0):= .inr ⟨rfl,.inr (.inl ⟨rfl,rfl⟩)⟩
theorem HInv.none {w:World} {L0:Nat→Prop} (h:HInv w L0 []):Zcd w L0 [] [] (live [] L0):=⟨h,fun b c hm=>(by cases hm),fun b _ hl=>hl⟩
theorem VCg.stepS {P:Program} (T:Tab P) {ops:Array Oper} {H:Heap} {K:(Nat→D)→List (Tmp×NewI)→Prop} {m:Nat} {E:Nat→D} {news:List (Tmp×NewI)} {o:Oper} {l:List Oper} {d:D} {t:Tmp}
  (hg:o.guard=none) (ht:o.dst=some t) (h1:OpS P o (evD E) H (fun d' H'=>d'=d∧H'=H)) (h2:VCg T ops H K m l (upd E t d) news):VCg T ops H K (m+1) (o::l) E news:=
 by unfold VCg;exact⟨.det d,⟨.inl hg,h1⟩,by rw[x'h,z'x,ht];exact h2⟩
def Zna (x:En):Prop:=(0≤x.1∧x.1<4)∧(0≤x.2∧x.2<8)
def InvQ (m:Int) (is b:List En):Prop:=b.length=is.length∧(∀x,x∈b→Zna x)∧(m=2∧b=is∨m=3∧Srt b∧SameQ is b)
theorem InvQ.zero {m:Int} (h:m=2∨m=3):InvQ m [] []:=⟨rfl,fun x h=>(by cases h),h.imp (fun h=>⟨h,rfl⟩) (fun h=>⟨h,trivial,fun _=>rfl⟩)⟩
theorem InvQ.push {m:Int} {is b:List En} {e:En} (h:InvQ m is b) (he:Zna e):InvQ m (is++[e]) (Zaf m e b):=by
 obtain⟨h1,h2,h3⟩:=h
 rcases h3 with⟨rfl,rfl⟩|⟨rfl,h4,h5⟩
 ·have hp:Zaf 2 e b=b++[e]:=rfl
  rw[hp]
  refine⟨rfl,fun x hx=>?_,.inl ⟨rfl,rfl⟩⟩
  rcases y'j.1 hx with hx|hx
  ·exact h2 x hx
  ·rw[y'h]at hx;subst hx;exact he
 ·have hp:Zaf 3 e b=w'v e b:=rfl
  rw[hp]
  refine⟨by rw[ZgA,z'r,h1];rfl,fun x hx=>?_,.inr ⟨rfl,ZdE e b h4,fun loc=>?_⟩⟩
  ·rcases(Zb1 e b x).1 hx with rfl|hx
   ·exact he
   ·exact h2 x hx
  ·rw[ZdD e loc b h4,x'M,h5 loc]
theorem Srt.le {b:List En} (h:Srt b): ∀(i:Nat) (x y:En),b[i]?=some x→b[i+1]?=some y→x.1≤y.1:=by
 induction b with
 |nil=>intro i x y hx;simp at hx
 |cons a r ih=>
  intro i x y hx hy
  cases i with
  |zero=>
   obtain rfl:a=x:=by simpa using hx
   exact h.1 y (z'F (by simpa using hy))
  |succ i=>exact ih h.2 i x y (by simpa using hx) (by simpa using hy)
def Inv2 (m:Int) (is b:List En):Prop:=b.length=is.length∧(m=2∧b=is∨m=3∧SameQ is b)
theorem InvQ.two {m:Int} {is b:List En} (h:InvQ m is b):Inv2 m is b:=⟨h.1,h.2.2.imp id fun⟨h1,_,h3⟩=>⟨h1,h3⟩⟩
theorem ZjF {m:Int} {b:List En} {l:Int} (h:l∈w'u m b): ∃i x,b[i]?=some x∧x.1=l∧ZcH m b i=true:=by
 obtain⟨i,hi,hl⟩:=z'o.1 h
 obtain⟨h1,h2⟩:=y'W.1 hi
 obtain⟨x,hx⟩: ∃x,b[i]?=some x:=⟨_,z'l (z'J.1 h1)⟩
 exact⟨i,x,hx,by rw[←hl,hx];rfl,h2⟩
theorem Zcw {x:En} {r:List En}:w'u 2 (x::r)=[x.1]:=by
 unfold w'u ZjE
 have: ∀n,(List.range (n+1)).filter (ZcH 2 (x::r))=[0]:=by
  intro n
  induction n with
  |zero=>simp[ZcH]
  |succ n ih=>
   rw[z'9,z'G,ih]
   simp[ZcH]
 rw[z'A,this]
 rfl
theorem Inv2.step {m:Int} {is b:List En} (h:Inv2 m is b) (hne:is≠[]):
  ∃l j k x,(w'u m b)[(w'u m b).length-1]?=some l∧0<(w'u m b).length∧(m=2→(w'u m b)[0]?=(is[0]?).map (·.1))∧v'N m l b=some j∧w'j l is=some k∧b[j]?=some x∧is[k]?=some x∧Inv2 m (v'e k is) (v'e j b):=by
 obtain⟨h1,h2⟩:=h
 have lens: ∀(k j:Nat),k<is.length→j<b.length→(v'e j b).length=(v'e k is).length:=fun k j hk hj=>by simp[v'e];omega
 rcases h2 with⟨rfl,rfl⟩|⟨rfl,hq⟩
 ·rcases b with _|⟨x,r⟩
  ·exact absurd rfl hne
  ·have hn:v'N 2 x.1 (x::r)=some 0:=by simp[v'N]
   have hf:w'j x.1 (x::r)=some 0:=by simp[w'j]
   exact⟨x.1,0,0,x,by rw[Zcw];rfl,by rw[Zcw];exact Nat.one_pos,fun _=>by rw[Zcw];rfl,hn,hf,rfl,rfl,rfl,.inl ⟨rfl,rfl⟩⟩
 ·rcases b with _|⟨y,r⟩
  ·exact absurd (z'M h1.symm) hne
  ·have h0:ZcH 3 (y::r) 0=true:=by simp[ZcH,w'j]
   have hmem:y.1∈w'u 3 (y::r):=z'o.2 ⟨0,y'W.2 ⟨z'J.2 (by simp),h0⟩,rfl⟩
   have hpos:0<(w'u 3 (y::r)).length:=List.length_pos_of_mem hmem
   obtain⟨l,hl⟩: ∃l,(w'u 3 (y::r))[(w'u 3 (y::r)).length-1]?=some l:=⟨_,z'l (by omega)⟩
   obtain⟨i,x,hx,hxl,hs⟩:=ZjF (z'F hl)
   have hfi:w'j l (y::r)=some i:=by
    simp only[ZcH,hx,z'K,hxl]at hs
    simpa using hs
   have hk: ∃k,w'j l is=some k:=by
    cases hc:w'j l is with
    |some k=>exact⟨k,rfl⟩
    |none=>
     have:=hq l
     rw[Ze5 hc]at this
     obtain⟨z,p,q,e,_,hz,_⟩:=v'S hfi
     rw[e,x'M]at this
     have hzq:que l (z::q)=z::que l q:=by rw[que,x'r];simp[hz,que]
     rw[hzq]at this
     simp at this
   obtain⟨k,hk⟩:=hk
   obtain⟨e1,e2⟩:=SameQ.cut hq hk hfi
   exact⟨l,i,k,x,hl,hpos,fun h=>absurd h (by decide),by simp[v'N,hfi],hk,hx,by rw[e1,hx],lens _ _ (Zeu hk) (Zeu hfi),.inr ⟨rfl,e2⟩⟩
theorem Weak.trans {s s' s'':St} (h:Weak s s') (h':Weak s' s''):Weak s s'':=fun x a w hs=>h' x a w (h x a w hs)
end Go.Proofs.YtjlnkedmbfdofaaGreat
