/- Contracts: store. No condition. -/
import Derived.Test.YthlkpnjjkgmlkaaGreatWb
namespace Go.Proofs.YthlkpnjjkgmlkaaGreat
set_option linter.unusedSimpArgs false
set_option linter.unusedVariables false
open Go Go.Proofs Go.Vc
attribute [local irreducible] x'c VCg VCw VCx
theorem z'S {env:Nat→D} {env':List (Nat×D)} {H H':Heap} (hh:H=H') (h:Vc.sub env env'):Weak ⟨env,H⟩ ⟨y'd env',H'⟩:=hh▸Weak.sub h
theorem x'g {env:Nat→D} {env':List (Nat×D)} {x:Nat×HC} {H H':Heap} (hh:H=H') (h:Vc.sub env env'):Weak ⟨env,x::H⟩ ⟨y'd env',H'⟩:=Weak.subH (hh▸z'0 _ _) h
theorem ZdL {P:Program} {n:Nat} {c:Code} {s:St} {Q:Exit→St→Prop} {t m:Nat} {g:Option (Nat×Nat)} (ht:s.env t= .gs g m) (h:gOk g m→VC P n c s Q):VC P n c s Q:=fun x a w hn hs=>
 h (by have:=hs.env t;rw[ht,Rel]at this;exact this.2) x a w hn hs
theorem Zmh {loc:Int}: ∀{b:List En} {k:Nat} {x:En},b[k]?=some x→x.1=loc→(∀i y,i<k→b[i]?=some y→y.1≠loc)→w'u loc b=some k
 |x0::r,0,x,h,hx,_=>by
  obtain rfl:x0=x:=by simpa using h
  simp[w'u,hx]
 |x0::r,k+1,x,h,hx,hno=>by
  have h0:x0.1≠loc:=hno 0 x0 (by omega) rfl
  have:=Zmh (b:=r) (k:=k) (by simpa using h) hx fun i y hi hy=>hno (i+1) y (by omega) (by simpa using hy)
  simp[w'u,h0,this]
theorem Zmi {loc:Int}: ∀{b:List En},(∀(i:Nat) (y:En),b[i]?=some y→y.1≠loc)→w'u loc b=none
 |[],_=>rfl
 |x0::r,hno=>by
  have h0:x0.1≠loc:=hno 0 x0 rfl
  have:=Zmi (b:=r) fun i y hy=>hno (i+1) y (by simpa using hy)
  simp[w'u,h0,this]
def Zcq:Option Nat→Int
 |some k=>k
 |none=> -1
theorem Zp5 (b:List En) (hb:b.length≤1000000) (loc:Int):Pure Tryz.prog 349 [buf b,iD loc] (iD (Zcq (w'u loc b))):=by
 refine Fun.of T [.tmp 4] Tryz.func349 rfl Tryz.ntmps349 Tryz.results349 rfl (by kernel_rfl) ?_
 repeat' first|refine vs T rfl fun K hK=>?_;(try simp (disch:=omega) only[go_sem,Nat.reduceBEq]);(refine hK _ _ ?_;clear hK K)|refine st rfl ?_|refine nl ?_
 refine VC.loop {k:Nat//k≤b.length∧ ∀i y,i<k→b[i]?=some y→y.1≠loc} (fun p=>⟨y'd [(1,iD loc),(7,buf b),(8,iD (b.length:Nat)),(9,iD (p.1:Nat))],[]⟩) (fun p=>b.length-p.1) ⟨0,by omega,fun i y hi=>by omega⟩ ?_ ?_
 ·refine Weak.sub ?_
  simp[sub,upd,eRs]
 ·rintro⟨k,hk,hno⟩
  dsimp only
  rcases z'j k b.length with hlt|hge
  ·have hd:decide ((k:Int)<(b.length:Int))=true:=by simp;omega
   have hw:IntKind.i64.wrap ((k:Int)+1)=((k+1:Nat):Int):=by rw[w64 (by omega)];omega
   obtain⟨x,hx⟩: ∃x,b[k]?=some x:=⟨_,z'b hlt⟩
   have hrow:(eRs b)[k]?=some [iD x.1,iD x.2]:=by rw[Zbc,hx];rfl
   by_cases he:x.1=loc
   ·have he':(x.1 == loc)=true:=by simpa using he
    have hf:=Zmh hx he hno
    repeat' first|refine vs T rfl fun K hK=>?_;(try simp (disch:=omega) only[go_sem,Nat.reduceBEq,Nat.reduceAdd,Nat.reduceLeDiff,hd,hrow,he',z'7]);(first|refine hK _ _ ?_;clear hK K|intro bq hbq;(try simp only[HB]at hbq);refine hK _ _ ?_;clear hK K|refine⟨?_,hK _ _ ?_⟩<;>clear hK K;focus(try omega))|refine st rfl ?_|refine sc rfl ?_|refine nl ?_|refine z'A T (z'a _) ?_;(try simp only[upd,Nat.reduceBEq,cond_true,cond_false,and_true,hf,Zcq])
   ·have he':(x.1 == loc)=false:=by simpa using he
    repeat' first|refine vs T rfl fun K hK=>?_;(try simp (disch:=omega) only[go_sem,Nat.reduceBEq,Nat.reduceAdd,Nat.reduceLeDiff,hd,hw,hrow,he',z'7]);(first|refine hK _ _ ?_;clear hK K|intro bq hbq;(try simp only[HB]at hbq);refine hK _ _ ?_;clear hK K|refine⟨?_,hK _ _ ?_⟩<;>clear hK K;focus(try omega))|refine st rfl ?_|refine sc rfl ?_|refine nl ?_
    refine⟨⟨k+1,by omega,fun i y hi hy=>?_⟩,x'g rfl ?_,by simp only[];omega⟩
    ·rcases z'j i k with h'|h'
     ·exact hno i y h' hy
     ·obtain rfl:i=k:=by omega
      rw[hx]at hy;cases hy;exact he
    ·simp[sub,upd]
  ·have hd:decide ((k:Int)<(b.length:Int))=false:=by simp;omega
   have hf:w'u loc b=none:=Zmi fun i y hy=>hno i y (by have:=(z'g.1 hy).1;omega) hy
   repeat' first|refine vs T rfl fun K hK=>?_;(try simp (disch:=omega) only[go_sem,Nat.reduceBEq,hd]);(refine hK _ _ ?_;clear hK K)|refine st rfl ?_|refine sc rfl ?_|refine nl ?_|refine z'A T (z'a _) ?_;(try simp only[upd,Nat.reduceBEq,cond_true,cond_false,and_true,hf,Zcq])
theorem ZbE (b:List En) (hb:b.length≤1000000) (loc:Int):Pure Tryz.prog 259 [buf b,iD loc] (iD (x'O loc b:Nat)):=by
 refine Fun.of T [.tmp 4] Tryz.func259 rfl Tryz.ntmps259 Tryz.results259 rfl (by kernel_rfl) ?_
 repeat' first|refine vs T rfl fun K hK=>?_;(try simp (disch:=omega) only[go_sem,Nat.reduceBEq]);(refine hK _ _ ?_;clear hK K)|refine st rfl ?_|refine nl ?_
 refine VC.loop {k:Nat//k≤b.length} (fun p=>⟨y'd [(1,iD loc),(5,iD (x'O loc (b.take p.1):Nat)),(8,buf b),(9,iD (b.length:Nat)),(10,iD (p.1:Nat))],[]⟩) (fun p=>b.length-p.1) ⟨0,by omega⟩ ?_ ?_
 ·refine Weak.sub ?_
  simp[sub,upd,eRs,x'O]
 ·rintro⟨k,hk⟩
  dsimp only
  have hc:x'O loc (b.take k)≤b.length:=z'3 List.countP_le_length (by rw[z'y];omega)
  rcases z'j k b.length with hlt|hge
  ·have hd:decide ((k:Int)<(b.length:Int))=true:=by simp;omega
   have hw:IntKind.i64.wrap ((k:Int)+1)=((k+1:Nat):Int):=by rw[w64 (by omega)];omega
   have hw2:IntKind.i64.wrap ((x'O loc (b.take k):Nat)+1:Int)=((x'O loc (b.take k)+1:Nat):Int):=by rw[w64 (by omega)];omega
   obtain⟨x,hx⟩: ∃x,b[k]?=some x:=⟨_,z'b hlt⟩
   have hrow:(eRs b)[k]?=some [iD x.1,iD x.2]:=by rw[Zbc,hx];rfl
   have ht:b.take (k+1)=b.take k++[x]:=by rw[y'e,hx];rfl
   by_cases he:x.1=loc
   ·have he':(x.1 == loc)=true:=by simpa using he
    have hn:x'O loc (b.take (k+1))=x'O loc (b.take k)+1:=by rw[ht,x'O,List.countP_append];simp[he,x'O]
    repeat' first|refine vs T rfl fun K hK=>?_;(try simp (disch:=omega) only[go_sem,Nat.reduceBEq,Nat.reduceAdd,Nat.reduceLeDiff,hd,hw,hw2,hrow,he',z'7]);(first|refine hK _ _ ?_;clear hK K|intro bq hbq;(try simp only[HB]at hbq);refine hK _ _ ?_;clear hK K|refine⟨?_,hK _ _ ?_⟩<;>clear hK K;focus(try omega))|refine st rfl ?_|refine sc rfl ?_|refine nl ?_
    refine⟨⟨k+1,by omega⟩,x'g rfl ?_,by simp only[];omega⟩
    simp[sub,upd,hn]
   ·have he':(x.1 == loc)=false:=by simpa using he
    have hn:x'O loc (b.take (k+1))=x'O loc (b.take k):=by rw[ht,x'O,List.countP_append];simp[he,x'O]
    repeat' first|refine vs T rfl fun K hK=>?_;(try simp (disch:=omega) only[go_sem,Nat.reduceBEq,Nat.reduceAdd,Nat.reduceLeDiff,hd,hw,hrow,he',z'7]);(first|refine hK _ _ ?_;clear hK K|intro bq hbq;(try simp only[HB]at hbq);refine hK _ _ ?_;clear hK K|refine⟨?_,hK _ _ ?_⟩<;>clear hK K;focus(try omega))|refine st rfl ?_|refine sc rfl ?_|refine nl ?_
    refine⟨⟨k+1,by omega⟩,x'g rfl ?_,by simp only[];omega⟩
    simp[sub,upd,hn]
  ·have hd:decide ((k:Int)<(b.length:Int))=false:=by simp;omega
   have ht:b.take k=b:=z'5 hge
   repeat' first|refine vs T rfl fun K hK=>?_;(try simp (disch:=omega) only[go_sem,Nat.reduceBEq,hd,ht]);(refine hK _ _ ?_;clear hK K)|refine st rfl ?_|refine sc rfl ?_|refine nl ?_|exact z'A T (z'a _) ⟨rfl,rfl⟩
def Zcz (m r loc:Int) (b:List En):Bool:=if m=2 then decide ((b.length:Int)<r)else if m=3 then decide (((x'O loc b:Nat):Int)<r)else false
theorem ZsL (b:List En) (hb:b.length≤1000000) (m r loc:Int):Pure Tryz.prog 331 [buf b,iD m,iD r,iD loc] (bD (Zcz m r loc b)):=by
 refine Fun.of T [.tmp 8] Tryz.func331 rfl Tryz.ntmps331 Tryz.results331 rfl (by kernel_rfl) ?_
 by_cases h2:m=2
 ·subst h2
  repeat' first|refine vs T rfl fun K hK=>?_;(try simp (disch:=omega) only[go_sem,Nat.reduceBEq,Nat.reduceAdd,z'7]);(refine hK _ _ ?_;clear hK K)|refine st rfl ?_|refine sc rfl ?_|refine nl ?_|exact z'A T (z'a _) ⟨rfl,rfl⟩
 ·have e2:(m == 2)=false:=by simpa using h2
  by_cases h3:m=3
  ·subst h3
   repeat' first|refine vs T rfl fun K hK=>?_;(try simp (disch:=omega) only[go_sem,Nat.reduceBEq,Nat.reduceAdd]);(first|refine hK _ _ ?_;clear hK K|refine Op1.callp rfl rfl (ZbE b hb _) rfl ?_;refine hK _ _ ?_;clear hK K)|refine st rfl ?_|refine sc rfl ?_|refine nl ?_|exact z'A T (z'a _) ⟨rfl,rfl⟩
  ·have e3:(m == 3)=false:=by simpa using h3
   repeat' first|refine vs T rfl fun K hK=>?_;(try simp (disch:=omega) only[go_sem,Nat.reduceBEq,Nat.reduceAdd,e2,e3]);(refine hK _ _ ?_;clear hK K)|refine st rfl ?_|refine sc rfl ?_|refine nl ?_|refine z'A T (z'a _) ?_;(try simp only[upd,Nat.reduceBEq,cond_true,cond_false,and_true])
   simp[Zcz,h2,h3]
def zE (n:Nat):List En:=List.replicate n (0,0)
theorem Zcm (n:Nat):(zE n).length=n:=y'i
theorem ZpH (n:Nat):v'r n [.int .i64 0,.int .i64 0]=(eRs (zE n)).flatten:=by
 unfold v'r eRs zE
 rw[w'Z]
 rfl
theorem Zbb (a b:List En):eRs (a++b)=eRs a++eRs b:=z'v ..
theorem Zq8 (l:List D) (o:Nat):setL l o []=l:=by rw[setL]
theorem Zly: ∀(p c q r:List D),q.length=c.length→setL (p++q++r) p.length c=p++c++r
 |p,[],q,r,h=>by
  have:q=[]:=z'C h
  subst this
  rw[Zq8]
 |p,x::c,[],r,h=>by simp at h
 |p,x::c,y::q,r,h=>by
  rw[setL]
  have e1:(p++y::q++r).set p.length x=(p++[x])++q++r:=by
   rw[z'6,List.set_append_right _ _ (z'f _),Nat.sub_self,z'N,List.set_cons_zero]
   simp
  rw[e1,show p.length+1=(p++[x]).length by simp,Zly (p++[x]) c q r (by simpa using h)]
  simp
theorem ZeP (b c:List En) (k:Nat) (h:k+c.length≤b.length):setL (eRs b).flatten (k*2) (eRs c).flatten=(eRs (b.take k++c++b.drop (k+c.length))).flatten:=by
 have e:b=b.take k++(b.drop k).take c.length++b.drop (k+c.length):=by
  rw[z'6, ←x'G,x'p,x'p]
 have hk:(eRs (b.take k)).flatten.length=k*2:=by rw[v'z,z'y];rw[x'1 (by omega)]
 conv=>lhs;rw[e]
 rw[Zbb,Zbb,w'O,w'O, ←hk,Zly _ _ _ _ (by rw[v'z,v'z,z'y,y'C];rw[x'1 (by omega)])]
 rw[Zbb,Zbb,w'O,w'O]
theorem Zla (b:List En) (hb:b.length≤1000000):Pure Tryz.prog 340 [buf b] (buf b):=by
 refine Fun.freeze (ZfM b) ?_
 have h1:(eRs b).flatten.take (b.length*2)=(eRs b).flatten:=z'5 (by rw[v'z];exact z'f _)
 refine Fun.of T [.tmp 2] Tryz.func340 rfl Tryz.ntmps340 Tryz.results340 rfl (by kernel_rfl) ?_
 repeat' first|refine vs T rfl fun K hK=>?_;(try simp (disch:=omega) only[go_sem,Nat.reduceBEq,z'7,ZpH]);(first|refine hK _ _ ?_;clear hK K|refine⟨?_,fun bq hbq=>?_⟩;rotate_left;(try simp only[HB]at hbq);refine hK _ _ ?_;all_goals clear hK K|refine Zc0 T rfl ?_;(simp (disch:=omega) only[go_sem,Nat.reduceBEq,z'7,Nat.min_self,h1]);(refine⟨?_,hK _ _ ?_⟩<;>clear hK K))|refine st rfl ?_|refine nl ?_
 ·rw[v'z,Zcm];exact z'f _
 ·have h2:setL (eRs (zE b.length)).flatten 0 (eRs b).flatten=(eRs b).flatten:=by
   have:=ZeP (zE b.length) b 0 (by rw[Zcm];omega)
   simpa[zE]using this
  rw[h2]
  exact z'A T (z'w _) ⟨some (bq,b.length),201,by rw[z'7];rfl,rfl⟩
 ·omega
theorem Zos (b:List En) (k:Nat):(eRs b).take k=eRs (b.take k):=by rw[eRs,eRs,List.map_take]
theorem Zj1 (b:List En) (k:Nat):(eRs b).drop k=eRs (b.drop k):=by rw[eRs,eRs,List.map_drop]
theorem Zmd (b:List En) (n:Nat) (h:n=b.length):(eRs b).flatten.take (n*2)=(eRs b).flatten:=z'5 (by rw[v'z,h];exact z'f _)
def ZbS (k:Nat) (e:En) (b:List En):List En:=b.take k++e::b.drop k
theorem ZqV (k:Nat) (e:En) (b:List En) (hk:k≤b.length):(ZbS k e b).length=b.length+1:=by
 simp[ZbS];omega
theorem Zpi (b:List En) (hb:b.length≤1000000) (k:Nat) (hk:k≤b.length) (e1 e2:Int):Pure Tryz.prog 339 [buf b,iD (k:Nat),.agg [iD e1,iD e2]] (buf (ZbS k (e1,e2) b)):=by
 refine Fun.freeze (ZfM _) ?_
 have hw:IntKind.i64.wrap ((b.length:Int)+1)=((b.length+1:Nat):Int):=by rw[w64 (by omega)];omega
 have hw2:IntKind.i64.wrap ((k:Int)+1)=((k+1:Nat):Int):=by rw[w64 (by omega)];omega
 have hl:(b.take k).length=k:=by rw[z'y];omega
 have m1:Nat.min (b.take k).length (b.length+1)=k:=by rw[hl];exact x'1 (by omega)
 have t1:=Zmd (b.take k) k hl.symm
 have hz: ∀n m,(zE n).drop m=zE (n-m):=fun n m=>List.drop_replicate ..
 have h1:setL (eRs (zE (b.length+1))).flatten 0 (eRs (b.take k)).flatten=(eRs (b.take k++zE (b.length+1-k))).flatten:=by
  have:=ZeP (zE (b.length+1)) (b.take k) 0 (by rw[Zcm];omega)
  rw[w'c,y'p,x'F,z'H,hl,hz]at this
  exact this
 have h2:((eRs (b.take k++zE (b.length+1-k))).flatten.set (k*2) (iD e1)).set (k*2+1) (iD e2)=(eRs (b.take k++[(e1,e2)]++zE (b.length-k))).flatten:=by
  have:=ZeP (b.take k++zE (b.length+1-k)) [(e1,e2)] k (by rw[z'h,hl,Zcm];simp;omega)
  have e1':(b.take k++zE (b.length+1-k)).take k=b.take k:=List.take_left' hl
  have e2':(b.take k++zE (b.length+1-k)).drop (k+[((e1,e2):En)].length)=zE (b.length-k):=by
   rw[←x'G,List.drop_left' hl,hz];congr 1;simp;omega
  rw[e1',e2']at this
  exact this
 have hl2:(b.drop k).length=b.length-k:=y'C
 have m2:Nat.min (b.drop k).length (b.length+1-(k+1))=b.length-k:=by rw[hl2,show b.length+1-(k+1)=b.length-k by omega];exact Nat.min_self _
 have t2:=Zmd (b.drop k) (b.length-k) hl2.symm
 have hl3:(b.take k++[((e1,e2):En)]).length=k+1:=by rw[z'h,hl];rfl
 have h3:setL (eRs (b.take k++[(e1,e2)]++zE (b.length-k))).flatten ((k+1)*2) (eRs (b.drop k)).flatten=(eRs (ZbS k (e1,e2) b)).flatten:=by
  have:=ZeP (b.take k++[(e1,e2)]++zE (b.length-k)) (b.drop k) (k+1) (by rw[z'h,hl3,Zcm,hl2];omega)
  rw[List.take_left' hl3,hl2, ←x'G,List.drop_left' hl3,hz,Nat.sub_self]at this
  rw[this]
  congr 2
  simp[ZbS,zE]
 refine Fun.of T [.tmp 6] Tryz.func339 rfl Tryz.ntmps339 Tryz.results339 rfl (by kernel_rfl) ?_
 repeat' first|refine dr (id:=4) T 7 (by kernel_rfl) ?_|refine gn ?_|apply VCg.step T rfl rfl;focus((try simp (disch:=omega) only[go_sem,Nat.reduceBEq,z'7,hw2,Zj1]);(first|exact rfl|refine⟨?_,rfl⟩;try omega))|refine vs T rfl fun K hK=>?_;(try simp (disch:=omega) only[go_sem,Nat.reduceBEq,Nat.reduceAdd,Nat.reduceLeDiff,z'7,hw,h2,ZpH,Zos,Zj1]);(first|refine hK _ _ ?_;clear hK K|intro bq hbq;(try simp only[HB]at hbq);refine hK _ _ ?_;clear hK K|refine⟨?_,hK _ _ ?_⟩<;>clear hK K;focus(try omega)|refine⟨?_,fun bq hbq=>?_⟩;rotate_left;(try simp only[HB]at hbq);refine hK _ _ ?_;all_goals clear hK K|refine Zc0 T rfl ?_;(simp (disch:=omega) only[go_sem,Nat.reduceBEq,z'7,m1,t1,h1,m2,t2,h3]);(refine⟨?_,hK _ _ ?_⟩<;>clear hK K))|refine st rfl ?_|refine nl ?_
 ·rw[v'z,Zcm];omega
 ·rw[v'z,z'h,hl,Zcm];omega
 ·rw[v'z,z'h,hl3,Zcm];omega
 ·refine z'A T ((z'a _).cons_cons _) ⟨some (bq,b.length+1),201,?_,rfl⟩
  rw[z'7,ZqV k _ b hk]
  rfl
 ·omega
theorem Zmv (e:En): ∀(b:List En) (k:Nat) (x:En),b[k]?=some x→x.1>e.1→(∀(i:Nat) (y:En),i<k→b[i]?=some y→ ¬y.1>e.1)→w'T e b=ZbS k e b
 |x0::r,0,x,h,hx,_=>by
  obtain rfl:x0=x:=by simpa using h
  simp[w'T,ZbS,hx]
 |x0::r,k+1,x,h,hx,hno=>by
  have h0: ¬x0.1>e.1:=hno 0 x0 (by omega) rfl
  have:=Zmv e r k x (by simpa using h) hx fun i y hi hy=>hno (i+1) y (by omega) (by simpa using hy)
  unfold w'T
  simp only[h0,decide_false,this,ZbS]
  simp
theorem ZkM (e:En): ∀(b:List En),(∀(i:Nat) (y:En),b[i]?=some y→ ¬y.1>e.1)→w'T e b=ZbS b.length e b
 |[],_=>rfl
 |x0::r,hno=>by
  have h0: ¬x0.1>e.1:=hno 0 x0 rfl
  have:=ZkM e r fun i y hy=>hno (i+1) y (by simpa using hy)
  unfold w'T
  simp only[h0,decide_false,this,ZbS]
  simp
theorem Zsy (e:En) (b:List En):ZbS b.length e b=b++[e]:=by simp[ZbS]
theorem Zsx (b:List En) (hb:b.length≤1000000) (m e1 e2:Int):Pure Tryz.prog 336 [buf b,iD m,.agg [iD e1,iD e2]] (buf (w'M m (e1,e2) b)):=by
 have cEnd:=Zpi b hb b.length (z'f _) e1 e2
 refine Fun.of T [.tmp 6] Tryz.func336 rfl Tryz.ntmps336 Tryz.results336 rfl (by kernel_rfl) ?_
 by_cases h2:m=2
 ·subst h2
  have hp:w'M 2 (e1,e2) b=ZbS b.length (e1,e2) b:=by rw[Zsy];rfl
  rw[hp]
  repeat' first|refine vs T rfl fun K hK=>?_;(try simp (disch:=omega) only[go_sem,Nat.reduceBEq,Nat.reduceAdd,Nat.reduceLeDiff,z'7,beq_self_eq_true]);(first|refine hK _ _ ?_;clear hK K|intro bq hbq;(try simp only[HB]at hbq);refine hK _ _ ?_;clear hK K|refine Op1.callp rfl rfl (cEnd) rfl ?_;refine hK _ _ ?_;clear hK K)|refine st rfl ?_|refine sc rfl ?_|refine nl ?_|exact z'A T (z'a _) ⟨rfl,rfl⟩
 ·have e2':(m == 2)=false:=by simpa using h2
  by_cases h3:m=3
  ·subst h3
   have hp:w'M 3 (e1,e2) b=w'T (e1,e2) b:=rfl
   rw[hp]
   repeat' first|refine vs T rfl fun K hK=>?_;(try simp (disch:=omega) only[go_sem,Nat.reduceBEq,Nat.reduceAdd,z'7,e2',beq_self_eq_true]);(first|refine hK _ _ ?_;clear hK K|intro bq hbq;(try simp only[HB]at hbq);refine hK _ _ ?_;clear hK K)|refine st rfl ?_|refine sc rfl ?_|refine nl ?_
   refine VC.loop {k:Nat//k≤b.length∧ ∀(i:Nat) (y:En),i<k→b[i]?=some y→ ¬y.1>e1} (fun p=>⟨y'd [(0,buf b),(5,.is (.pointer (some ⟨bq,0,none⟩))),(19,buf b),(20,iD (b.length:Nat)),(21,iD (p.1:Nat))],[(bq,.cells 201 2 [iD e1,iD e2])]⟩) (fun p=>b.length-p.1) ⟨0,by omega,fun i y hi=>by omega⟩ ?_ ?_
   ·refine Weak.sub ?_
    simp[sub,upd]
   ·rintro⟨k,hk,hno⟩
    dsimp only
    rcases z'j k b.length with hlt|hge
    ·have hd:decide ((k:Int)<(b.length:Int))=true:=by simp;omega
     have hw:IntKind.i64.wrap ((k:Int)+1)=((k+1:Nat):Int):=by rw[w64 (by omega)];omega
     obtain⟨x,hx⟩: ∃x,b[k]?=some x:=⟨_,z'b hlt⟩
     have hrow:(eRs b)[k]?=some [iD x.1,iD x.2]:=by rw[Zbc,hx];rfl
     by_cases he:x.1>e1
     ·have he':decide (x.1>e1)=true:=by simpa using he
      have hf:=Zmv (e1,e2) b k x hx he hno
      have cAt:=Zpi b hb k hk e1 e2
      rw[hf]
      repeat' first|refine vs T rfl fun K hK=>?_;(try simp (disch:=omega) only[go_sem,Nat.reduceBEq,Nat.reduceAdd,Nat.reduceLeDiff,hd,hrow,he',z'7]);(first|refine hK _ _ ?_;clear hK K|intro bq hbq;(try simp only[HB]at hbq);refine hK _ _ ?_;clear hK K|refine⟨?_,hK _ _ ?_⟩<;>clear hK K;focus(try omega)|refine Op1.callp rfl rfl (cAt) rfl ?_;refine hK _ _ ?_;clear hK K)|refine st rfl ?_|refine sc rfl ?_|refine nl ?_|exact z'A T (z'a _) ⟨rfl,rfl⟩
     ·have he':decide (x.1>e1)=false:=by simpa using he
      repeat' first|refine vs T rfl fun K hK=>?_;(try simp (disch:=omega) only[go_sem,Nat.reduceBEq,Nat.reduceAdd,Nat.reduceLeDiff,hd,hw,hrow,he',z'7]);(first|refine hK _ _ ?_;clear hK K|intro bq hbq;(try simp only[HB]at hbq);refine hK _ _ ?_;clear hK K|refine⟨?_,hK _ _ ?_⟩<;>clear hK K;focus(try omega))|refine st rfl ?_|refine sc rfl ?_|refine nl ?_
      refine⟨⟨k+1,by omega,fun i y hi hy=>?_⟩,x'g rfl ?_,by simp only[];omega⟩
      ·rcases z'j i k with h'|h'
       ·exact hno i y h' hy
       ·obtain rfl:i=k:=by omega
        rw[hx]at hy;cases hy;exact he
      ·simp[sub,upd]
    ·have hd:decide ((k:Int)<(b.length:Int))=false:=by simp;omega
     have hf:=ZkM (e1,e2) b fun i y hy=>hno i y (by have:=(z'g.1 hy).1;omega) hy
     rw[hf]
     repeat' first|refine vs T rfl fun K hK=>?_;(try simp (disch:=omega) only[go_sem,Nat.reduceBEq,Nat.reduceAdd,Nat.reduceLeDiff,hd,z'7]);(first|refine hK _ _ ?_;clear hK K|refine Op1.callp rfl rfl (cEnd) rfl ?_;refine hK _ _ ?_;clear hK K)|refine st rfl ?_|refine sc rfl ?_|refine nl ?_|exact z'A T (z'a _) ⟨rfl,rfl⟩
  ·have e3:(m == 3)=false:=by simpa using h3
   have hp:w'M m (e1,e2) b=b:=by simp[w'M,h2,h3]
   rw[hp]
   repeat' first|refine vs T rfl fun K hK=>?_;(try simp (disch:=omega) only[go_sem,Nat.reduceBEq,Nat.reduceAdd,e2',e3]);(first|refine hK _ _ ?_;clear hK K|intro bq hbq;(try simp only[HB]at hbq);refine hK _ _ ?_;clear hK K|refine Op1.callp rfl rfl (Zla b hb) rfl ?_;refine hK _ _ ?_;clear hK K)|refine st rfl ?_|refine sc rfl ?_|refine nl ?_|exact z'A T (z'a _) ⟨rfl,rfl⟩
end Go.Proofs.YthlkpnjjkgmlkaaGreat
