/- Contracts: how many bytes a configuration has. No condition. -/
import Derived.Test.YtomcmfbpmkklmaaGreatBh
import Derived.Test.YtomcmfbpmkklmaaGreatXg
import Derived.Test.YtomcmfbpmkklmaaGreatYj
import Derived.Test.YtomcmfbpmkklmaaGreatYq
import Derived.Test.YtomcmfbpmkklmaaGreatWd
import Derived.Test.YtomcmfbpmkklmaaGreatRb
import Derived.Test.YtomcmfbpmkklmaaGreatRg
import Derived.Test.YtomcmfbpmkklmaaGreatSa
namespace Go.Proofs.YtomcmfbpmkklmaaGreat
set_option maxHeartbeats 16000000
set_option linter.unusedSimpArgs false
set_option linter.unusedVariables false
set_option maxRecDepth 20000
open Go Go.Proofs Go.Vc
attribute [local irreducible] y'0 VCg VCw VCx
def lens {α:Type} (l:List (List α)):Nat:=(l.map List.length).sum
theorem Zdg {α:Type} {l:List (List α)} {k:Nat} {r:List α} (h:l[k]?=some r):lens (l.take (k+1))=lens (l.take k)+r.length:=by
 unfold lens
 rw[y'b,h,w'l,z'F,List.sum_append]
 simp
theorem ZcO {α:Type} {l:List (List α)} {b:Nat} (h: ∀r,r∈l→r.length≤b):lens l≤l.length*b:=by
 induction l with
 |nil=>simp[lens]
 |cons r l ih=>
  have h1:=h r (by simp)
  have h2:=ih fun x hx=>h x (by simp[hx])
  unfold lens at h2⊢
  rw[z'z,List.sum_cons,z'D,w'z]
  omega
def w'f (c:Cf):Nat:=3*c.pc.length+c.mem.length+lens c.regs+2*lens c.bufs
theorem Zoe (c:Cf) (h:OkC c):Pure Tryz.prog 121 [.agg (cfC c)] (iD (w'f c:Nat)):=by
 have h1:=h.pc
 have h2:=h.mem
 have h3:=h.regs
 have h4:=h.bufs
 have b1:=fun k=>ZcO (l:=c.regs.take k) (b:=1000) fun r hr=>h.row r (v'x hr)
 have b2:=fun k=>ZcO (l:=c.bufs.take k) (b:=1000) fun r hr=>h.buf r (v'x hr)
 have hwA:IntKind.i64.wrap (3*(c.pc.length:Int))=((3*c.pc.length:Nat):Int):=by rw[w64 (by omega)];omega
 have hwB:IntKind.i64.wrap (((3*c.pc.length:Nat):Int)+(c.mem.length:Int))=((3*c.pc.length+c.mem.length:Nat):Int):=by rw[w64 (by omega)];omega
 refine Fun.of T [.tmp 2] Tryz.func121 rfl Tryz.ntmps121 Tryz.results121 rfl (by kernel_rfl) ?_
 repeat' first|refine vb rfl rfl rfl rfl ?_|refine vs T rfl fun K hK=>?_;(try simp (disch:=omega) only[go_sem,Nat.reduceBEq,z'l,z'W,hwA,hwB]);(refine hK _ _ ?_;clear hK K)|refine st rfl ?_|refine nl ?_
 refine VC.loop {k:Nat//k≤c.regs.length} (fun k=>⟨z'M [(1,.pt (cfC c)),(3,iD (3*c.pc.length+c.mem.length+lens (c.regs.take k.1):Nat)),(17,.sl false 1 (x'j c.regs)),(18,iD (c.regs.length:Nat)),(19,iD (k.1:Nat))],[]⟩) (fun k=>c.regs.length-k.1) ⟨0,by omega⟩ ?_ ?_
 ·refine Weak.sub ?_
  simp[sub,upd,lens]
 rintro⟨k,hk⟩
 dsimp only
 rcases z'g k c.regs.length with hlt|hge
 ·have hd:decide ((k:Int)<(c.regs.length:Int))=true:=by simp;omega
  have hw:IntKind.i64.wrap ((k:Int)+1)=((k+1:Nat):Int):=by rw[w64 (by omega)];omega
  obtain⟨r,hr⟩: ∃r,c.regs[k]?=some r:=⟨_,z'b hlt⟩
  have rr:(x'j c.regs)[k]?=some [z'S r]:=by rw[w'j,hr];rfl
  have hrl:=h.row r (z'f hr)
  have hbk:=b1 k
  rw[z'A]at hbk
  have hw2:IntKind.i64.wrap (((3*c.pc.length+c.mem.length+lens (c.regs.take k):Nat):Int)+(r.length:Int))=((3*c.pc.length+c.mem.length+lens (c.regs.take (k+1)):Nat):Int):=by
   have:min k c.regs.length*1000≤1000000:=by omega
   rw[Zdg hr,w64 (by omega)];omega
  repeat' first|refine vs T rfl fun K hK=>?_;(try simp (disch:=omega) only[go_sem,Nat.reduceBEq,z'l,z'W,hd,hw,hw2,rr]);(first|refine hK _ _ ?_;clear hK K|refine⟨?_,hK _ _ ?_⟩<;>clear hK K;focus(try omega))|refine st rfl ?_|refine sc rfl ?_|refine nl ?_
  refine⟨⟨k+1,by omega⟩,Weak.sub ?_,by dsimp only;omega⟩
  simp[sub,upd]
 ·have hd:decide ((k:Int)<(c.regs.length:Int))=false:=by simp;omega
  obtain rfl:k=c.regs.length:=by omega
  rw[z'Q]
  repeat' first|refine vs T rfl fun K hK=>?_;(try simp (disch:=omega) only[go_sem,Nat.reduceBEq,z'J,hd]);(refine hK _ _ ?_;clear hK K)|refine st rfl ?_|refine sc rfl ?_|refine nl ?_
  refine VC.loop {k:Nat//k≤c.bufs.length} (fun k=>⟨z'M [(3,iD (3*c.pc.length+c.mem.length+lens c.regs+2*lens (c.bufs.take k.1):Nat)),(29,.sl false 1 (y'U c.bufs)),(30,iD (c.bufs.length:Nat)),(31,iD (k.1:Nat))],[]⟩) (fun k=>c.bufs.length-k.1) ⟨0,by omega⟩ ?_ ?_
  ·refine Weak.sub ?_
   simp[sub,upd,lens]
  rintro⟨k,hk⟩
  dsimp only
  have hb0:=b1 c.regs.length
  rw[z'Q]at hb0
  rcases z'g k c.bufs.length with hlt|hge
  ·have hd:decide ((k:Int)<(c.bufs.length:Int))=true:=by simp;omega
   have hw:IntKind.i64.wrap ((k:Int)+1)=((k+1:Nat):Int):=by rw[w64 (by omega)];omega
   obtain⟨r,hr⟩: ∃r,c.bufs[k]?=some r:=⟨_,z'b hlt⟩
   have rr:(y'U c.bufs)[k]?=some [buf r]:=by rw[y'P,hr];rfl
   have hrl:=h.buf r (z'f hr)
   have hbk:=b2 k
   rw[z'A]at hbk
   have hw1:IntKind.i64.wrap (2*(r.length:Int))=((2*r.length:Nat):Int):=by rw[w64 (by omega)];omega
   have hw2:IntKind.i64.wrap (((3*c.pc.length+c.mem.length+lens c.regs+2*lens (c.bufs.take k):Nat):Int)+((2*r.length:Nat):Int))=((3*c.pc.length+c.mem.length+lens c.regs+2*lens (c.bufs.take (k+1)):Nat):Int):=by
    have:min k c.bufs.length*1000≤1000000:=by omega
    rw[Zdg hr,w64 (by omega)];omega
   repeat' first|refine vs T rfl fun K hK=>?_;(try simp (disch:=omega) only[go_sem,Nat.reduceBEq,z't,z'J,hd,hw,hw1,hw2,rr]);(first|refine hK _ _ ?_;clear hK K|refine⟨?_,hK _ _ ?_⟩<;>clear hK K;focus(try omega))|refine st rfl ?_|refine sc rfl ?_|refine nl ?_
   refine⟨⟨k+1,by omega⟩,Weak.sub ?_,by dsimp only;omega⟩
   simp[sub,upd]
  ·have hd:decide ((k:Int)<(c.bufs.length:Int))=false:=by simp;omega
   obtain rfl:k=c.bufs.length:=by omega
   rw[z'Q]
   repeat' first|refine vs T rfl fun K hK=>?_;(try simp (disch:=omega) only[go_sem,Nat.reduceBEq,hd]);(refine hK _ _ ?_;clear hK K)|refine st rfl ?_|refine sc rfl ?_|refine nl ?_|exact z'j T (z'a _) ⟨rfl,rfl⟩
abbrev u8I (n:Int):D:= .is (.int .u8 n)
def Zd3 (l:List Int):List (List D):=l.map fun n=>[u8I n]
theorem Zin (l:List Int):(Zd3 l).length=l.length:=z'p ..
theorem Zg7 (l:List Int):(Zd3 l).flatten=l.map u8I:=by
 induction l with
 |nil=>rfl
 |cons x l ih=>simp only[Zd3,z'z,z'X]at ih⊢;rw[ih];rfl
def Zbm (n:Nat) (w:List Int):List D:=w.map u8I++List.replicate (n-w.length) (u8I 0)
theorem Zlf {n:Nat} {w:List Int} (h:w.length≤n):(Zbm n w).length=n:=by simp[Zbm];omega
theorem Zfm: ∀(l pre post:List D),l.length≤post.length→setL (pre++post) pre.length l=pre++l++post.drop l.length
 |[],pre,post,_=>by simp[setL]
 |d::l,pre,[],h=>by simp at h
 |d::l,pre,p::post,h=>by
  rw[setL]
  have e:(pre++p::post).set pre.length d=(pre++[d])++post:=by simp
  have:=Zfm l (pre++[d]) post (by simpa using h)
  rw[e]
  rw[show pre.length+1=(pre++[d]).length by simp,this]
  simp
theorem Zln {n:Nat} {w l:List Int} (h:w.length+l.length≤n):setL (Zbm n w) w.length (l.map u8I)=Zbm n (w++l):=by
 unfold Zbm
 have:=Zfm (l.map u8I) (w.map u8I) (List.replicate (n-w.length) (u8I 0)) (by simp;omega)
 rw[z'p,z'p]at this
 rw[this,List.drop_replicate,z'F,z'k]
 congr 2
 omega
abbrev wrW (b br cap n:Nat) (w:List Int):Heap:=[(b,.cells 152 2 [.gs (some (br,cap)) n,iD (w.length:Nat)]),(br,.cells 5 (cap*1) (Zbm n w))]
theorem ZdB (b br cap n:Nat) (hn:n≤100000000) (w l:List Int) (h:w.length+l.length≤n) (f:Bool):Fun Tryz.prog 122 [pD b,.sl f 1 (Zd3 l)] (wrW b br cap n w) false (fun d H'=>d= .tup []∧H'=wrW b br cap n (w++l)):=by
 have hlen:=Zlf (n:=n) (w:=w) (by omega)
 have hmin:Nat.min l.length (n-w.length)=l.length:=w'O (by omega)
 have hpw:=Zln h
 have hw:IntKind.i64.wrap ((w.length:Int)+(l.length:Int))=(((w++l).length:Nat):Int):=by
  rw[z'k,w64 (by omega)];omega
 refine Fun.of T [] Tryz.func122 rfl Tryz.ntmps122 Tryz.results122 rfl (by kernel_rfl) ?_
 refine VC.nodup fun hnd=>?_
 have n1: ¬b=br:=fun h=>by subst h;simp[Heap.blocks]at hnd
 repeat' refine VC.drawS (id:=0) (by kernel_rfl) ?_
 refine VCd.groupW T [(b,.cells 152 2 [.gs (some (br,cap)) n,iD (w.length:Nat)]),(br,.cells 5 (cap*1) (Zbm n (w++l)))] 14 16 16 rfl rfl rfl (by kernel_rfl) (by kernel_rfl) (by kernel_rfl) ?_
 repeat' first|apply VCw.step T rfl rfl (by rfl);(focus((try simp (disch:=omega) only[go_sem,Nat.reduceBEq,z'w]);(first|exact rfl|refine⟨?_,rfl⟩;try omega)));(focus(try simp (disch:=omega) only[go_sem,Nat.reduceBEq,z'w]));(focus(try omega))|fail
 have htk:(l.map u8I).take l.length=l.map u8I:=z'V (by rw[z'p];exact z'v _)
 refine VCw.writeD (d:=iD (l.length:Nat)) T rfl rfl rfl (Zgn T rfl ?_) ?_
 ·simp (disch:=omega) only[go_sem,Nat.reduceBEq,Zg7,Zin,hmin,z'w,htk,hpw,hlen]
  exact h
 repeat' first|apply VCw.step T rfl rfl (by rfl);(focus((try simp (disch:=omega) only[go_sem,Nat.reduceBEq,hw]);(exact rfl)));(focus(try simp (disch:=omega) only[go_sem,Nat.reduceBEq,hw]))|refine VCw.nil T ?_|refine VCd.tail (f:=16) (by kernel_rfl) ?_;(try simp only[y'w,y'o])|refine vs T rfl fun K hK=>?_;(try simp (disch:=omega) only[go_sem,Nat.reduceBEq,Nat.reduceAdd,Nat.reduceLeDiff]);(refine hK _ _ ?_;clear hK K)|refine nl ?_|refine ov ?_
 exact ZaY T rfl (z'm _) ⟨rfl,rfl⟩
theorem ZeN (m r md lc:Int) (b:List En):ZbH m r md lc b=y'Q m r md lc b:=by
 unfold ZbH y'Q Za6 Zai
 cases hX:(List.range b.length).all fun i=> !x'1 m r md lc b i
 ·simp
 by_cases h1:m=1
 ·subst h1;simp
 by_cases h2:m=2
 ·subst h2
  rw[x'l]
  simp only[z'h,x'O,decide_eq_true_eq,ne_eq,reduceIte,Int.reduceEq]
  constructor
  ·rintro⟨h1,h2⟩;exact⟨⟨⟨by omega,h1.1⟩,trivial⟩,.inl ⟨by simp,.inr h2⟩⟩
  ·rintro⟨⟨⟨_,h1⟩,_⟩,h2⟩
   refine⟨⟨h1,trivial⟩,?_⟩
   rcases h2 with⟨_,h2⟩|h2
   ·exact h2.elim (fun h=>h.elim) id
   ·omega
 by_cases h3:m=3
 ·subst h3;simp
 ·rw[x'l]
  simp only[z'h,x'O,decide_eq_true_eq,ne_eq,if_neg h1,if_neg h2]
  constructor
  ·intro h;exact absurd h.2 h3
  ·intro h;omega
theorem Zis {x m:Int}:inB x m=(decide (0≤x)&&decide (x<m)):=by
 unfold inB
 rfl
theorem Zhy (l:List Int) (hl:l.length≤1000000) (m n:Int):Pure Tryz.prog 154 [z'S l,iD m,iD n] (bD (y'z l m&&((l.length:Int) == n))):=by
 refine Fun.of T [.tmp 6] Tryz.func154 rfl Tryz.ntmps154 Tryz.results154 rfl (by kernel_rfl) ?_
 repeat' first|refine vs T rfl fun K hK=>?_;(try simp (disch:=omega) only[go_sem,Nat.reduceBEq,Nat.reduceAdd,z'l]);(refine hK _ _ ?_;clear hK K)|refine st rfl ?_|refine nl ?_
 refine VC.loop {k:Nat//k≤l.length∧ ∀i n,i<k→l[i]?=some n→inB n m=true} (fun p=>⟨z'M [(0,z'S l),(1,iD m),(2,iD n),(9,z'S l),(10,iD (l.length:Nat)),(11,iD (p.1:Nat))],[]⟩) (fun p=>l.length-p.1) ⟨0,by omega,fun i n hi=>by omega⟩ ?_ ?_
 ·refine Weak.sub ?_
  simp[sub,upd]
 rintro⟨k,hk,hno⟩
 dsimp only
 rcases z'g k l.length with hlt|hge
 ·have hd:decide ((k:Int)<(l.length:Int))=true:=by simp;omega
  have hw:IntKind.i64.wrap ((k:Int)+1)=((k+1:Nat):Int):=by rw[w64 (by omega)];omega
  obtain⟨x,hx⟩: ∃x,l[k]?=some x:=⟨_,z'b hlt⟩
  have hrow:(iRs l)[k]?=some [iD x]:=by rw[y'y,hx];rfl
  have bad:inB x m=false→y'z l m=false:=fun he=>by
   unfold y'z
   rw[w'T]
   exact⟨x,z'f hx,by simp[he]⟩
  by_cases q0:x<0
  ·have s0:decide (x<0)=true:=decide_eq_true q0
   rw[bad (by rw[Zis];simp;omega),x'z]
   repeat' first|refine vs T rfl fun K hK=>?_;(try simp (disch:=omega) only[go_sem,Nat.reduceBEq,z'l,hd,hrow,s0]);(first|refine hK _ _ ?_;clear hK K|refine⟨?_,hK _ _ ?_⟩<;>clear hK K;focus(try omega))|refine st rfl ?_|refine sc rfl ?_|refine nl ?_|refine gs rfl rfl ?_|exact z'j T (z'a _) ⟨rfl,rfl⟩
  have s0:decide (x<0)=false:=decide_eq_false q0
  by_cases q1:x≥m
  ·have s1:decide (x≥m)=true:=decide_eq_true q1
   rw[bad (by rw[Zis];simp;omega),x'z]
   repeat' first|refine vs T rfl fun K hK=>?_;(try simp (disch:=omega) only[go_sem,Nat.reduceBEq,z'l,hd,hrow,s0,s1]);(first|refine hK _ _ ?_;clear hK K|refine⟨?_,hK _ _ ?_⟩<;>clear hK K;focus(try omega))|refine st rfl ?_|refine sc rfl ?_|refine nl ?_|refine gs rfl rfl ?_|exact z'j T (z'a _) ⟨rfl,rfl⟩
  have s1:decide (x≥m)=false:=decide_eq_false q1
  repeat' first|refine vs T rfl fun K hK=>?_;(try simp (disch:=omega) only[go_sem,Nat.reduceBEq,z'l,hd,hw,hrow,s0,s1]);(first|refine hK _ _ ?_;clear hK K|refine⟨?_,hK _ _ ?_⟩<;>clear hK K;focus(try omega))|refine st rfl ?_|refine sc rfl ?_|refine nl ?_|refine gs rfl rfl ?_
  refine⟨⟨k+1,by omega,fun i n hi hn=>?_⟩,Weak.sub ?_,by dsimp only;omega⟩
  ·rcases z'g i k with h'|h'
   ·exact hno i n h' hn
   ·obtain rfl:i=k:=by omega
    rw[hx]at hn;cases hn
    rw[Zis];simp;omega
  ·simp[sub,upd]
 ·have hd:decide ((k:Int)<(l.length:Int))=false:=by simp;omega
  have hA:y'z l m=true:=by
   unfold y'z
   rw[z'B]
   intro x hx
   obtain⟨i,hi,rfl⟩:=List.mem_iff_getElem.1 hx
   exact hno i _ (by omega) (z'b hi)
  rw[hA,y'Z]
  repeat' first|refine vs T rfl fun K hK=>?_;(try simp (disch:=omega) only[go_sem,Nat.reduceBEq,z'l,hd]);(refine hK _ _ ?_;clear hK K)|refine st rfl ?_|refine sc rfl ?_|refine nl ?_|exact z'j T (z'a _) ⟨rfl,rfl⟩
theorem Zon {m r md lc:Int} {b:List En} (h:y'Q m r md lc b=true):y'Q m r md lc []=true:=by
 have hg:Zai m r md=true:=by unfold y'Q at h;simp only[z'h]at h;exact h.1.1
 unfold y'Q
 rw[hg]
 simp[Za6]
theorem ZkL (u:Un) (hu:OkU u) (c:Cf) (hc:OkC c) (m r:Int):Pure Tryz.prog 120 [.agg (unC u),.agg (cfC c),iD m,iD r] (bD (y'8 u c m r)):=by
 have k1:=hu.ini
 have k2:=hu.reg
 have k3:=hu.cod
 have k4:=hc.pc
 have k5:=hc.regs
 have k6:=hc.mem
 have k7:=hc.bufs
 have cu:=ZeJ u hu
 have cm:=Zhy c.mem (by omega) u.md (u.init.length:Nat)
 have no:w'Y u c=false→y'8 u c m r=false:=fun h=>by unfold y'8;rw[h];rfl
 refine Fun.of T [.tmp 8] Tryz.func120 rfl Tryz.ntmps120 Tryz.results120 rfl (by kernel_rfl) ?_
 cases hU:z'8 u with
 |false=>
  rw[hU]at cu
  rw[no (by simp[w'Y,hU])]
  repeat' first|refine vb (t:=25) rfl rfl rfl rfl ?_|refine vb (t:=43) rfl rfl rfl rfl ?_|refine vs T rfl fun K hK=>?_;(try simp (disch:=omega) only[go_sem,Nat.reduceBEq,Nat.reduceAdd,Nat.reduceLeDiff,z'q,z'l]);(first|refine hK _ _ ?_;clear hK K|refine Op1.callp rfl rfl (cu) rfl ?_;refine hK _ _ ?_;clear hK K)|refine st rfl ?_|refine sc rfl ?_|refine nl ?_|refine gs rfl rfl ?_|exact z'j T (z'a _) ⟨rfl,rfl⟩
 |true=>
 rw[hU]at cu
 cases hM:y'z c.mem u.md&&((c.mem.length:Int) == (u.init.length:Nat))with
 |false=>
  rw[hM]at cm
  have hM':(y'z c.mem u.md&&decide (c.mem.length=u.init.length))=false:=by
   rw[←hM];congr 1;rw[x'l];simp;omega
  rw[no (by
   unfold w'Y
   rw[Zah]at hM'⊢
   rcases hM' with h|h
   ·exact .inr h
   ·left;simp[h]at h⊢)]
  repeat' first|refine vb (t:=25) rfl rfl rfl rfl ?_|refine vb (t:=43) rfl rfl rfl rfl ?_|refine vs T rfl fun K hK=>?_;(try simp (disch:=omega) only[go_sem,Nat.reduceBEq,Nat.reduceAdd,Nat.reduceLeDiff,z'q,z'i,z'l]);(first|refine hK _ _ ?_;clear hK K|refine Op1.callp rfl rfl (cu) rfl ?_;refine hK _ _ ?_;clear hK K|refine Op1.callp rfl rfl (cm) rfl ?_;refine hK _ _ ?_;clear hK K)|refine st rfl ?_|refine sc rfl ?_|refine nl ?_|refine gs rfl rfl ?_|exact z'j T (z'a _) ⟨rfl,rfl⟩
 |true=>
 rw[hM]at cm
 rw[z'h]at hM
 have g3:c.mem.length=u.init.length:=by have:=hM.2;simp at this;omega
 by_cases g0:c.pc.length=u.regs.length
 case neg=>
  have d0:((c.pc.length:Int) != (u.regs.length:Int))=true:=bne_iff_ne.2 (by omega)
  rw[no (by simp[w'Y,g0])]
  repeat' first|refine vb (t:=25) rfl rfl rfl rfl ?_|refine vb (t:=43) rfl rfl rfl rfl ?_|refine vs T rfl fun K hK=>?_;(try simp (disch:=omega) only[go_sem,Nat.reduceBEq,Nat.reduceAdd,Nat.reduceLeDiff,d0,z'i,z'l]);(first|refine hK _ _ ?_;clear hK K|refine Op1.callp rfl rfl (cu) rfl ?_;refine hK _ _ ?_;clear hK K|refine Op1.callp rfl rfl (cm) rfl ?_;refine hK _ _ ?_;clear hK K)|refine st rfl ?_|refine sc rfl ?_|refine nl ?_|refine gs rfl rfl ?_|exact z'j T (z'a _) ⟨rfl,rfl⟩
 have d0:((c.pc.length:Int) != (u.regs.length:Int))=false:=by simp[g0]
 by_cases g1:c.regs.length=u.regs.length
 case neg=>
  have d1:((c.regs.length:Int) != (u.regs.length:Int))=true:=bne_iff_ne.2 (by omega)
  rw[no (by simp[w'Y,g1])]
  repeat' first|refine vb (t:=25) rfl rfl rfl rfl ?_|refine vb (t:=43) rfl rfl rfl rfl ?_|refine vs T rfl fun K hK=>?_;(try simp (disch:=omega) only[go_sem,Nat.reduceBEq,Nat.reduceAdd,Nat.reduceLeDiff,d0,d1,z'i,z'l,z'W]);(first|refine hK _ _ ?_;clear hK K|refine Op1.callp rfl rfl (cu) rfl ?_;refine hK _ _ ?_;clear hK K|refine Op1.callp rfl rfl (cm) rfl ?_;refine hK _ _ ?_;clear hK K)|refine st rfl ?_|refine sc rfl ?_|refine nl ?_|refine gs rfl rfl ?_|exact z'j T (z'a _) ⟨rfl,rfl⟩
 have d1:((c.regs.length:Int) != (u.regs.length:Int))=false:=by simp[g1]
 by_cases g2:c.bufs.length=u.regs.length
 case neg=>
  have d2:((c.bufs.length:Int) != (u.regs.length:Int))=true:=bne_iff_ne.2 (by omega)
  rw[no (by simp[w'Y,g2])]
  repeat' first|refine vb (t:=25) rfl rfl rfl rfl ?_|refine vb (t:=43) rfl rfl rfl rfl ?_|refine vs T rfl fun K hK=>?_;(try simp (disch:=omega) only[go_sem,Nat.reduceBEq,Nat.reduceAdd,Nat.reduceLeDiff,d0,d1,d2,z'i,z'l,z'W,z'J]);(first|refine hK _ _ ?_;clear hK K|refine Op1.callp rfl rfl (cu) rfl ?_;refine hK _ _ ?_;clear hK K|refine Op1.callp rfl rfl (cm) rfl ?_;refine hK _ _ ?_;clear hK K)|refine st rfl ?_|refine sc rfl ?_|refine nl ?_|refine gs rfl rfl ?_|exact z'j T (z'a _) ⟨rfl,rfl⟩
 have d2:((c.bufs.length:Int) != (u.regs.length:Int))=false:=by simp[g2]
 have hH:w'Y u c=true:=by simp[w'Y,hU,g0,g1,g2,g3,hM.1]
 have hR:y'8 u c m r=(((List.range u.regs.length).all fun t=>v'K u c m r t)&&y'Q m r u.md u.init.length []):=by unfold y'8;rw[hH];rfl
 have hcl:u.code.length=u.regs.length:=by
  have:w'e u=true:=by unfold z'8 at hU;simp only[z'h]at hU;exact hU.1
  simp only[w'e,z'h,decide_eq_true_eq]at this
  exact this.2
 have hun:=(Zc4 hU).2.2
 repeat' first|refine vb (t:=25) rfl rfl rfl rfl ?_|refine vb (t:=43) rfl rfl rfl rfl ?_|refine vs T rfl fun K hK=>?_;(try simp (disch:=omega) only[go_sem,Nat.reduceBEq,Nat.reduceAdd,Nat.reduceLeDiff,d0,d1,d2,z'i,z'l,z'W,z'J]);(first|refine hK _ _ ?_;clear hK K|refine Op1.callp rfl rfl (cu) rfl ?_;refine hK _ _ ?_;clear hK K|refine Op1.callp rfl rfl (cm) rfl ?_;refine hK _ _ ?_;clear hK K)|refine st rfl ?_|refine sc rfl ?_|refine nl ?_|refine gs rfl rfl ?_
 refine VC.loop {t:Nat//t≤u.regs.length∧ ∀j,j<t→v'K u c m r j=true} (fun p=>⟨z'M [(2,iD m),(3,iD r),(4,.pt (unC u)),(5,.pt (cfC c)),(51,z'S c.pc),(52,iD (c.pc.length:Nat)),(53,iD (p.1:Nat))],[]⟩) (fun p=>u.regs.length-p.1) ⟨0,by omega,fun j hj=>by omega⟩ ?_ ?_
 ·refine Weak.sub ?_
  simp[sub,upd]
 rintro⟨t,ht,hs⟩
 dsimp only
 rcases z'g t u.regs.length with hlt|hge
 case inr=>
  have hd:decide ((t:Int)<(c.pc.length:Int))=false:=by simp;omega
  have hall:((List.range u.regs.length).all fun t=>v'K u c m r t)=true:=Zbw fun i hi=>hs i (by omega)
  have h0:=hs 0 (by omega)
  have hr0:y'Q m r u.md u.init.length []=true:=by
   unfold v'K at h0
   simp only[z'h]at h0
   exact Zon h0.2
  have hr:y'8 u c m r=true:=by rw[hR,hall,hr0];rfl
  rw[hr]
  repeat' first|refine vs T rfl fun K hK=>?_;(try simp (disch:=omega) only[go_sem,Nat.reduceBEq,hd]);(refine hK _ _ ?_;clear hK K)|refine st rfl ?_|refine sc rfl ?_|refine nl ?_|exact z'j T (z'a _) ⟨rfl,rfl⟩
 have hd:decide ((t:Int)<(c.pc.length:Int))=true:=by simp;omega
 have hw:IntKind.i64.wrap ((t:Int)+1)=((t+1:Nat):Int):=by rw[w64 (by omega)];omega
 obtain⟨n,hn⟩: ∃n,u.regs[t]?=some n:=⟨_,z'b hlt⟩
 obtain⟨rw0,hrw⟩: ∃r,u.code[t]?=some r:=⟨_,z'b (by omega)⟩
 obtain⟨p,hp⟩: ∃p,c.pc[t]?=some p:=⟨_,z'b (by omega)⟩
 obtain⟨row,hro⟩: ∃p,c.regs[t]?=some p:=⟨_,z'b (by omega)⟩
 obtain⟨b,hb⟩: ∃p,c.bufs[t]?=some p:=⟨_,z'b (by omega)⟩
 have rn:(iRs u.regs)[t]?=some [iD n]:=by rw[y'y,hn];rfl
 have rr:(x'6 u.code)[t]?=some [.sl false 7 (y'J rw0)]:=by rw[x'C,hrw];rfl
 have rp:(iRs c.pc)[t]?=some [iD p]:=by rw[y'y,hp];rfl
 have rg:(x'j c.regs)[t]?=some [z'S row]:=by rw[w'j,hro];rfl
 have rb:(y'U c.bufs)[t]?=some [buf b]:=by rw[y'P,hb];rfl
 have hT:v'K u c m r t=(decide (0≤p)&&decide (p<(rw0.length:Int))&&decide ((row.length:Int)=n)&&y'z row u.md&&y'Q m r u.md u.init.length b):=by
  simp[v'K,z'd,hn,hrw,hp,hro,hb]
 have hbl:=hc.buf b (z'f hb)
 have hrl:=hc.row row (z'f hro)
 have c1:=Zhy row (by omega) u.md n
 have c2:=Zer b (by omega) m r u.md u.init.length
 rw[ZeN]at c2
 have l1:t<u.code.length:=by omega
 have l2:t<c.pc.length:=by omega
 have l3:t<c.regs.length:=by omega
 have l4:t<c.bufs.length:=by omega
 have bad:v'K u c m r t=false→y'8 u c m r=false:=fun h=>by rw[hR,Zbv hlt h];rfl
 by_cases q0:p<0
 ·have s0:decide (p<0)=true:=by simpa using q0
  rw[bad (by rw[hT];simp;omega)]
  repeat' first|refine vs T rfl fun K hK=>?_;(try simp (disch:=omega) only[go_sem,Nat.reduceBEq,hd,rp,s0,z'l]);(first|refine hK _ _ ?_;clear hK K|refine⟨?_,hK _ _ ?_⟩<;>clear hK K;focus(try omega))|refine st rfl ?_|refine sc rfl ?_|refine nl ?_|refine gs rfl rfl ?_|exact z'j T (z'a _) ⟨rfl,rfl⟩
 have s0:decide (p<0)=false:=by simpa using q0
 by_cases q1:p≥(rw0.length:Int)
 ·have s1:decide (p≥(rw0.length:Int))=true:=by simpa using q1
  rw[bad (by rw[hT];simp;omega)]
  repeat' first|refine vs T rfl fun K hK=>?_;(try simp (disch:=omega) only[go_sem,Nat.reduceBEq,hd,rr,rp,s0,s1,z'l,z'H,z'U]);(first|refine hK _ _ ?_;clear hK K|refine⟨?_,hK _ _ ?_⟩<;>clear hK K;focus(try omega))|refine st rfl ?_|refine sc rfl ?_|refine nl ?_|refine gs rfl rfl ?_|exact z'j T (z'a _) ⟨rfl,rfl⟩
 have s1:decide (p≥(rw0.length:Int))=false:=by simpa using q1
 cases hA:y'z row u.md&&((row.length:Int) == n)with
 |false=>
  rw[hA]at c1
  rw[bad (by
   rw[hT]
   rw[Zah]at hA
   rcases hA with h|h
   ·simp[h]
   ·have: ¬(row.length:Int)=n:=by simpa using h
    simp[this])]
  repeat' first|refine dr (id:=9) T 27 (by kernel_rfl) ?_|refine gn ?_|(apply VCg.step T rfl rfl);focus((try simp (disch:=omega) only[go_sem,Nat.reduceBEq,rn,rg,z'q,z'l,z'W]);(first|exact rfl|refine⟨?_,rfl⟩;try omega|refine Op1.callp rfl rfl (c1) rfl ?_;exact⟨rfl,rfl⟩))|refine VCg.gstep T rfl rfl rfl rfl ?_;try simp only[GB]|refine vs T rfl fun K hK=>?_;(try simp (disch:=omega) only[go_sem,Nat.reduceBEq,hd,rr,rp,s0,s1,z'l,z'H,z'U]);(first|refine hK _ _ ?_;clear hK K|refine⟨?_,hK _ _ ?_⟩<;>clear hK K;focus(try omega))|refine st rfl ?_|refine sc rfl ?_|refine nl ?_|refine gs rfl rfl ?_|exact z'j T (z'a _) ⟨rfl,rfl⟩
 |true=>
 rw[hA]at c1
 cases hB:y'Q m r u.md u.init.length b with
 |false=>
  rw[hB]at c2
  rw[bad (by rw[hT,hB];simp)]
  repeat' first|refine dr (id:=9) T 27 (by kernel_rfl) ?_|refine gn ?_|(first|apply VCg.step T rfl rfl|apply exF);focus((try simp (disch:=omega) only[go_sem,Nat.reduceBEq,rn,rg,rb,z'i,z'l,z'W,z'J]);(first|exact rfl|refine⟨?_,rfl⟩;try omega|refine Op1.callp rfl rfl (c1) rfl ?_;exact⟨rfl,rfl⟩))|refine VCg.gstep T rfl rfl rfl rfl ?_;try simp only[GB]|refine vs T rfl fun K hK=>?_;(try simp (disch:=omega) only[go_sem,Nat.reduceBEq,hd,rr,rp,s0,s1,z'q,z'l,z'H,z'U]);(first|refine hK _ _ ?_;clear hK K|refine⟨?_,hK _ _ ?_⟩<;>clear hK K;focus(try omega)|refine Op1.callp rfl rfl (c2) rfl ?_;refine hK _ _ ?_;clear hK K)|refine st rfl ?_|refine sc rfl ?_|refine nl ?_|refine gs rfl rfl ?_|exact z'j T (z'a _) ⟨rfl,rfl⟩
 |true=>
 rw[hB]at c2
 rw[z'h,beq_iff_eq]at hA
 have hTt:v'K u c m r t=true:=by rw[hT,hA.1,hB];simp;have:=hA.2;omega
 repeat' first|refine dr (id:=9) T 27 (by kernel_rfl) ?_|refine gn ?_|(first|apply VCg.step T rfl rfl|apply exF);focus((try simp (disch:=omega) only[go_sem,Nat.reduceBEq,rn,rg,rb,z'i,z'l,z'W,z'J]);(first|exact rfl|refine⟨?_,rfl⟩;try omega|refine Op1.callp rfl rfl (c1) rfl ?_;exact⟨rfl,rfl⟩))|refine VCg.gstep T rfl rfl rfl rfl ?_;try simp only[GB]|refine vs T rfl fun K hK=>?_;(try simp (disch:=omega) only[go_sem,Nat.reduceBEq,hd,hw,rr,rp,s0,s1,z'i,z'l,z'H,z'U]);(first|refine hK _ _ ?_;clear hK K|refine⟨?_,hK _ _ ?_⟩<;>clear hK K;focus(try omega)|refine Op1.callp rfl rfl (c2) rfl ?_;refine hK _ _ ?_;clear hK K)|refine st rfl ?_|refine sc rfl ?_|refine nl ?_|refine gs rfl rfl ?_
 refine⟨⟨t+1,by omega,fun j hj=>?_⟩,Weak.sub ?_,by simp only[];omega⟩
 ·rcases z'g j t with h'|h'
  ·exact hs j h'
  ·obtain rfl:j=t:=by omega
   exact hTt
 ·simp[sub,upd]
theorem Ziu (b:List En):(ZbX b).length=2*b.length:=by
 induction b with
 |nil=>rfl
 |cons e b ih=>simp only[ZbX,List.flatMap_cons,z'k,z'D,z'5]at ih⊢;omega
theorem Zlh (b:List En) (e:En):ZbX (b++[e])=ZbX b++[byI e.1,byI e.2]:=by simp[ZbX]
theorem ZjF (p:Int) (r:List Int) (b:List En):(thB p r b).length=3+r.length+2*b.length:=by
 simp only[thB,z'D,z'k,z'p,Ziu];omega
theorem Zhq: ∀{ps:List Int} {rs:List (List Int)} {bs:List (List En)} (p:Int) (r:List Int) (b:List En),rs.length=ps.length→bs.length=ps.length→ZaV (ps++[p]) (rs++[r]) (bs++[b])=ZaV ps rs bs++thB p r b
 |[],[],[],p,r,b,_,_=>by simp[ZaV]
 |p0::ps,r0::rs,b0::bs,p,r,b,h1,h2=>by
  simp only[z'T,ZaV]
  rw[Zhq p r b (by simpa using h1) (by simpa using h2),z'7]
 |[],_::_,_,_,_,_,h,_=>by simp at h
 |_::_,[],_,_,_,_,h,_=>by simp at h
 |[],[],_::_,_,_,_,_,h=>by simp at h
 |_::_,_::_,[],_,_,_,_,h=>by simp at h
def ZaP (c:Cf) (t:Nat):List Int:=ZaV (c.pc.take t) (c.regs.take t) (c.bufs.take t)
theorem Zen {c:Cf} {t:Nat} {p:Int} {r:List Int} {b:List En} (hp:c.pc[t]?=some p) (hr:c.regs[t]?=some r) (hb:c.bufs[t]?=some b):ZaP c (t+1)=ZaP c t++thB p r b:=by
 unfold ZaP
 have l1:=(z'c.1 hp).1
 have l2:=(z'c.1 hr).1
 have l3:=(z'c.1 hb).1
 rw[y'b,y'b,y'b,hp,hr,hb]
 simp only[w'l]
 exact Zhq p r b (by simp;omega) (by simp;omega)
theorem Zeq {α:Type} (l:List (List α)) (k:Nat):lens (l.take k)≤lens l:=by
 have:lens l=lens (l.take k)+lens (l.drop k):=by
  unfold lens
  rw[←List.sum_append, ←z'F,w'K]
 omega
theorem ZfF {c:Cf} (h1:c.regs.length=c.pc.length) (h2:c.bufs.length=c.pc.length): ∀{t:Nat},t≤c.pc.length→(ZaP c t).length=3*t+lens (c.regs.take t)+2*lens (c.bufs.take t)
 |0,_=>by simp[ZaP,ZaV,lens]
 |t+1,h=>by
  obtain⟨p,hp⟩: ∃p,c.pc[t]?=some p:=⟨_,z'b (by omega)⟩
  obtain⟨r,hr⟩: ∃p,c.regs[t]?=some p:=⟨_,z'b (by omega)⟩
  obtain⟨b,hb⟩: ∃p,c.bufs[t]?=some p:=⟨_,z'b (by omega)⟩
  rw[Zen hp hr hb,z'k,ZfF h1 h2 (by omega),ZjF,Zdg hr,Zdg hb]
  omega
theorem Zim {c:Cf} (h1:c.regs.length=c.pc.length) (h2:c.bufs.length=c.pc.length):ZaP c c.pc.length=ZaV c.pc c.regs c.bufs:=by
 unfold ZaP
 rw[z'Q, ←h1,z'Q,h1, ←h2,z'Q]
theorem ZkZ {c:Cf} (h1:c.regs.length=c.pc.length) (h2:c.bufs.length=c.pc.length) {t:Nat} (h:t≤c.pc.length):(ZaP c t).length+c.mem.length≤w'f c:=by
 rw[ZfF h1 h2 h]
 have:=Zeq c.regs t
 have:=Zeq c.bufs t
 unfold w'f
 omega
theorem ZiU {c:Cf} (h1:c.regs.length=c.pc.length) (h2:c.bufs.length=c.pc.length):(Zb7 c).length=w'f c:=by
 unfold Zb7
 rw[←Zim h1 h2,z'k,ZfF h1 h2 (z'v _),z'p]
 rw[←h1,z'Q,h1, ←h2,z'Q]
 unfold w'f
 omega
theorem ZjO: ∀l:List Int,numsOf .u8 (Zd3 l)=some l
 |[]=>rfl
 |x::l=>by
  have:=ZjO l
  simp only[Zd3,z'z,numsOf]at this⊢
  rw[this]
  rfl
theorem ZoX {rows:List (List D)} {ns:List Int} (hs:numsOf .u8 rows=some ns) {o:Oper} {x:Operand} (ho:o.op= .convert 149 9 x):
  opC T o (fun _=> .sl false 1 rows) [] (fun d H'=>d= .is (.string (Zam ns))∧H'=[]):=by
 unfold opC
 rw[ho]
 simp only[go_sem,Nat.reduceBEq,hs]
theorem Zqj (b br:Nat) {n:Nat} (w:List Int) (h:w.length=n):Fz (wrW b br n n w) (.sl false 1 (Zd3 w)) (.gs (some (br,n)) n):=by
 refine ZaS (e:=5) (l:=Zbm n w) (by rw[Zin,h]) (z'v _) (fun b' cap hb=>?_) ?_
 ·cases hb;exact z'e _ (z'C ..)
 ·have:Zbm n w=(Zd3 w).flatten:=by
   unfold Zbm
   rw[Zg7,h,Nat.sub_self]
   simp
  rw[this]
  exact FzR.refl _ _ fun r hr=>by obtain⟨x,_,rfl⟩:=z'y.1 hr;rfl
def ZhU (u:Un) (c:Cf) (m r:Int):D:=match y'8 u c m r with
 |true=> .tup [sD (Zam (Zb7 c)),iD 0]
 |false=> .tup [sD ⟨#[]⟩,iD 8]
theorem Zes (u:Un) (hu:OkU u) (c:Cf) (hc:OkC c) (m r:Int):Pure Tryz.prog 80 [.agg (unC u),.agg (cfC c),iD m,iD r] (ZhU u c m r):=by
 have cr:=ZkL u hu c hc m r
 have cs:=Zoe c hc
 unfold ZhU
 refine Fun.of T [.tmp 8,.tmp 9] Tryz.func80 rfl Tryz.ntmps80 Tryz.results80 rfl (by kernel_rfl) ?_
 cases hR:y'8 u c m r with
 |false=>
  rw[hR]at cr
  repeat' first|refine vb (t:=25) rfl rfl rfl rfl ?_|refine vb (t:=43) rfl rfl rfl rfl ?_|refine vs T rfl fun K hK=>?_;(try simp (disch:=omega) only[go_sem,Nat.reduceBEq,Nat.reduceAdd,Nat.reduceLeDiff,z'q]);(first|refine hK _ _ ?_;clear hK K|refine Op1.callp rfl rfl (cr) rfl ?_;refine hK _ _ ?_;clear hK K)|refine st rfl ?_|refine sc rfl ?_|refine nl ?_|exact x'E T (z'a _) ⟨rfl,rfl⟩
 |true=>
 rw[hR]at cr
 have hRc:=hR
 unfold y'8 w'Y at hRc
 simp only[z'h,decide_eq_true_eq,z'B,z'K]at hRc
 obtain⟨⟨⟨⟨⟨⟨⟨hU,q1⟩,q2⟩,q3⟩,q4⟩,q5⟩,q6⟩,q7⟩:=hRc
 have h1:c.regs.length=c.pc.length:=by omega
 have h2:c.bufs.length=c.pc.length:=by omega
 have hroom:=fun t (h:t≤c.pc.length)=>ZkZ h1 h2 h
 have hsz:w'f c≤10000000:=by
  have b1:=ZcO (l:=c.regs) (b:=1000) hc.row
  have b2:=ZcO (l:=c.bufs) (b:=1000) hc.buf
  have:=hc.pc
  have:=hc.mem
  have:=hc.regs
  have:=hc.bufs
  unfold w'f
  omega
 have hpc:=hc.pc
 repeat' first|refine vb (t:=25) rfl rfl rfl rfl ?_|refine vb (t:=43) rfl rfl rfl rfl ?_|refine vs T rfl fun K hK=>?_;(try simp (disch:=omega) only[go_sem,Nat.reduceBEq,Nat.reduceAdd,Nat.reduceLeDiff,z'i,z'l]);(first|refine hK _ _ ?_;clear hK K|intro bq hbq;(try simp only[HB]at hbq);refine hK _ _ ?_;clear hK K|refine⟨?_,fun bq hbq=>?_⟩;rotate_left;(try simp only[HB]at hbq);refine hK _ _ ?_;all_goals clear hK K|refine Op1.callp rfl rfl (cr) rfl ?_;refine hK _ _ ?_;clear hK K|refine Op1.callp rfl rfl (cs) rfl ?_;refine hK _ _ ?_;clear hK K)|refine st rfl ?_|refine sc rfl ?_|refine nl ?_
 rotate_left
 ·omega
 rename_i br hbr
 have n1: ¬bq=br:=hbq
 have hz:Zaz (w'f c) [.int .u8 0]=Zbm (w'f c) []:=by
  show(List.replicate (w'f c) [u8I 0]).flatten=_
  unfold Zbm
  rw[y't,z'N,z'5,Nat.sub_zero]
  generalize w'f c=n
  induction n with
  |zero=>rfl
  |succ n ih=>rw[y's,z'X,ih,y's];rfl
 refine VC.loop {t:Nat//t≤c.pc.length} (fun t=>⟨z'M [(5,.pt (cfC c)),(10,pD bq),(31,z'S c.pc),(32,iD (c.pc.length:Nat)),(33,iD (t.1:Nat))],wrW bq br (w'f c) (w'f c) (ZaP c t.1)⟩) (fun t=>c.pc.length-t.1) ⟨0,by omega⟩ ?_ ?_
 ·rw[hz]
  refine Weak.sub ?_
  simp[sub,upd]
 rintro⟨t,ht⟩
 dsimp only
 rcases z'g t c.pc.length with hlt|hge
 ·have hd:decide ((t:Int)<(c.pc.length:Int))=true:=by simp;omega
  obtain⟨p,hp⟩: ∃p,c.pc[t]?=some p:=⟨_,z'b hlt⟩
  obtain⟨g,hr⟩: ∃p,c.regs[t]?=some p:=⟨_,z'b (by omega)⟩
  obtain⟨b,hb⟩: ∃p,c.bufs[t]?=some p:=⟨_,z'b (by omega)⟩
  have rp:(iRs c.pc)[t]?=some [iD p]:=by rw[y'y,hp];rfl
  have rg:(x'j c.regs)[t]?=some [z'S g]:=by rw[w'j,hr];rfl
  have rb:(y'U c.bufs)[t]?=some [buf b]:=by rw[y'P,hb];rfl
  have l3:t<c.regs.length:=by omega
  have l4:t<c.bufs.length:=by omega
  have hrl:=hc.row g (z'f hr)
  have hbl:=hc.buf b (z'f hb)
  have hro:=hroom (t+1) (by omega)
  rw[Zen hp hr hb,z'k,ZjF]at hro
  have hq:IntKind.i64.wrap (p.tdiv 256)=p.tdiv 256:=by
   have ht:=q6 t (by omega)
   unfold v'K at ht
   simp only[z'h,decide_eq_true_eq,z'd,hp,z'I]at ht
   obtain⟨⟨⟨⟨p1,p2⟩, -⟩, -⟩, -⟩:=ht
   have hcl:(u.code[t]?.getD []).length≤100000:=by
    cases hcd:u.code[t]? with
    |none=>exact z'6 _
    |some r=>exact hu.row r (z'f hcd)
   have t1:p.tdiv 256=p/256:=v's p1
   rw[t1]
   exact w64 (by omega)
  have c1:=ZdB bq br (w'f c) (w'f c) (by omega) (ZaP c t) [byI (p.tdiv 256),byI (p.tmod 256)] (by simp only[z'D,z'5];omega) true
  repeat' first|refine vs T rfl fun K hK=>?_;(try simp (disch:=omega) only[go_sem,Nat.reduceBEq,Nat.reduceAdd,Nat.reduceMul,Nat.reduceLeDiff,hd,rp,rg,hq,z'l,z'W]);(first|refine hK _ _ ?_;clear hK K|refine⟨?_,hK _ _ ?_⟩<;>clear hK K;focus(try omega)|refine Op1.callV rfl rfl (c1) rfl (by repeat (first|exact Pick.nil|apply Pick.take)) ?_;refine hK _ _ ?_;clear hK K;(try simp only[z'r]))|refine st rfl ?_|refine sc rfl ?_|refine nl ?_
  refine VC.loop {k:Nat//k≤g.length} (fun k=>⟨z'M [(5,.pt (cfC c)),(10,pD bq),(11,iD (t:Nat)),(31,z'S c.pc),(32,iD (c.pc.length:Nat)),(33,iD (t:Nat)),(51,z'S g),(52,iD (g.length:Nat)),(53,iD (k.1:Nat))],wrW bq br (w'f c) (w'f c) (ZaP c t++([byI (p.tdiv 256),byI (p.tmod 256)]++(g.take k.1).map byI))⟩) (fun k=>g.length-k.1) ⟨0,by omega⟩ ?_ ?_
  ·refine z'G ?_ ?_
   ·simp only[w'G,y't,z'r]
   ·simp[sub,upd]
  rintro⟨k,hk⟩
  dsimp only
  rcases z'g k g.length with hlk|hgk
  ·have hdk:decide ((k:Int)<(g.length:Int))=true:=by simp;omega
   have hwk:IntKind.i64.wrap ((k:Int)+1)=((k+1:Nat):Int):=by rw[w64 (by omega)];omega
   obtain⟨x,hx⟩: ∃x,g[k]?=some x:=⟨_,z'b hlk⟩
   have rx:(iRs g)[k]?=some [iD x]:=by rw[y'y,hx];rfl
   have c2:=ZdB bq br (w'f c) (w'f c) (by omega) (ZaP c t++([byI (p.tdiv 256),byI (p.tmod 256)]++(g.take k).map byI)) [byI x] (by simp only[z'k,z'D,z'5,z'p,z'A];omega) true
   repeat' first|refine vs T rfl fun K hK=>?_;(try simp (disch:=omega) only[go_sem,Nat.reduceBEq,Nat.reduceMul,Nat.reduceLeDiff,hdk,hwk,rx,z'l]);(first|refine hK _ _ ?_;clear hK K|refine⟨?_,hK _ _ ?_⟩<;>clear hK K;focus(try omega)|refine Op1.callV rfl rfl (c2) rfl (by repeat (first|exact Pick.nil|apply Pick.take)) ?_;refine hK _ _ ?_;clear hK K;(try simp only[z'r,z'T,z'N]))|refine st rfl ?_|refine sc rfl ?_|refine nl ?_
   refine⟨⟨k+1,by omega⟩,z'G ?_ ?_,by dsimp only;omega⟩
   ·dsimp only
    simp only[y'b,hx,w'l,z'F,z'z,y't,z'7,z'T,z'N]
   ·simp[sub,upd]
  ·have hdk:decide ((k:Int)<(g.length:Int))=false:=by simp;omega
   obtain rfl:k=g.length:=by omega
   rw[z'Q]
   have c3:=ZdB bq br (w'f c) (w'f c) (by omega) (ZaP c t++([byI (p.tdiv 256),byI (p.tmod 256)]++g.map byI)) [byI (b.length:Nat)] (by simp only[z'k,z'D,z'5,z'p];omega) true
   repeat' first|refine vs T rfl fun K hK=>?_;(try simp (disch:=omega) only[go_sem,Nat.reduceBEq,Nat.reduceMul,Nat.reduceLeDiff,hdk,rb,z't,z'J]);(first|refine hK _ _ ?_;clear hK K|refine⟨?_,hK _ _ ?_⟩<;>clear hK K;focus(try omega)|refine Op1.callV rfl rfl (c3) rfl (by repeat (first|exact Pick.nil|apply Pick.take)) ?_;refine hK _ _ ?_;clear hK K;(try simp only[z'r,z'T,z'N]))|refine st rfl ?_|refine sc rfl ?_|refine nl ?_
   refine VC.loop {k:Nat//k≤b.length} (fun k=>⟨z'M [(5,.pt (cfC c)),(10,pD bq),(31,z'S c.pc),(32,iD (c.pc.length:Nat)),(33,iD (t:Nat)),(77,buf b),(78,iD (b.length:Nat)),(79,iD (k.1:Nat))],wrW bq br (w'f c) (w'f c) (ZaP c t++([byI (p.tdiv 256),byI (p.tmod 256)]++g.map byI)++[byI (b.length:Nat)]++ZbX (b.take k.1))⟩) (fun k=>b.length-k.1) ⟨0,by omega⟩ ?_ ?_
   ·refine z'G ?_ ?_
    ·simp only[w'G,ZbX,List.flatMap_nil,z'r,z'T,z'N]
    ·simp[sub,upd]
   rintro⟨k,hk⟩
   dsimp only
   rcases z'g k b.length with hlk|hgk
   ·have hdk:decide ((k:Int)<(b.length:Int))=true:=by simp;omega
    have hwk:IntKind.i64.wrap ((k:Int)+1)=((k+1:Nat):Int):=by rw[w64 (by omega)];omega
    obtain⟨x,hx⟩: ∃x,b[k]?=some x:=⟨_,z'b hlk⟩
    have rx:(eRs b)[k]?=some [iD x.1,iD x.2]:=by rw[x'5,hx];rfl
    have c4:=ZdB bq br (w'f c) (w'f c) (by omega) (ZaP c t++([byI (p.tdiv 256),byI (p.tmod 256)]++g.map byI)++[byI (b.length:Nat)]++ZbX (b.take k)) [byI x.1,byI x.2] (by simp only[z'k,z'D,z'5,z'p,Ziu,z'A];omega) true
    repeat' first|refine vs T rfl fun K hK=>?_;(try simp (disch:=omega) only[go_sem,Nat.reduceBEq,Nat.reduceAdd,Nat.reduceMul,Nat.reduceLeDiff,hdk,hwk,rx,z't]);(first|refine hK _ _ ?_;clear hK K|intro bq hbq;(try simp only[HB]at hbq);refine hK _ _ ?_;clear hK K|refine⟨?_,hK _ _ ?_⟩<;>clear hK K;focus(try omega)|refine Op1.callV rfl rfl (c4) rfl (by repeat (first|exact Pick.nil|apply Pick.take|apply Pick.skip)) ?_;refine hK _ _ ?_;clear hK K;(try simp only[z'T,z'N]))|refine st rfl ?_|refine sc rfl ?_|refine nl ?_
    refine⟨⟨k+1,by omega⟩,Weak.subH ?_ ?_,by dsimp only;omega⟩
    ·dsimp only
     simp only[y'b,hx,w'l,Zlh,z'7,z'T,z'N]
     exact List.Sublist.cons_cons _ (List.Sublist.cons_cons _ (z'a _))
    ·simp[sub,upd]
   ·have hdk:decide ((k:Int)<(b.length:Int))=false:=by simp;omega
    obtain rfl:k=b.length:=by omega
    rw[z'Q]
    have hwt:IntKind.i64.wrap ((t:Int)+1)=((t+1:Nat):Int):=by rw[w64 (by omega)];omega
    repeat' first|refine vs T rfl fun K hK=>?_;(try simp (disch:=omega) only[go_sem,Nat.reduceBEq,hdk,hwt]);(refine hK _ _ ?_;clear hK K)|refine st rfl ?_|refine sc rfl ?_|refine nl ?_
    refine⟨⟨t+1,by omega⟩,z'G ?_ ?_,by dsimp only;omega⟩
    ·dsimp only
     rw[Zen hp hr hb]
     simp only[thB,z'7,z'T,z'N]
    ·simp[sub,upd]
 ·have hd:decide ((t:Int)<(c.pc.length:Int))=false:=by simp;omega
  obtain rfl:t=c.pc.length:=by omega
  have hro:=hroom c.pc.length (z'v _)
  repeat' first|refine vs T rfl fun K hK=>?_;(try simp (disch:=omega) only[go_sem,Nat.reduceBEq,hd,z'l]);(refine hK _ _ ?_;clear hK K)|refine st rfl ?_|refine sc rfl ?_|refine nl ?_
  refine VC.loop {k:Nat//k≤c.mem.length} (fun k=>⟨z'M [(10,pD bq),(95,z'S c.mem),(96,iD (c.mem.length:Nat)),(97,iD (k.1:Nat))],wrW bq br (w'f c) (w'f c) (ZaP c c.pc.length++(c.mem.take k.1).map byI)⟩) (fun k=>c.mem.length-k.1) ⟨0,by omega⟩ ?_ ?_
  ·refine z'G ?_ ?_
   ·simp only[w'G,y't,z'r]
   ·simp[sub,upd]
  rintro⟨k,hk⟩
  dsimp only
  have hml:=hc.mem
  rcases z'g k c.mem.length with hlk|hgk
  ·have hdk:decide ((k:Int)<(c.mem.length:Int))=true:=by simp;omega
   have hwk:IntKind.i64.wrap ((k:Int)+1)=((k+1:Nat):Int):=by rw[w64 (by omega)];omega
   obtain⟨x,hx⟩: ∃x,c.mem[k]?=some x:=⟨_,z'b hlk⟩
   have rx:(iRs c.mem)[k]?=some [iD x]:=by rw[y'y,hx];rfl
   have c5:=ZdB bq br (w'f c) (w'f c) (by omega) (ZaP c c.pc.length++(c.mem.take k).map byI) [byI x] (by simp only[z'k,z'D,z'5,z'p,z'A];omega) true
   repeat' first|refine vs T rfl fun K hK=>?_;(try simp (disch:=omega) only[go_sem,Nat.reduceBEq,Nat.reduceMul,Nat.reduceLeDiff,hdk,hwk,rx,z'l]);(first|refine hK _ _ ?_;clear hK K|refine⟨?_,hK _ _ ?_⟩<;>clear hK K;focus(try omega)|refine Op1.callV rfl rfl (c5) rfl (by repeat (first|exact Pick.nil|apply Pick.take)) ?_;refine hK _ _ ?_;clear hK K;(try simp only[z'r]))|refine st rfl ?_|refine sc rfl ?_|refine nl ?_
   refine⟨⟨k+1,by omega⟩,z'G ?_ ?_,by dsimp only;omega⟩
   ·dsimp only
    simp only[y'b,hx,w'l,z'F,z'z,y't,z'7]
   ·simp[sub,upd]
  ·have hdk:decide ((k:Int)<(c.mem.length:Int))=false:=by simp;omega
   obtain rfl:k=c.mem.length:=by omega
   rw[z'Q]
   have hE:ZaP c c.pc.length++c.mem.map byI=Zb7 c:=by rw[Zim h1 h2];rfl
   rw[hE]
   have hEl:=ZiU h1 h2
   have hz:=Zqj bq br (Zb7 c) hEl
   have hs:numsOf .u8 (Zd3 (Zb7 c))=some (Zb7 c):=ZjO _
   repeat' first|refine vt rfl fun K hK=>?_;refine ZoG T rfl hz (ZoX hs rfl) rfl ?_;refine hK _ _ ?_;clear hK K;(try simp only[updO])|refine vs T rfl fun K hK=>?_;(try simp (disch:=omega) only[go_sem,Nat.reduceBEq,hdk]);(refine hK _ _ ?_;clear hK K)|refine st rfl ?_|refine sc rfl ?_|refine nl ?_|exact x'E T (z'a _) ⟨rfl,rfl⟩
end Go.Proofs.YtomcmfbpmkklmaaGreat
