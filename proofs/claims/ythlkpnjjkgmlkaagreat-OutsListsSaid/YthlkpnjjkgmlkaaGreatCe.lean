/- A configuration al bytes, in plain Lean. No condition. -/
import Derived.Test.YthlkpnjjkgmlkaaGreatXe
import Derived.Test.YthlkpnjjkgmlkaaGreatWj
import Derived.Test.YthlkpnjjkgmlkaaGreatYla
import Derived.Test.YthlkpnjjkgmlkaaGreatYk
namespace Go.Proofs.YthlkpnjjkgmlkaaGreat
set_option maxHeartbeats 16000000
set_option linter.unusedSimpArgs false
set_option linter.unusedVariables false
open Go Go.Proofs Go.Vc
def byI (n:Int):Int:=IntKind.u8.wrap n
theorem v'2 {n:Int} (h:0≤n∧n<256):byI n=n:=by
 unfold byI
 have e:IntKind.u8.wrap n=n % 256:=rfl
 rw[e];omega
def Zbe (b:List En):List Int:=b.flatMap fun e=>[byI e.1,byI e.2]
def thB (p:Int) (r:List Int) (b:List En):List Int:=byI (p.tdiv 256)::byI (p.tmod 256)::(r.map byI++byI (b.length:Nat)::Zbe b)
def Zaf:List Int→List (List Int)→List (List En)→List Int
 |p::ps,r::rs,b::bs=>thB p r b++Zaf ps rs bs
 |_,_,_=>[]
def ZbJ (c:Cf):List Int:=Zaf c.pc c.regs c.bufs++c.mem.map byI
def x'5 (n:Int):Prop:=0≤n∧n<256
theorem Zf5 {l:List Int} (h: ∀n,n∈l→x'5 n):l.map byI=l:=by
 have:l.map byI=l.map id:=y'k fun n hn=>v'2 (h n hn)
 rw[this,List.map_id]
theorem Zj7: ∀{a b:List En} {x y:List Int},a.length=b.length→(∀e,e∈a→x'5 e.1∧x'5 e.2)→(∀e,e∈b→x'5 e.1∧x'5 e.2)→Zbe a++x=Zbe b++y→a=b∧x=y
 |[],[],x,y,_,_,_,h=>⟨rfl,h⟩
 |[],_::_,_,_,h,_,_,_=>by cases h
 |_::_,[],_,_,h,_,_,_=>by cases h
 |e::a,f::b,x,y,hl,ha,hb,h=>by
  have e1:=ha e (by simp)
  have f1:=hb f (by simp)
  simp only[Zbe,List.flatMap_cons,z'N,z'H,x'A]at h
  rw[v'2 e1.1,v'2 e1.2,v'2 f1.1,v'2 f1.2]at h
  obtain⟨h1,h2,h3⟩:=h
  obtain⟨q1,q2⟩:=Zj7 (a:=a) (b:=b) (by simpa using hl) (fun e he=>ha e (by simp[he])) (fun e he=>hb e (by simp[he])) h3
  exact⟨by rw[q1,Prod.ext h1 h2],q2⟩
def ZjN (p:Int) (r:List Int) (b:List En):Prop:=(0≤p∧p<65536)∧(∀n,n∈r→x'5 n)∧b.length<256∧ ∀e,e∈b→x'5 e.1∧x'5 e.2
theorem ZsV {p q:Int} {r s:List Int} {a b:List En} {x y:List Int} (h1:ZjN p r a) (h2:ZjN q s b) (hl:r.length=s.length) (h:thB p r a++x=thB q s b++y):p=q∧r=s∧a=b∧x=y:=by
 obtain⟨p1,p2,p3,p4⟩:=h1
 obtain⟨q1,q2,q3,q4⟩:=h2
 simp only[thB,z'N,z'6,x'A]at h
 obtain⟨g1,g2,g3⟩:=h
 have t1:p.tdiv 256=p/256:=w'z p1.1
 have t2:q.tdiv 256=q/256:=w'z q1.1
 have t3:p.tmod 256=p % 256:=w'y p1.1
 have t4:q.tmod 256=q % 256:=w'y q1.1
 rw[t1,t2,v'2 (by omega),v'2 (by omega)]at g1
 rw[t3,t4,v'2 (by omega),v'2 (by omega)]at g2
 rw[Zf5 p2,Zf5 q2]at g3
 obtain⟨g4,g5⟩:=List.append_inj g3 hl
 simp only[x'A]at g5
 rw[v'2 (by omega),v'2 (by omega)]at g5
 obtain⟨g6,g7⟩:=Zj7 (by omega) p4 q4 g5.2
 exact⟨by omega,g4,g6,g7⟩
structure CfB (rg:List Int) (lm:Nat) (c:Cf):Prop where
 pl:c.pc.length=rg.length
 rl:c.regs.length=rg.length
 bl:c.bufs.length=rg.length
 ml:c.mem.length=lm
 ms: ∀n,n∈c.mem→x'5 n
 th: ∀(t:Nat) p r b,c.pc[t]?=some p→c.regs[t]?=some r→c.bufs[t]?=some b→ZjN p r b∧rg[t]?=some (r.length:Int)
theorem ZlC: ∀{rg ps qs:List Int} {rs ss:List (List Int)} {al bs:List (List En)} {x y:List Int},ps.length=rg.length→qs.length=rg.length→rs.length=rg.length→ss.length=rg.length→al.length=rg.length→bs.length=rg.length→
  (∀(t:Nat) p r b,ps[t]?=some p→rs[t]?=some r→al[t]?=some b→ZjN p r b∧rg[t]?=some (r.length:Int))→
  (∀(t:Nat) p r b,qs[t]?=some p→ss[t]?=some r→bs[t]?=some b→ZjN p r b∧rg[t]?=some (r.length:Int))→
  Zaf ps rs al++x=Zaf qs ss bs++y→ps=qs∧rs=ss∧al=bs∧x=y
 |[],ps,qs,rs,ss,al,bs,x,y,h1,h2,h3,h4,h5,h6,_,_,h=>by
  obtain rfl:=z'C h1
  obtain rfl:=z'C h2
  obtain rfl:=z'C h3
  obtain rfl:=z'C h4
  obtain rfl:=z'C h5
  obtain rfl:=z'C h6
  exact⟨rfl,rfl,rfl,h⟩
 |g::rg,p::ps,q::qs,r::rs,s::ss,a::al,b::bs,x,y,h1,h2,h3,h4,h5,h6,k1,k2,h=>by
  obtain⟨a1,a2⟩:=k1 0 p r a rfl rfl rfl
  obtain⟨b1,b2⟩:=k2 0 q s b rfl rfl rfl
  have hl:r.length=s.length:=by
   have:=a2.symm.trans b2
   simp only[z'D]at this
   omega
  simp only[Zaf,z'6]at h
  obtain⟨e1,e2,e3,e4⟩:=ZsV a1 b1 hl h
  obtain⟨f1,f2,f3,f4⟩:=ZlC (rg:=rg) (by simpa using h1) (by simpa using h2) (by simpa using h3) (by simpa using h4) (by simpa using h5) (by simpa using h6) (fun t p r b x y z=>k1 (t+1) p r b x y z) (fun t p r b x y z=>k2 (t+1) p r b x y z) e4
  exact⟨by rw[e1,f1],by rw[e2,f2],by rw[e3,f3],f4⟩
theorem ZpZ {rg:List Int} {lm:Nat} {c d:Cf} (hc:CfB rg lm c) (hd:CfB rg lm d) (h:ZbJ c=ZbJ d):c=d:=by
 unfold ZbJ at h
 obtain⟨h1,h2,h3,h4⟩:=ZlC hc.pl hd.pl hc.rl hd.rl hc.bl hd.bl hc.th hd.th h
 rw[Zf5 hc.ms,Zf5 hd.ms]at h4
 cases c;cases d
 simp_all
set_option maxRecDepth 20000
attribute [local irreducible] x'c VCg VCw VCx
def lens {α:Type} (l:List (List α)):Nat:=(l.map List.length).sum
theorem Zdr {α:Type} {l:List (List α)} {k:Nat} {r:List α} (h:l[k]?=some r):lens (l.take (k+1))=lens (l.take k)+r.length:=by
 unfold lens
 rw[y'e,h,y'Y,z'v,List.sum_append]
 simp
theorem ZcE {α:Type} {l:List (List α)} {b:Nat} (h: ∀r,r∈l→r.length≤b):lens l≤l.length*b:=by
 induction l with
 |nil=>simp[lens]
 |cons r l ih=>
  have h1:=h r (by simp)
  have h2:=ih fun x hx=>h x (by simp[hx])
  unfold lens at h2⊢
  rw[z'm,List.sum_cons,z'u,x's]
  omega
def x'C (c:Cf):Nat:=3*c.pc.length+c.mem.length+lens c.regs+2*lens c.bufs
theorem ZsN (c:Cf) (h:OkC c):Pure Tryz.prog 257 [.agg (cfC c)] (iD (x'C c:Nat)):=by
 have h1:=h.pc
 have h2:=h.mem
 have h3:=h.regs
 have h4:=h.bufs
 have b1:=fun k=>ZcE (l:=c.regs.take k) (b:=1000) fun r hr=>h.row r (x'L hr)
 have b2:=fun k=>ZcE (l:=c.bufs.take k) (b:=1000) fun r hr=>h.buf r (x'L hr)
 have hwA:IntKind.i64.wrap (3*(c.pc.length:Int))=((3*c.pc.length:Nat):Int):=by rw[w64 (by omega)];omega
 have hwB:IntKind.i64.wrap (((3*c.pc.length:Nat):Int)+(c.mem.length:Int))=((3*c.pc.length+c.mem.length:Nat):Int):=by rw[w64 (by omega)];omega
 refine Fun.of T [.tmp 2] Tryz.func257 rfl Tryz.ntmps257 Tryz.results257 rfl (by kernel_rfl) ?_
 repeat' first|refine vb rfl rfl rfl rfl ?_|refine vs T rfl fun K hK=>?_;(try simp (disch:=omega) only[go_sem,Nat.reduceBEq,z'I,y'4,hwA,hwB]);(refine hK _ _ ?_;clear hK K)|refine st rfl ?_|refine nl ?_
 refine VC.loop {k:Nat//k≤c.regs.length} (fun k=>⟨y'd [(1,.pt (cfC c)),(3,iD (3*c.pc.length+c.mem.length+lens (c.regs.take k.1):Nat)),(17,.sl false 1 (x'X c.regs)),(18,iD (c.regs.length:Nat)),(19,iD (k.1:Nat))],[]⟩) (fun k=>c.regs.length-k.1) ⟨0,by omega⟩ ?_ ?_
 ·refine Weak.sub ?_
  simp[sub,upd,lens]
 rintro⟨k,hk⟩
 dsimp only
 rcases z'j k c.regs.length with hlt|hge
 ·have hd:decide ((k:Int)<(c.regs.length:Int))=true:=by simp;omega
  have hw:IntKind.i64.wrap ((k:Int)+1)=((k+1:Nat):Int):=by rw[w64 (by omega)];omega
  obtain⟨r,hr⟩: ∃r,c.regs[k]?=some r:=⟨_,z'b hlt⟩
  have rr:(x'X c.regs)[k]?=some [y'c r]:=by rw[Zaa,hr];rfl
  have hrl:=h.row r (z'l hr)
  have hbk:=b1 k
  rw[z'y]at hbk
  have hw2:IntKind.i64.wrap (((3*c.pc.length+c.mem.length+lens (c.regs.take k):Nat):Int)+(r.length:Int))=((3*c.pc.length+c.mem.length+lens (c.regs.take (k+1)):Nat):Int):=by
   have:min k c.regs.length*1000≤1000000:=by omega
   rw[Zdr hr,w64 (by omega)];omega
  repeat' first|refine vs T rfl fun K hK=>?_;(try simp (disch:=omega) only[go_sem,Nat.reduceBEq,z'I,y'4,hd,hw,hw2,rr]);(first|refine hK _ _ ?_;clear hK K|refine⟨?_,hK _ _ ?_⟩<;>clear hK K;focus(try omega))|refine st rfl ?_|refine sc rfl ?_|refine nl ?_
  refine⟨⟨k+1,by omega⟩,Weak.sub ?_,by dsimp only;omega⟩
  simp[sub,upd]
 ·have hd:decide ((k:Int)<(c.regs.length:Int))=false:=by simp;omega
  obtain rfl:k=c.regs.length:=by omega
  rw[z'Y]
  repeat' first|refine vs T rfl fun K hK=>?_;(try simp (disch:=omega) only[go_sem,Nat.reduceBEq,y'u,hd]);(refine hK _ _ ?_;clear hK K)|refine st rfl ?_|refine sc rfl ?_|refine nl ?_
  refine VC.loop {k:Nat//k≤c.bufs.length} (fun k=>⟨y'd [(3,iD (3*c.pc.length+c.mem.length+lens c.regs+2*lens (c.bufs.take k.1):Nat)),(29,.sl false 1 (x'6 c.bufs)),(30,iD (c.bufs.length:Nat)),(31,iD (k.1:Nat))],[]⟩) (fun k=>c.bufs.length-k.1) ⟨0,by omega⟩ ?_ ?_
  ·refine Weak.sub ?_
   simp[sub,upd,lens]
  rintro⟨k,hk⟩
  dsimp only
  have hb0:=b1 c.regs.length
  rw[z'Y]at hb0
  rcases z'j k c.bufs.length with hlt|hge
  ·have hd:decide ((k:Int)<(c.bufs.length:Int))=true:=by simp;omega
   have hw:IntKind.i64.wrap ((k:Int)+1)=((k+1:Nat):Int):=by rw[w64 (by omega)];omega
   obtain⟨r,hr⟩: ∃r,c.bufs[k]?=some r:=⟨_,z'b hlt⟩
   have rr:(x'6 c.bufs)[k]?=some [buf r]:=by rw[v'y,hr];rfl
   have hrl:=h.buf r (z'l hr)
   have hbk:=b2 k
   rw[z'y]at hbk
   have hw1:IntKind.i64.wrap (2*(r.length:Int))=((2*r.length:Nat):Int):=by rw[w64 (by omega)];omega
   have hw2:IntKind.i64.wrap (((3*c.pc.length+c.mem.length+lens c.regs+2*lens (c.bufs.take k):Nat):Int)+((2*r.length:Nat):Int))=((3*c.pc.length+c.mem.length+lens c.regs+2*lens (c.bufs.take (k+1)):Nat):Int):=by
    have:min k c.bufs.length*1000≤1000000:=by omega
    rw[Zdr hr,w64 (by omega)];omega
   repeat' first|refine vs T rfl fun K hK=>?_;(try simp (disch:=omega) only[go_sem,Nat.reduceBEq,z'7,y'u,hd,hw,hw1,hw2,rr]);(first|refine hK _ _ ?_;clear hK K|refine⟨?_,hK _ _ ?_⟩<;>clear hK K;focus(try omega))|refine st rfl ?_|refine sc rfl ?_|refine nl ?_
   refine⟨⟨k+1,by omega⟩,Weak.sub ?_,by dsimp only;omega⟩
   simp[sub,upd]
  ·have hd:decide ((k:Int)<(c.bufs.length:Int))=false:=by simp;omega
   obtain rfl:k=c.bufs.length:=by omega
   rw[z'Y]
   repeat' first|refine vs T rfl fun K hK=>?_;(try simp (disch:=omega) only[go_sem,Nat.reduceBEq,hd]);(refine hK _ _ ?_;clear hK K)|refine st rfl ?_|refine sc rfl ?_|refine nl ?_|exact z'A T (z'a _) ⟨rfl,rfl⟩
abbrev u8I (n:Int):D:= .is (.int .u8 n)
def Zeb (l:List Int):List (List D):=l.map fun n=>[u8I n]
theorem ZjU (l:List Int):(Zeb l).length=l.length:=z'i ..
theorem ZiO (l:List Int):(Zeb l).flatten=l.map u8I:=by
 induction l with
 |nil=>rfl
 |cons x l ih=>simp only[Zeb,z'm,z'R]at ih⊢;rw[ih];rfl
def ZaI (n:Nat) (w:List Int):List D:=w.map u8I++List.replicate (n-w.length) (u8I 0)
theorem Zpm {n:Nat} {w:List Int} (h:w.length≤n):(ZaI n w).length=n:=by simp[ZaI];omega
theorem Zgu: ∀(l pre post:List D),l.length≤post.length→setL (pre++post) pre.length l=pre++l++post.drop l.length
 |[],pre,post,_=>by simp[setL]
 |d::l,pre,[],h=>by simp at h
 |d::l,pre,p::post,h=>by
  rw[setL]
  have e:(pre++p::post).set pre.length d=(pre++[d])++post:=by simp
  have:=Zgu l (pre++[d]) post (by simpa using h)
  rw[e]
  rw[show pre.length+1=(pre++[d]).length by simp,this]
  simp
theorem Zpn {n:Nat} {w l:List Int} (h:w.length+l.length≤n):setL (ZaI n w) w.length (l.map u8I)=ZaI n (w++l):=by
 unfold ZaI
 have:=Zgu (l.map u8I) (w.map u8I) (List.replicate (n-w.length) (u8I 0)) (by simp;omega)
 rw[z'i,z'i]at this
 rw[this,List.drop_replicate,z'v,z'h]
 congr 2
 omega
abbrev wrW (b br cap n:Nat) (w:List Int):Heap:=[(b,.cells 284 2 [.gs (some (br,cap)) n,iD (w.length:Nat)]),(br,.cells 5 (cap*1) (ZaI n w))]
theorem Zd6 (b br cap n:Nat) (hn:n≤100000000) (w l:List Int) (h:w.length+l.length≤n) (f:Bool):Fun Tryz.prog 258 [pD b,.sl f 1 (Zeb l)] (wrW b br cap n w) false (fun d H'=>d= .tup []∧H'=wrW b br cap n (w++l)):=by
 have hlen:=Zpm (n:=n) (w:=w) (by omega)
 have hmin:Nat.min l.length (n-w.length)=l.length:=x'1 (by omega)
 have hpw:=Zpn h
 have hw:IntKind.i64.wrap ((w.length:Int)+(l.length:Int))=(((w++l).length:Nat):Int):=by
  rw[z'h,w64 (by omega)];omega
 refine Fun.of T [] Tryz.func258 rfl Tryz.ntmps258 Tryz.results258 rfl (by kernel_rfl) ?_
 refine VC.nodup fun hnd=>?_
 have n1: ¬b=br:=fun h=>by subst h;simp[Heap.blocks]at hnd
 repeat' refine VC.drawS (id:=0) (by kernel_rfl) ?_
 refine VCd.groupW T [(b,.cells 284 2 [.gs (some (br,cap)) n,iD (w.length:Nat)]),(br,.cells 5 (cap*1) (ZaI n (w++l)))] 14 16 16 rfl rfl rfl (by kernel_rfl) (by kernel_rfl) (by kernel_rfl) ?_
 repeat' first|apply VCw.step T rfl rfl (by rfl);(focus((try simp (disch:=omega) only[go_sem,Nat.reduceBEq,z'K]);(first|exact rfl|refine⟨?_,rfl⟩;try omega)));(focus(try simp (disch:=omega) only[go_sem,Nat.reduceBEq,z'K]));(focus(try omega))|fail
 have htk:(l.map u8I).take l.length=l.map u8I:=z'5 (by rw[z'i];exact z'f _)
 refine VCw.writeD (d:=iD (l.length:Nat)) T rfl rfl rfl (Zc0 T rfl ?_) ?_
 ·simp (disch:=omega) only[go_sem,Nat.reduceBEq,ZiO,ZjU,hmin,z'K,htk,hpw,hlen]
  exact h
 repeat' first|apply VCw.step T rfl rfl (by rfl);(focus((try simp (disch:=omega) only[go_sem,Nat.reduceBEq,hw]);(exact rfl)));(focus(try simp (disch:=omega) only[go_sem,Nat.reduceBEq,hw]))|refine VCw.nil T ?_|refine VCd.tail (f:=16) (by kernel_rfl) ?_;(try simp only[y'j,y'a])|refine vs T rfl fun K hK=>?_;(try simp (disch:=omega) only[go_sem,Nat.reduceBEq,Nat.reduceAdd,Nat.reduceLeDiff]);(refine hK _ _ ?_;clear hK K)|refine nl ?_|refine ov ?_
 exact v'9 T rfl (z'w _) ⟨rfl,rfl⟩
end Go.Proofs.YthlkpnjjkgmlkaaGreat
