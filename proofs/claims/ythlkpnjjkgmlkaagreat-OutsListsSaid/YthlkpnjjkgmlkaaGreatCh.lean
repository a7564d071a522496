/- Contracts: a configuration as bytes. No condition. -/
import Derived.Test.YthlkpnjjkgmlkaaGreatCe
import Derived.Test.YthlkpnjjkgmlkaaGreatCg
import Derived.Test.YthlkpnjjkgmlkaaGreatCc
namespace Go.Proofs.YthlkpnjjkgmlkaaGreat
set_option maxHeartbeats 16000000
set_option linter.unusedSimpArgs false
set_option linter.unusedVariables false
set_option maxRecDepth 20000
open Go Go.Proofs Go.Vc
attribute [local irreducible] x'c VCg VCw VCx
theorem Zj8 (b:List En):(Zbe b).length=2*b.length:=by
 induction b with
 |nil=>rfl
 |cons e b ih=>simp only[Zbe,List.flatMap_cons,z'h,z'u,z'2]at ih⊢;omega
theorem Zov (b:List En) (e:En):Zbe (b++[e])=Zbe b++[byI e.1,byI e.2]:=by simp[Zbe]
theorem Zm5 (p:Int) (r:List Int) (b:List En):(thB p r b).length=3+r.length+2*b.length:=by
 simp only[thB,z'u,z'h,z'i,Zj8];omega
theorem Zjs: ∀{ps:List Int} {rs:List (List Int)} {bs:List (List En)} (p:Int) (r:List Int) (b:List En),rs.length=ps.length→bs.length=ps.length→Zaf (ps++[p]) (rs++[r]) (bs++[b])=Zaf ps rs bs++thB p r b
 |[],[],[],p,r,b,_,_=>by simp[Zaf]
 |p0::ps,r0::rs,b0::bs,p,r,b,h1,h2=>by
  simp only[z'N,Zaf]
  rw[Zjs p r b (by simpa using h1) (by simpa using h2),z'6]
 |[],_::_,_,_,_,_,h,_=>by simp at h
 |_::_,[],_,_,_,_,h,_=>by simp at h
 |[],[],_::_,_,_,_,_,h=>by simp at h
 |_::_,_::_,[],_,_,_,_,h=>by simp at h
def v'T (c:Cf) (t:Nat):List Int:=Zaf (c.pc.take t) (c.regs.take t) (c.bufs.take t)
theorem ZfG {c:Cf} {t:Nat} {p:Int} {r:List Int} {b:List En} (hp:c.pc[t]?=some p) (hr:c.regs[t]?=some r) (hb:c.bufs[t]?=some b):v'T c (t+1)=v'T c t++thB p r b:=by
 unfold v'T
 have l1:=(z'g.1 hp).1
 have l2:=(z'g.1 hr).1
 have l3:=(z'g.1 hb).1
 rw[y'e,y'e,y'e,hp,hr,hb]
 simp only[y'Y]
 exact Zjs p r b (by simp;omega) (by simp;omega)
theorem Zfo {α:Type} (l:List (List α)) (k:Nat):lens (l.take k)≤lens l:=by
 have:lens l=lens (l.take k)+lens (l.drop k):=by
  unfold lens
  rw[←List.sum_append, ←z'v,x'p]
 omega
theorem Zg5 {c:Cf} (h1:c.regs.length=c.pc.length) (h2:c.bufs.length=c.pc.length): ∀{t:Nat},t≤c.pc.length→(v'T c t).length=3*t+lens (c.regs.take t)+2*lens (c.bufs.take t)
 |0,_=>by simp[v'T,Zaf,lens]
 |t+1,h=>by
  obtain⟨p,hp⟩: ∃p,c.pc[t]?=some p:=⟨_,z'b (by omega)⟩
  obtain⟨r,hr⟩: ∃p,c.regs[t]?=some p:=⟨_,z'b (by omega)⟩
  obtain⟨b,hb⟩: ∃p,c.bufs[t]?=some p:=⟨_,z'b (by omega)⟩
  rw[ZfG hp hr hb,z'h,Zg5 h1 h2 (by omega),Zm5,Zdr hr,Zdr hb]
  omega
theorem ZlD {c:Cf} (h1:c.regs.length=c.pc.length) (h2:c.bufs.length=c.pc.length):v'T c c.pc.length=Zaf c.pc c.regs c.bufs:=by
 unfold v'T
 rw[z'Y, ←h1,z'Y,h1, ←h2,z'Y]
theorem ZpD {c:Cf} (h1:c.regs.length=c.pc.length) (h2:c.bufs.length=c.pc.length) {t:Nat} (h:t≤c.pc.length):(v'T c t).length+c.mem.length≤x'C c:=by
 rw[Zg5 h1 h2 h]
 have:=Zfo c.regs t
 have:=Zfo c.bufs t
 unfold x'C
 omega
theorem Zj6 {c:Cf} (h1:c.regs.length=c.pc.length) (h2:c.bufs.length=c.pc.length):(ZbJ c).length=x'C c:=by
 unfold ZbJ
 rw[←ZlD h1 h2,z'h,Zg5 h1 h2 (z'f _),z'i]
 rw[←h1,z'Y,h1, ←h2,z'Y]
 unfold x'C
 omega
theorem ZmG: ∀l:List Int,numsOf .u8 (Zeb l)=some l
 |[]=>rfl
 |x::l=>by
  have:=ZmG l
  simp only[Zeb,z'm,numsOf]at this⊢
  rw[this]
  rfl
theorem ZrT {rows:List (List D)} {ns:List Int} (hs:numsOf .u8 rows=some ns) {o:Oper} {x:Operand} (ho:o.op= .convert 258 9 x):
  opC T o (fun _=> .sl false 1 rows) [] (fun d H'=>d= .is (.string (w'H ns))∧H'=[]):=by
 unfold opC
 rw[ho]
 simp only[go_sem,Nat.reduceBEq,hs]
theorem Zuc (b br:Nat) {n:Nat} (w:List Int) (h:w.length=n):Fz (wrW b br n n w) (.sl false 1 (Zeb w)) (.gs (some (br,n)) n):=by
 refine Zdd (e:=5) (l:=ZaI n w) (by rw[ZjU,h]) (z'f _) (fun b' cap hb=>?_) ?_
 ·cases hb;exact z'k _ (z'n ..)
 ·have:ZaI n w=(Zeb w).flatten:=by
   unfold ZaI
   rw[ZiO,h,Nat.sub_self]
   simp
  rw[this]
  exact FzR.refl _ _ fun r hr=>by obtain⟨x,_,rfl⟩:=z'p.1 hr;rfl
def Znn (u:Un) (c:Cf) (m r:Int):D:=match x'i u c m r with
 |true=> .tup [sD (w'H (ZbJ c)),iD 0]
 |false=> .tup [sD ⟨#[]⟩,iD 8]
theorem ZiS (u:Un) (hu:OkU u) (c:Cf) (hc:OkC c) (m r:Int):Pure Tryz.prog 213 [.agg (unC u),.agg (cfC c),iD m,iD r] (Znn u c m r):=by
 have cr:=Zop u hu c hc m r
 have cs:=ZsN c hc
 unfold Znn
 refine Fun.of T [.tmp 8,.tmp 9] Tryz.func213 rfl Tryz.ntmps213 Tryz.results213 rfl (by kernel_rfl) ?_
 cases hR:x'i u c m r with
 |false=>
  rw[hR]at cr
  repeat' first|refine vb (t:=32) rfl rfl rfl rfl ?_|refine vb (t:=69) rfl rfl rfl rfl ?_|refine vs T rfl fun K hK=>?_;(try simp (disch:=omega) only[go_sem,Nat.reduceBEq,Nat.reduceAdd,Nat.reduceLeDiff,z'O]);(first|refine hK _ _ ?_;clear hK K|refine Op1.callp rfl rfl (cr) rfl ?_;refine hK _ _ ?_;clear hK K)|refine st rfl ?_|refine sc rfl ?_|refine nl ?_|exact w'd T (z'a _) ⟨rfl,rfl⟩
 |true=>
 rw[hR]at cr
 have hRc:=hR
 unfold x'i v'W at hRc
 simp only[z'c,decide_eq_true_eq,z'o,z'Q]at hRc
 obtain⟨⟨⟨⟨⟨⟨⟨hU,q1⟩,q2⟩,q3⟩,q4⟩,q5⟩,q6⟩,q7⟩:=hRc
 have h1:c.regs.length=c.pc.length:=by omega
 have h2:c.bufs.length=c.pc.length:=by omega
 have hroom:=fun t (h:t≤c.pc.length)=>ZpD h1 h2 h
 have hsz:x'C c≤10000000:=by
  have b1:=ZcE (l:=c.regs) (b:=1000) hc.row
  have b2:=ZcE (l:=c.bufs) (b:=1000) hc.buf
  have:=hc.pc
  have:=hc.mem
  have:=hc.regs
  have:=hc.bufs
  unfold x'C
  omega
 have hpc:=hc.pc
 repeat' first|refine vb (t:=32) rfl rfl rfl rfl ?_|refine vb (t:=69) rfl rfl rfl rfl ?_|refine vs T rfl fun K hK=>?_;(try simp (disch:=omega) only[go_sem,Nat.reduceBEq,Nat.reduceAdd,Nat.reduceLeDiff,z'E,z'I]);(first|refine hK _ _ ?_;clear hK K|intro bq hbq;(try simp only[HB]at hbq);refine hK _ _ ?_;clear hK K|refine⟨?_,fun bq hbq=>?_⟩;rotate_left;(try simp only[HB]at hbq);refine hK _ _ ?_;all_goals clear hK K|refine Op1.callp rfl rfl (cr) rfl ?_;refine hK _ _ ?_;clear hK K|refine Op1.callp rfl rfl (cs) rfl ?_;refine hK _ _ ?_;clear hK K)|refine st rfl ?_|refine sc rfl ?_|refine nl ?_
 rotate_left
 ·omega
 rename_i br hbr
 have n1: ¬bq=br:=hbq
 have hz:v'r (x'C c) [.int .u8 0]=ZaI (x'C c) []:=by
  show(List.replicate (x'C c) [u8I 0]).flatten=_
  unfold ZaI
  rw[z'8,z'H,z'2,Nat.sub_zero]
  generalize x'C c=n
  induction n with
  |zero=>rfl
  |succ n ih=>rw[y'o,z'R,ih,y'o];rfl
 refine VC.loop {t:Nat//t≤c.pc.length} (fun t=>⟨y'd [(5,.pt (cfC c)),(10,pD bq),(31,y'c c.pc),(32,iD (c.pc.length:Nat)),(33,iD (t.1:Nat))],wrW bq br (x'C c) (x'C c) (v'T c t.1)⟩) (fun t=>c.pc.length-t.1) ⟨0,by omega⟩ ?_ ?_
 ·rw[hz]
  refine Weak.sub ?_
  simp[sub,upd]
 rintro⟨t,ht⟩
 dsimp only
 rcases z'j t c.pc.length with hlt|hge
 ·have hd:decide ((t:Int)<(c.pc.length:Int))=true:=by simp;omega
  obtain⟨p,hp⟩: ∃p,c.pc[t]?=some p:=⟨_,z'b hlt⟩
  obtain⟨g,hr⟩: ∃p,c.regs[t]?=some p:=⟨_,z'b (by omega)⟩
  obtain⟨b,hb⟩: ∃p,c.bufs[t]?=some p:=⟨_,z'b (by omega)⟩
  have rp:(iRs c.pc)[t]?=some [iD p]:=by rw[x'7,hp];rfl
  have rg:(x'X c.regs)[t]?=some [y'c g]:=by rw[Zaa,hr];rfl
  have rb:(x'6 c.bufs)[t]?=some [buf b]:=by rw[v'y,hb];rfl
  have l3:t<c.regs.length:=by omega
  have l4:t<c.bufs.length:=by omega
  have hrl:=hc.row g (z'l hr)
  have hbl:=hc.buf b (z'l hb)
  have hro:=hroom (t+1) (by omega)
  rw[ZfG hp hr hb,z'h,Zm5]at hro
  have hq:IntKind.i64.wrap (p.tdiv 256)=p.tdiv 256:=by
   have ht:=q6 t (by omega)
   unfold Zat at ht
   simp only[z'c,decide_eq_true_eq,z'd,hp,z'M]at ht
   obtain⟨⟨⟨⟨p1,p2⟩, -⟩, -⟩, -⟩:=ht
   have hcl:(u.code[t]?.getD []).length≤100000:=by
    cases hcd:u.code[t]? with
    |none=>exact y'f _
    |some r=>exact hu.row r (z'l hcd)
   have t1:p.tdiv 256=p/256:=w'z p1
   rw[t1]
   exact w64 (by omega)
  have c1:=Zd6 bq br (x'C c) (x'C c) (by omega) (v'T c t) [byI (p.tdiv 256),byI (p.tmod 256)] (by simp only[z'u,z'2];omega) true
  repeat' first|refine vs T rfl fun K hK=>?_;(try simp (disch:=omega) only[go_sem,Nat.reduceBEq,Nat.reduceAdd,Nat.reduceMul,Nat.reduceLeDiff,hd,rp,rg,hq,z'I,y'4]);(first|refine hK _ _ ?_;clear hK K|refine⟨?_,hK _ _ ?_⟩<;>clear hK K;focus(try omega)|refine Op1.callV rfl rfl (c1) rfl (by repeat (first|exact Pick.nil|apply Pick.take)) ?_;refine hK _ _ ?_;clear hK K;(try simp only[z's]))|refine st rfl ?_|refine sc rfl ?_|refine nl ?_
  refine VC.loop {k:Nat//k≤g.length} (fun k=>⟨y'd [(5,.pt (cfC c)),(10,pD bq),(11,iD (t:Nat)),(31,y'c c.pc),(32,iD (c.pc.length:Nat)),(33,iD (t:Nat)),(51,y'c g),(52,iD (g.length:Nat)),(53,iD (k.1:Nat))],wrW bq br (x'C c) (x'C c) (v'T c t++([byI (p.tdiv 256),byI (p.tmod 256)]++(g.take k.1).map byI))⟩) (fun k=>g.length-k.1) ⟨0,by omega⟩ ?_ ?_
  ·refine z'S ?_ ?_
   ·simp only[x'F,z'8,z's]
   ·simp[sub,upd]
  rintro⟨k,hk⟩
  dsimp only
  rcases z'j k g.length with hlk|hgk
  ·have hdk:decide ((k:Int)<(g.length:Int))=true:=by simp;omega
   have hwk:IntKind.i64.wrap ((k:Int)+1)=((k+1:Nat):Int):=by rw[w64 (by omega)];omega
   obtain⟨x,hx⟩: ∃x,g[k]?=some x:=⟨_,z'b hlk⟩
   have rx:(iRs g)[k]?=some [iD x]:=by rw[x'7,hx];rfl
   have c2:=Zd6 bq br (x'C c) (x'C c) (by omega) (v'T c t++([byI (p.tdiv 256),byI (p.tmod 256)]++(g.take k).map byI)) [byI x] (by simp only[z'h,z'u,z'2,z'i,z'y];omega) true
   repeat' first|refine vs T rfl fun K hK=>?_;(try simp (disch:=omega) only[go_sem,Nat.reduceBEq,Nat.reduceMul,Nat.reduceLeDiff,hdk,hwk,rx,z'I]);(first|refine hK _ _ ?_;clear hK K|refine⟨?_,hK _ _ ?_⟩<;>clear hK K;focus(try omega)|refine Op1.callV rfl rfl (c2) rfl (by repeat (first|exact Pick.nil|apply Pick.take)) ?_;refine hK _ _ ?_;clear hK K;(try simp only[z's,z'N,z'H]))|refine st rfl ?_|refine sc rfl ?_|refine nl ?_
   refine⟨⟨k+1,by omega⟩,z'S ?_ ?_,by dsimp only;omega⟩
   ·dsimp only
    simp only[y'e,hx,y'Y,z'v,z'm,z'8,z'6,z'N,z'H]
   ·simp[sub,upd]
  ·have hdk:decide ((k:Int)<(g.length:Int))=false:=by simp;omega
   obtain rfl:k=g.length:=by omega
   rw[z'Y]
   have c3:=Zd6 bq br (x'C c) (x'C c) (by omega) (v'T c t++([byI (p.tdiv 256),byI (p.tmod 256)]++g.map byI)) [byI (b.length:Nat)] (by simp only[z'h,z'u,z'2,z'i];omega) true
   repeat' first|refine vs T rfl fun K hK=>?_;(try simp (disch:=omega) only[go_sem,Nat.reduceBEq,Nat.reduceMul,Nat.reduceLeDiff,hdk,rb,z'7,y'u]);(first|refine hK _ _ ?_;clear hK K|refine⟨?_,hK _ _ ?_⟩<;>clear hK K;focus(try omega)|refine Op1.callV rfl rfl (c3) rfl (by repeat (first|exact Pick.nil|apply Pick.take)) ?_;refine hK _ _ ?_;clear hK K;(try simp only[z's,z'N,z'H]))|refine st rfl ?_|refine sc rfl ?_|refine nl ?_
   refine VC.loop {k:Nat//k≤b.length} (fun k=>⟨y'd [(5,.pt (cfC c)),(10,pD bq),(31,y'c c.pc),(32,iD (c.pc.length:Nat)),(33,iD (t:Nat)),(77,buf b),(78,iD (b.length:Nat)),(79,iD (k.1:Nat))],wrW bq br (x'C c) (x'C c) (v'T c t++([byI (p.tdiv 256),byI (p.tmod 256)]++g.map byI)++[byI (b.length:Nat)]++Zbe (b.take k.1))⟩) (fun k=>b.length-k.1) ⟨0,by omega⟩ ?_ ?_
   ·refine z'S ?_ ?_
    ·simp only[x'F,Zbe,List.flatMap_nil,z's,z'N,z'H]
    ·simp[sub,upd]
   rintro⟨k,hk⟩
   dsimp only
   rcases z'j k b.length with hlk|hgk
   ·have hdk:decide ((k:Int)<(b.length:Int))=true:=by simp;omega
    have hwk:IntKind.i64.wrap ((k:Int)+1)=((k+1:Nat):Int):=by rw[w64 (by omega)];omega
    obtain⟨x,hx⟩: ∃x,b[k]?=some x:=⟨_,z'b hlk⟩
    have rx:(eRs b)[k]?=some [iD x.1,iD x.2]:=by rw[Zbc,hx];rfl
    have c4:=Zd6 bq br (x'C c) (x'C c) (by omega) (v'T c t++([byI (p.tdiv 256),byI (p.tmod 256)]++g.map byI)++[byI (b.length:Nat)]++Zbe (b.take k)) [byI x.1,byI x.2] (by simp only[z'h,z'u,z'2,z'i,Zj8,z'y];omega) true
    repeat' first|refine vs T rfl fun K hK=>?_;(try simp (disch:=omega) only[go_sem,Nat.reduceBEq,Nat.reduceAdd,Nat.reduceMul,Nat.reduceLeDiff,hdk,hwk,rx,z'7]);(first|refine hK _ _ ?_;clear hK K|intro bq hbq;(try simp only[HB]at hbq);refine hK _ _ ?_;clear hK K|refine⟨?_,hK _ _ ?_⟩<;>clear hK K;focus(try omega)|refine Op1.callV rfl rfl (c4) rfl (by repeat (first|exact Pick.nil|apply Pick.take|apply Pick.skip)) ?_;refine hK _ _ ?_;clear hK K;(try simp only[z'N,z'H]))|refine st rfl ?_|refine sc rfl ?_|refine nl ?_
    refine⟨⟨k+1,by omega⟩,Weak.subH ?_ ?_,by dsimp only;omega⟩
    ·dsimp only
     simp only[y'e,hx,y'Y,Zov,z'6,z'N,z'H]
     exact List.Sublist.cons_cons _ (List.Sublist.cons_cons _ (z'a _))
    ·simp[sub,upd]
   ·have hdk:decide ((k:Int)<(b.length:Int))=false:=by simp;omega
    obtain rfl:k=b.length:=by omega
    rw[z'Y]
    have hwt:IntKind.i64.wrap ((t:Int)+1)=((t+1:Nat):Int):=by rw[w64 (by omega)];omega
    repeat' first|refine vs T rfl fun K hK=>?_;(try simp (disch:=omega) only[go_sem,Nat.reduceBEq,hdk,hwt]);(refine hK _ _ ?_;clear hK K)|refine st rfl ?_|refine sc rfl ?_|refine nl ?_
    refine⟨⟨t+1,by omega⟩,z'S ?_ ?_,by dsimp only;omega⟩
    ·dsimp only
     rw[ZfG hp hr hb]
     simp only[thB,z'6,z'N,z'H]
    ·simp[sub,upd]
 ·have hd:decide ((t:Int)<(c.pc.length:Int))=false:=by simp;omega
  obtain rfl:t=c.pc.length:=by omega
  have hro:=hroom c.pc.length (z'f _)
  repeat' first|refine vs T rfl fun K hK=>?_;(try simp (disch:=omega) only[go_sem,Nat.reduceBEq,hd,z'I]);(refine hK _ _ ?_;clear hK K)|refine st rfl ?_|refine sc rfl ?_|refine nl ?_
  refine VC.loop {k:Nat//k≤c.mem.length} (fun k=>⟨y'd [(10,pD bq),(95,y'c c.mem),(96,iD (c.mem.length:Nat)),(97,iD (k.1:Nat))],wrW bq br (x'C c) (x'C c) (v'T c c.pc.length++(c.mem.take k.1).map byI)⟩) (fun k=>c.mem.length-k.1) ⟨0,by omega⟩ ?_ ?_
  ·refine z'S ?_ ?_
   ·simp only[x'F,z'8,z's]
   ·simp[sub,upd]
  rintro⟨k,hk⟩
  dsimp only
  have hml:=hc.mem
  rcases z'j k c.mem.length with hlk|hgk
  ·have hdk:decide ((k:Int)<(c.mem.length:Int))=true:=by simp;omega
   have hwk:IntKind.i64.wrap ((k:Int)+1)=((k+1:Nat):Int):=by rw[w64 (by omega)];omega
   obtain⟨x,hx⟩: ∃x,c.mem[k]?=some x:=⟨_,z'b hlk⟩
   have rx:(iRs c.mem)[k]?=some [iD x]:=by rw[x'7,hx];rfl
   have c5:=Zd6 bq br (x'C c) (x'C c) (by omega) (v'T c c.pc.length++(c.mem.take k).map byI) [byI x] (by simp only[z'h,z'u,z'2,z'i,z'y];omega) true
   repeat' first|refine vs T rfl fun K hK=>?_;(try simp (disch:=omega) only[go_sem,Nat.reduceBEq,Nat.reduceMul,Nat.reduceLeDiff,hdk,hwk,rx,z'I]);(first|refine hK _ _ ?_;clear hK K|refine⟨?_,hK _ _ ?_⟩<;>clear hK K;focus(try omega)|refine Op1.callV rfl rfl (c5) rfl (by repeat (first|exact Pick.nil|apply Pick.take)) ?_;refine hK _ _ ?_;clear hK K;(try simp only[z's]))|refine st rfl ?_|refine sc rfl ?_|refine nl ?_
   refine⟨⟨k+1,by omega⟩,z'S ?_ ?_,by dsimp only;omega⟩
   ·dsimp only
    simp only[y'e,hx,y'Y,z'v,z'm,z'8,z'6]
   ·simp[sub,upd]
  ·have hdk:decide ((k:Int)<(c.mem.length:Int))=false:=by simp;omega
   obtain rfl:k=c.mem.length:=by omega
   rw[z'Y]
   have hE:v'T c c.pc.length++c.mem.map byI=ZbJ c:=by rw[ZlD h1 h2];rfl
   rw[hE]
   have hEl:=Zj6 h1 h2
   have hz:=Zuc bq br (ZbJ c) hEl
   have hs:numsOf .u8 (Zeb (ZbJ c))=some (ZbJ c):=ZmG _
   repeat' first|refine vt rfl fun K hK=>?_;refine ZsA T rfl hz (ZrT hs rfl) rfl ?_;refine hK _ _ ?_;clear hK K;(try simp only[updO])|refine vs T rfl fun K hK=>?_;(try simp (disch:=omega) only[go_sem,Nat.reduceBEq,hdk]);(refine hK _ _ ?_;clear hK K)|refine st rfl ?_|refine sc rfl ?_|refine nl ?_|exact w'd T (z'a _) ⟨rfl,rfl⟩
end Go.Proofs.YthlkpnjjkgmlkaaGreat
