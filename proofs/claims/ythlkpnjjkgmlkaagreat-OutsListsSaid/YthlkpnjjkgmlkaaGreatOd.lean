/- Contracts: the least text of a map. No condition. -/
import Derived.Test.YthlkpnjjkgmlkaaGreatOb
import Derived.Test.YthlkpnjjkgmlkaaGreatWj
import Derived.Test.YthlkpnjjkgmlkaaGreatXe
namespace Go.Proofs.YthlkpnjjkgmlkaaGreat
set_option maxHeartbeats 16000000
set_option linter.unusedSimpArgs false
set_option linter.unusedVariables false
set_option maxRecDepth 20000
open Go Go.Proofs Go.Vc Go.ChangeMaps
def bL (x y:ByteArray):Bool:=Op.bytesLess x.data.toList y.data.toList
theorem Zoj: ∀x:List UInt8,Op.bytesLess x x=false
 |[]=>rfl
 |a::x=>by simp[Op.bytesLess,Zoj x]
theorem Zok: ∀{x y:List UInt8},Op.bytesLess x y=false→Op.bytesLess y x=false→x=y
 |[],[],_,_=>rfl
 |[],_::_,h,_=>by simp[Op.bytesLess]at h
 |_::_,[],_,h=>by simp[Op.bytesLess]at h
 |a::x,b::y,h,k=>by
  simp only[Op.bytesLess,Bool.or_eq_false_iff,decide_eq_false_iff_not,Bool.and_eq_false_iff,beq_eq_false_iff_ne]at h k
  have:a=b:=UInt8.le_antisymm (UInt8.not_lt.1 k.1) (UInt8.not_lt.1 h.1)
  subst this
  rw[Zok (h.2.resolve_left fun n=>n rfl) (k.2.resolve_left fun n=>n rfl)]
theorem Zrp: ∀{x y z:List UInt8},Op.bytesLess x y=true→Op.bytesLess y z=true→Op.bytesLess x z=true
 |_,[],_,h,_=>by simp[Op.bytesLess]at h
 |_,_::_,[],_,k=>by simp[Op.bytesLess]at k
 |[],_::_,_::_,_,_=>rfl
 |a::x,b::y,c::z,h,k=>by
  simp only[Op.bytesLess,y'2,decide_eq_true_eq,z'c,beq_iff_eq]at h k⊢
  rcases h with h|⟨rfl,h⟩
  ·rcases k with k|⟨rfl,k⟩
   ·exact .inl (UInt8.lt_trans h k)
   ·exact .inl h
  ·rcases k with k|⟨rfl,k⟩
   ·exact .inl k
   ·exact .inr ⟨rfl,Zrp h k⟩
theorem ZdN (x:ByteArray):bL x x=false:=Zoj _
theorem ZjR {x y:ByteArray} (h:bL x y=false) (k:bL y x=false):x=y:=by
 have:=Zok h k
 cases x;cases y
 exact congrArg _ (z'Z.1 this)
theorem Zjy {x y z:ByteArray} (h:bL x y=true) (k:bL y z=true):bL x z=true:=Zrp h k
theorem Ztc {x y:ByteArray} (h:bL x y=true):bL y x=false:=by
 cases k:bL y x with
 |false=>rfl
 |true=>have:=Zjy h k;rw[ZdN]at this;cases this
theorem Ztd {x y z:ByteArray} (h:bL y x=false) (k:bL z y=false):bL z x=false:=by
 cases hz:bL z x with
 |false=>rfl
 |true=>
  cases hq:bL y z with
  |true=>have:=Zjy hq hz;rw[h]at this;cases this
  |false=>obtain rfl:=ZjR hq k;rw[h]at hz;cases hz
structure Lst (l:List ByteArray) (s:ByteArray):Prop where
 mem:l≠[]→s∈l
 le: ∀t,t∈l→bL t s=false
theorem umK:Tryz.prog.underlying 143=some (.map 9 3):=by kernel_rfl
theorem uK9:Tryz.prog.underlying 9=some .string:=by kernel_rfl
def mpD (b:Nat):D:= .is (.map (some b))
def kmH (b c:Nat) (l:Km):Nat×HC:=(b,.obj (.map (kmE l) c))
theorem Zmy {l:Km} {e:MapEntry} (h:e∈(kmE l).toList): ∃x,x∈l∧e=kmO x:=by
 rw[kmE,List.toList_toArray]at h
 obtain⟨x,h1,h2⟩:=z'p.1 h
 exact⟨x,h1,h2.symm⟩
theorem ZhK {l:Km} {x:ByteArray×Int×Nat} (h:x∈l):kmO x∈(kmE l).toList:=by
 rw[kmE,List.toList_toArray]
 exact z'p.2 ⟨x,h,rfl⟩
theorem ZeH {l:Km} {c n:Nat} (hk:KmOk l c n):((kmE l).toList.map (·.born)).Nodup:=by
 rw[kmE,List.toList_toArray,List.map_map]
 exact hk.born
theorem Ztu {l:Km} {c n:Nat} (hk:KmOk l c n): ∀x∈(kmE l).toList,x.born<c:=fun e he=>by
 obtain⟨x,hx,rfl⟩:=Zmy he
 exact hk.lt x hx
theorem Zhl: ∀{l:List MapEntry},(l.map (·.born)).Nodup→ ∀{x y:MapEntry},x∈l→y∈l→x.born=y.born→x=y
 |[],_,_,_,h,_,_=>by cases h
 |a::l,hn,x,y,hx,hy,h=>by
  rw[z'm,y'F]at hn
  rcases z't.1 hx with ex|hx'<;>rcases z't.1 hy with ey|hy'
  ·rw[ex,ey]
  ·exact absurd (z'p.2 ⟨y,hy',by rw[←h,ex]⟩) hn.1
  ·exact absurd (z'p.2 ⟨x,hx',by rw[h,ey]⟩) hn.1
  ·exact Zhl hn.2 hx' hy' h
theorem ZqC {l:Km} {c n:Nat} (hk:KmOk l c n) (b:Nat):Fun Tryz.prog 98 [mpD b] [kmH b c l] false (fun d H'=> ∃s,Lst (kmK l) s∧d=sD s∧H'=[kmH b c l]):=by
 refine Fun.of T [.tmp 2] Tryz.func98 rfl Tryz.ntmps98 Tryz.results98 rfl (by kernel_rfl) ?_
 repeat' first|refine vt rfl fun K hK=>?_;refine Zq1 rfl umK rfl hget_eq<|fun r hr=>?_;refine hK _ _ ?_;clear hK K;(try simp only[updO])|refine vs T rfl fun K hK=>?_;(try simp (disch:=omega) only[go_sem,Nat.reduceBEq]);(refine hK _ _ ?_;clear hK K)|refine st rfl ?_|refine nl ?_
 refine VC.loop {p:Array Nat×ByteArray×Bool//(∀x,x∈l→p.1.contains x.2.2=true→p.2.2=true∧bL x.1 p.2.1=false)∧(p.2.2=true→p.2.1∈kmK l)} (fun p=>⟨y'd [(0,mpD b),(3,sD p.1.2.1),(4,bD p.1.2.2),(7,.is (.pointer (some ⟨r,0,none⟩)))],[(r,.obj (.mapIter (some b) c p.1.1 c)),kmH b c l]⟩) (fun p=>(leftOf (kmE l) p.1.1).size) ⟨(#[],⟨#[]⟩,false),by simp,by simp⟩ ?_ ?_
 ·refine z'S rfl ?_
  simp[sub,upd]
 rintro⟨⟨seen,best,some1⟩,hi1,hi2⟩
 dsimp only at hi1 hi2⊢
 refine VC.nodup fun hn=>?_
 simp only[Heap.blocks,z'm,y'F,z't,not_or,kmH]at hn
 obtain⟨⟨q1,_⟩,_⟩:=hn
 repeat' first
  |(refine st rfl ?_)
  |(refine sc rfl ?_)
  |(refine nl ?_)
 refine vt rfl fun K hK=>?_
 refine ZsG rfl rfl hget_eq ((hget_ne q1).trans hget_eq) (Ztu hk) (z'f _) (fun h0=>?_) (fun e he=>?_)
 ·refine hK _ _ ?_
  clear hK K
  have hall:=all_seen (kmE l) seen h0
  repeat' first|refine vs T rfl fun K hK=>?_;(try simp (disch:=omega) only[go_sem,Nat.reduceBEq]);(refine hK _ _ ?_;clear hK K)|refine st rfl ?_|refine sc rfl ?_|refine nl ?_
  unfold stp
  refine z'A T (H':=[kmH b c l]) (z'0 _ _) ?_
  refine⟨best,⟨fun hne=>?_,fun t ht=>?_⟩,rfl,rfl⟩
  ·obtain⟨x,hx⟩:=List.exists_mem_of_ne_nil l (fun e=>hne (by rw[e];rfl))
   exact hi2 (hi1 x hx (hall _ (ZhK hx))).1
  ·obtain⟨x,hx,rfl⟩:=z'p.1 ht
   exact(hi1 x hx (hall _ (ZhK hx))).2
 ·obtain⟨hel,hes⟩:=mem_left he
  obtain⟨x,hx,rfl⟩:=Zmy hel
  have hsh:=left_shrinks _ _ _ he
  refine hK _ _ ?_
  clear hK K
  have e1:hset [(r,HC.obj (.mapIter (some b) c seen c)),kmH b c l] r (.obj (.mapIter (some b) c (seen.push (kmO x).born) c))=[(r,.obj (.mapIter (some b) c (seen.push (kmO x).born) c)),kmH b c l]:=by simp only[Vc.hset,beq_self_eq_true,cond_true]
  rw[e1]
  have hin: ∀y,y∈l→(seen.push (kmO x).born).contains y.2.2=true→seen.contains y.2.2=true∨y.1=x.1:=fun y hy hc=>by
   rw[contains_push,y'2,beq_iff_eq]at hc
   refine hc.imp id fun h=>?_
   have:=Zhl (ZeH hk) (ZhK hy) (ZhK hx) h
   simp only[kmO,MapEntry.mk.injEq,Value.string.injEq]at this
   exact this.1
  have hkx:x.1∈kmK l:=z'p.2 ⟨x,hx,rfl⟩
  cases some1 with
  |false=>
   repeat' first|refine vt rfl fun K hK=>?_;refine Zg1 rfl rfl hget_eq ((hget_ne q1).trans hget_eq) hel (ZeH hk) ?_;refine hK _ _ ?_;clear hK K;(try simp only[updO])|refine vs T rfl fun K hK=>?_;(try simp (disch:=omega) only[go_sem,Nat.reduceBEq,z'O]);(refine hK _ _ ?_;clear hK K)|refine st rfl ?_|refine sc rfl ?_|refine nl ?_|refine gs rfl rfl ?_
   refine⟨⟨(seen.push x.2.2,x.1,true),fun y hy hc=>⟨rfl,?_⟩,fun _=>hkx⟩,z'S rfl ?_,hsh⟩
   ·rcases hin y hy hc with h|h
    ·exact absurd (hi1 y hy h).1 (by simp)
    ·rw[h];exact ZdN _
   ·simp[sub,upd,kmO]
  |true=>
   cases hl:Op.bytesLess x.1.data.toList best.data.toList with
   |true=>
    repeat' first|refine vt rfl fun K hK=>?_;refine Zg1 rfl rfl hget_eq ((hget_ne q1).trans hget_eq) hel (ZeH hk) ?_;refine hK _ _ ?_;clear hK K;(try simp only[updO])|refine vs T rfl fun K hK=>?_;(try simp (disch:=omega) only[go_sem,Nat.reduceBEq,z'E,hl]);(refine hK _ _ ?_;clear hK K)|refine st rfl ?_|refine sc rfl ?_|refine nl ?_|refine gs rfl rfl ?_
    refine⟨⟨(seen.push x.2.2,x.1,true),fun y hy hc=>⟨rfl,?_⟩,fun _=>hkx⟩,z'S rfl ?_,hsh⟩
    ·rcases hin y hy hc with h|h
     ·exact Ztd (Ztc hl) (hi1 y hy h).2
     ·rw[h];exact ZdN _
    ·simp[sub,upd,kmO]
   |false=>
    repeat' first|refine vt rfl fun K hK=>?_;refine Zg1 rfl rfl hget_eq ((hget_ne q1).trans hget_eq) hel (ZeH hk) ?_;refine hK _ _ ?_;clear hK K;(try simp only[updO])|refine vs T rfl fun K hK=>?_;(try simp (disch:=omega) only[go_sem,Nat.reduceBEq,z'E,hl]);(refine hK _ _ ?_;clear hK K)|refine st rfl ?_|refine sc rfl ?_|refine nl ?_|refine gs rfl rfl ?_
    refine⟨⟨(seen.push x.2.2,best,true),fun y hy hc=>⟨rfl,?_⟩,fun _=>hi2 rfl⟩,z'S rfl ?_,hsh⟩
    ·rcases hin y hy hc with h|h
     ·exact(hi1 y hy h).2
     ·rw[h];exact hl
    ·simp[sub,upd,kmO]
open Go Go.Proofs Go.Vc
attribute [local irreducible] x'c VCg VCw VCx
def emp:ByteArray:=⟨#[]⟩
def tlR (l:List ByteArray):List (List D):=l.map fun x=>[sD x]
abbrev tlD (l:List ByteArray):D:= .sl false 1 (tlR l)
theorem x'x (l:List ByteArray):(tlR l).length=l.length:=z'i ..
theorem ZiJ (l:List ByteArray): ∀r,r∈tlR l→r.length=1:=by
 intro r hr
 obtain⟨x,_,rfl⟩:=z'p.1 hr
 rfl
theorem Zg6 (l:List ByteArray):(tlR l).flatten=l.map sD:=by
 induction l with
 |nil=>rfl
 |cons x l ih=>simp only[tlR,z'm,z'R]at ih⊢;rw[ih];rfl
theorem Zn4 (l:List ByteArray):(l.map sD).length=l.length*1:=by simp
theorem Zbo {e eb:Nat} {ea full:Bool} {ez:List Value} {l:List ByteArray} {k:IntKind} {n:Int} {K:D→Prop}:
  cIndexAddr (.slice e 1 eb ea ez) (.sl full 1 (tlR l)) (.is (.int k n)) K=((0≤n∧n<l.length)∧K (.pt [sD (l.getD n.toNat emp)])):=ZcW (fun n=>[sD n]) emp
theorem Zl9 {x y:List UInt8} {k:Nat} (h1:k<x.length) (h2:k<y.length):Op.bytesLess (x.drop k) (y.drop k)=(decide (x.getD k 0<y.getD k 0)||(x.getD k 0 == y.getD k 0&&Op.bytesLess (x.drop (k+1)) (y.drop (k+1)))):=by
 rw[y'H h1,y'H h2]
 simp[Op.bytesLess,z'd,h1,h2]
theorem Zi4 (x y:ByteArray) (hx:x.size≤9223372036854775807) (hy:y.size≤9223372036854775807):Pure Tryz.prog 41 [sD x,sD y] (bD (bL x y)):=by
 have hxl:x.data.toList.length=x.size:=z'P
 have hyl:y.data.toList.length=y.size:=z'P
 refine Fun.of T [.tmp 4] Tryz.func41 rfl Tryz.ntmps41 Tryz.results41 rfl (by kernel_rfl) ?_
 repeat' first|refine vs T rfl fun K hK=>?_;(try simp (disch:=omega) only[go_sem]);(refine hK _ _ ?_;clear hK K)|refine st rfl ?_|refine nl ?_
 refine VC.loop {k:Nat//k≤x.size∧k≤y.size∧bL x y=Op.bytesLess (x.data.toList.drop k) (y.data.toList.drop k)} (fun k=>⟨y'd [(0,sD x),(1,sD y),(5,iD (k.1:Nat))],[]⟩) (fun k=>x.size-k.1) ⟨0,by omega,by omega,rfl⟩ ?_ ?_
 ·refine Weak.sub ?_
  simp[sub,upd]
 rintro⟨k,h1,h2,hb⟩
 dsimp only at h1 h2 hb⊢
 repeat' first|refine dr (id:=4) T 6 (by kernel_rfl) ?_|refine dr (id:=5) T 6 (by kernel_rfl) ?_|refine gn ?_|(first|apply VCg.step T rfl rfl|apply exF);focus((try simp (disch:=omega) only[go_sem,Nat.reduceBEq,z'q]);(first|exact rfl|refine⟨?_,rfl⟩;try omega))|refine vs T rfl fun K hK=>?_;(try simp (disch:=omega) only[go_sem,Nat.reduceBEq,w64]);(refine hK _ _ ?_;clear hK K)|refine st rfl ?_|refine sc rfl ?_|refine nl ?_|refine gs rfl rfl ?_|refine z'A T (z'a _) ?_;(try simp only[upd,Nat.reduceBEq,cond_true,cond_false,and_true])|with_reducible refine z'B (fun hc=>?_) (fun hc=>?_)<;>(try simp only[decide_eq_true_eq,decide_eq_false_iff_not,bne_iff_ne,bne_eq_false_iff_eq,ne_eq,z'F]at hc)
 ·refine congrArg bD ?_
  rename_i hc1 hc2
  rw[hb,Zl9 (by rw[hxl];omega) (by rw[hyl];omega)]
  have hne:(x.data.toList.getD k 0 == y.data.toList.getD k 0)=false:=by
   rw[beq_eq_false_iff_ne];exact fun e=>hc (by rw[e])
  rw[hne,w'E,Bool.or_false]
  exact decide_eq_decide.2 (by rw[UInt8.lt_iff_toNat_lt];omega)
 ·rename_i hc1 hc2
  refine⟨⟨k+1,by omega,by omega,?_⟩,Weak.sub ?_,by simp only[];omega⟩
  ·rw[hb,Zl9 (by rw[hxl];omega) (by rw[hyl];omega)]
   have he:x.data.toList.getD k 0=y.data.toList.getD k 0:=UInt8.toNat_inj.1 (by omega)
   have hlt:decide (y.data.toList.getD k 0<y.data.toList.getD k 0)=false:=decide_eq_false (UInt8.lt_irrefl _)
   rw[he,hlt,beq_self_eq_true,x'l,Bool.false_or]
  ·simp[sub,upd]
 ·refine congrArg bD ?_
  rename_i hc1
  have hy0:y.data.toList.drop k=[]:=x'y (by omega)
  rw[hb,hy0]
  have:decide ((x.size:Int)<(y.size:Int))=false:=by simp;omega
  rw[this]
  cases x.data.toList.drop k<;>rfl
 ·refine congrArg bD ?_
  have hx0:x.data.toList.drop k=[]:=x'y (by omega)
  rw[hb,hx0]
  rcases z'j k y.size with h|h
  ·rw[y'H (l:=y.data.toList) (by rw[hyl];omega)]
   exact decide_eq_true (by omega)
  ·have hy0:y.data.toList.drop k=[]:=x'y (by omega)
   rw[hy0]
   exact decide_eq_false (by omega)
def inT (l:List ByteArray) (s:ByteArray):Bool:=l.any fun x=>decide (x=s)
theorem ZbQ {l:List ByteArray} {s:ByteArray}:inT l s=true↔s∈l:=by simp[inT]
theorem Zsf {l:List ByteArray} {s:ByteArray} (h:s∉l):inT l s=false:=by rw[←Bool.not_eq_true,ZbQ];exact h
theorem Zqu (l:List ByteArray) (hl:l.length≤1000000) (s:ByteArray):Pure Tryz.prog 92 [tlD l,sD s] (bD (inT l s)):=by
 refine Fun.of T [.tmp 4] Tryz.func92 rfl Tryz.ntmps92 Tryz.results92 rfl (by kernel_rfl) ?_
 repeat' first|refine vs T rfl fun K hK=>?_;(try simp (disch:=omega) only[go_sem]);(refine hK _ _ ?_;clear hK K)|refine st rfl ?_|refine nl ?_
 refine VC.loop {k:Nat//k≤l.length∧ ∀i,i<k→l.getD i emp≠s} (fun k=>⟨y'd [(0,tlD l),(1,sD s),(5,iD (k.1:Nat))],[]⟩) (fun k=>l.length-k.1) ⟨0,by omega,fun i hi=>by omega⟩ ?_ ?_
 ·refine Weak.sub ?_
  simp[sub,upd]
 rintro⟨k,hk,hs⟩
 dsimp only at hk hs⊢
 repeat' first|refine vs T rfl fun K hK=>?_;(try simp (disch:=omega) only[go_sem,Nat.reduceBEq,Zbo,x'x,w64,z'q]);(first|refine hK _ _ ?_;clear hK K|refine⟨?_,hK _ _ ?_⟩<;>clear hK K;focus(try omega))|refine st rfl ?_|refine sc rfl ?_|refine nl ?_|refine z'A T (z'a _) ?_;(try simp only[upd,Nat.reduceBEq,cond_true,cond_false,and_true])|with_reducible refine z'B (fun hc=>?_) (fun hc=>?_)<;>(try simp only[decide_eq_true_eq,decide_eq_false_iff_not,z'F]at hc)
 ·rename_i hc1
  exact congrArg bD (ZbQ.2 (hc▸w'R (by omega))).symm
 ·rename_i hc1
  refine⟨⟨k+1,by omega,fun i hi=>?_⟩,Weak.sub ?_,by simp only[];omega⟩
  ·rcases z'j i k with h'|h'
   ·exact hs i h'
   ·obtain rfl:i=k:=by omega
    exact hc
  ·simp[sub,upd]
 ·refine congrArg bD (Zsf fun hm=>?_).symm
  obtain⟨i,hi,he⟩:=List.mem_iff_getElem.1 hm
  refine hs i (by omega) ?_
  rw[z'd,z'b hi]
  exact he
theorem Zfz (a b:List ByteArray) (ha:a.length≤1000000) (hb:b.length≤1000000):Pure Tryz.prog 45 [tlD a,tlD b] (bD (decide (a=b))):=by
 refine Fun.of T [.tmp 4] Tryz.func45 rfl Tryz.ntmps45 Tryz.results45 rfl (by kernel_rfl) ?_
 repeat' first|refine vs T rfl fun K hK=>?_;(try simp (disch:=omega) only[go_sem,Nat.reduceBEq,x'x]);(refine hK _ _ ?_;clear hK K)|refine st rfl ?_|refine sc rfl ?_|refine nl ?_|refine z'A T (z'a _) ?_;(try simp only[upd,Nat.reduceBEq,cond_true,cond_false,and_true])|with_reducible refine z'B (fun hc=>?_) (fun hc=>?_)<;>(try simp only[bne_iff_ne,bne_eq_false_iff_eq,ne_eq]at hc)
 ·exact congrArg bD (decide_eq_false fun h=>by subst h;omega).symm
 refine VC.loop {k:Nat//k≤a.length∧ ∀i,i<k→a.getD i emp=b.getD i emp} (fun p=>⟨y'd [(0,tlD a),(1,tlD b),(5,iD (p.1:Nat))],[]⟩) (fun p=>a.length-p.1) ⟨0,by omega,fun i hi=>by omega⟩ ?_ ?_
 ·refine Weak.sub ?_
  simp[sub,upd]
 rintro⟨k,hk,hs⟩
 dsimp only
 repeat' first|refine dr (id:=6) T 8 (by kernel_rfl) ?_|refine gn ?_|apply VCg.step T rfl rfl;focus((try simp (disch:=omega) only[go_sem,Nat.reduceBEq,Zbo,z'q]);(first|exact rfl|refine⟨?_,rfl⟩;try omega))|refine vs T rfl fun K hK=>?_;(try simp (disch:=omega) only[go_sem,Nat.reduceBEq,x'x,w64]);(refine hK _ _ ?_;clear hK K)|refine st rfl ?_|refine sc rfl ?_|refine nl ?_|refine z'A T (z'a _) ?_;(try simp only[upd,Nat.reduceBEq,cond_true,cond_false,and_true])|with_reducible refine z'B (fun hc=>?_) (fun hc=>?_)<;>(try simp only[decide_eq_true_eq,decide_eq_false_iff_not,x'3,Bool.not_eq_false',z'F]at hc)
 ·exact congrArg bD (decide_eq_false fun h=>by subst h;simp_all).symm
 ·refine⟨⟨k+1,by omega,Zuq hs (by simp_all)⟩,Weak.sub ?_,by simp only[];omega⟩
  simp[sub,upd]
 ·exact congrArg bD (decide_eq_true (Zp2 (by omega) fun i hi=>hs i (by omega))).symm
def y'O (a b:List ByteArray):List ByteArray:=b.filter fun x=> !inT a x
theorem ZmD (a:List ByteArray) {b:List ByteArray} {k:Nat} (h:k<b.length):y'O a (b.take (k+1))=y'O a (b.take k)++(match inT a (b.getD k emp)with|true=>[]|false=>[b.getD k emp]):=by
 rw[y'e,v'p (d:=emp) h,y'Y,y'O,z'1]
 cases hi:inT a (b.getD k emp)<;>simp[y'O,hi, -List.getD_eq_getElem?_getD]
theorem Zf7 {a b:List ByteArray} {k:Nat} (h:k<b.length) (hi:inT a (b.getD k emp)=true):y'O a (b.take (k+1))=y'O a (b.take k):=by rw[ZmD a h,hi];exact z's _
theorem Zf6 {a b:List ByteArray} {k:Nat} (h:k<b.length) (hi:inT a (b.getD k emp)=false):y'O a (b.take (k+1))=y'O a (b.take k)++[b.getD k emp]:=by rw[ZmD a h,hi]
theorem Ziw (a b:List ByteArray):(y'O a b).length≤b.length:=List.length_filter_le ..
theorem Zi7 (a b:List ByteArray) (ha:a.length≤1000000) (hb:b.length≤1000000):Pure Tryz.prog 46 [tlD a,tlD b] (tlD (y'O a b)):=by
 refine Fun.freeze (ZiJ _) ?_
 refine Fun.of T [.tmp 4] Tryz.func46 rfl Tryz.ntmps46 Tryz.results46 rfl (by kernel_rfl) ?_
 repeat' first|refine vs T rfl fun K hK=>?_;(try simp (disch:=omega) only[go_sem]);(refine hK _ _ ?_;clear hK K)|refine st rfl ?_|refine nl ?_
 refine VC.loop {p:Nat×Option (Nat×Nat)//p.1≤b.length} (fun p=>⟨y'd [(0,tlD a),(1,tlD b),(5,.gs p.1.2 (y'O a (b.take p.1.1)).length),(6,iD (p.1.1:Nat))],shp p.1.2 9 1 ((y'O a (b.take p.1.1)).map sD) []⟩) (fun p=>b.length-p.1.1) ⟨(0,none),by simp⟩ ?_ ?_
 ·refine Weak.sub ?_
  simp[sub,upd,y'O]
 rintro⟨⟨k,g⟩,hk⟩
 dsimp only at hk⊢
 have hl:=Ziw a (b.take k)
 rw[z'y]at hl
 have hfl:=Zn4 (y'O a (b.take k))
 have c1:=Zqu a ha (b.getD k emp)
 rcases z'j k b.length with hlt|hge
 ·cases hi:inT a (b.getD k emp)with
  |true=>
   rw[hi]at c1
   repeat' first|refine vs T rfl fun K hK=>?_;(try simp (disch:=omega) only[go_sem,Nat.reduceBEq,Zbo,x'x,w64,z'q,z'E]);(first|refine hK _ _ ?_;clear hK K|refine⟨?_,hK _ _ ?_⟩<;>clear hK K;focus(try omega)|refine Op1.callp rfl rfl (c1) rfl ?_;refine hK _ _ ?_;clear hK K)|refine st rfl ?_|refine sc rfl ?_|refine nl ?_|with_reducible refine z'B (fun hc=>?_) (fun hc=>?_)<;>(try simp only[decide_eq_true_eq,decide_eq_false_iff_not,z'F]at hc)<;>(try(exfalso;omega))
   refine⟨⟨(k+1,g),by dsimp only;omega⟩,z'S (by rw[Zf7 hlt hi]) ?_,by dsimp only;omega⟩
   simp[sub,upd,Zf7 hlt hi]
  |false=>
   rw[hi]at c1
   repeat' first|refine vs T rfl fun K hK=>?_;(try simp (disch:=omega) only[go_sem,Nat.reduceBEq,Nat.reduceMul,Nat.reduceLeDiff,Zbo,x'x,w64,z'q,z'O]);(first|refine hK _ _ ?_;clear hK K|refine⟨_,_,_,_,(by repeat (exact Sp.here)),?_,(by exact⟨rfl,rfl⟩),⟨by decide,?_⟩,fun g' hg'=>hK _ _ ?_⟩<;>clear hK K|refine⟨?_,hK _ _ ?_⟩<;>clear hK K;focus(try omega)|refine Op1.callp rfl rfl (c1) rfl ?_;refine hK _ _ ?_;clear hK K)|refine st rfl ?_|refine sc rfl ?_|refine nl ?_|with_reducible refine z'B (fun hc=>?_) (fun hc=>?_)<;>(try simp only[decide_eq_true_eq,decide_eq_false_iff_not,z'F]at hc)<;>(try(exfalso;omega))
   ·exact hfl
   ·omega
   ·refine⟨⟨(k+1,g'),by dsimp only;omega⟩,z'S (by rw[Zf6 hlt hi,z'v];rfl) ?_,by dsimp only;omega⟩
    simp[sub,upd,Zf6 hlt hi, -List.getD_eq_getElem?_getD]
 ·obtain rfl:k=b.length:=by omega
  repeat' first|refine vs T rfl fun K hK=>?_;(try simp (disch:=omega) only[go_sem,Nat.reduceBEq,x'x]);(refine hK _ _ ?_;clear hK K)|refine st rfl ?_|refine sc rfl ?_|refine nl ?_|with_reducible refine z'B (fun hc=>?_) (fun hc=>?_)<;>(try simp only[decide_eq_true_eq,decide_eq_false_iff_not,z'F]at hc)<;>(try(exfalso;omega))
  refine z'A T (z'w _) ⟨g,9,?_,?_⟩
  ·rw[x'x,z'Y];rfl
  ·rw[Zg6,z'Y]
theorem Zl1 (a b:List ByteArray) (ha:a.length≤1000000) (hb:b.length≤1000000):Pure Tryz.prog 44 [tlD a,tlD b] (bD (decide (y'O b a=[]))):=by
 have c1:=Zi7 b a hb ha
 refine Fun.of T [.tmp 4] Tryz.func44 rfl Tryz.ntmps44 Tryz.results44 rfl (by kernel_rfl) ?_
 cases h:decide (y'O b a=[])with
 |true=>
  rw[of_decide_eq_true h]at c1
  repeat' first|refine vs T rfl fun K hK=>?_;(try simp (disch:=omega) only[go_sem,Nat.reduceBEq]);(first|refine hK _ _ ?_;clear hK K|refine Op1.callp rfl rfl (c1) rfl ?_;refine hK _ _ ?_;clear hK K)|refine st rfl ?_|refine nl ?_|exact z'A T (z'a _) ⟨rfl,rfl⟩
 |false=>
  have h1:=of_decide_eq_false h
  have h2:0<(y'O b a).length:=List.length_pos_iff.2 h1
  repeat' first|refine vs T rfl fun K hK=>?_;(try simp (disch:=omega) only[go_sem,Nat.reduceBEq,x'x]);(first|refine hK _ _ ?_;clear hK K|refine Op1.callp rfl rfl (c1) rfl ?_;refine hK _ _ ?_;clear hK K)|refine st rfl ?_|refine nl ?_|refine z'A T (z'a _) ?_;(try simp only[upd,Nat.reduceBEq,cond_true,cond_false,and_true])
  refine congrArg bD (beq_eq_false_iff_ne.2 ?_)
  omega
end Go.Proofs.YthlkpnjjkgmlkaaGreat
