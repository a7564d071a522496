/- Contracts: a text's hash. No condition. -/
import Derived.Test.YtomcmfbpmkklmaaGreatBh
import Derived.Test.YtomcmfbpmkklmaaGreatSa
import Derived.Test.YtomcmfbpmkklmaaGreatBc
namespace Go.Proofs.YtomcmfbpmkklmaaGreat
set_option maxHeartbeats 16000000
set_option linter.unusedSimpArgs false
set_option linter.unusedVariables false
set_option maxRecDepth 20000
open Go Go.Proofs Go.Vc
attribute [local irreducible] y'0 VCg VCw VCx
def Zj4 (h b:Int):Int:=IntKind.u64.wrap (ZhY .u64 h b*1099511628211)
def Zax (s:ByteArray) (k:Nat):List Int:=((s.data.toList.drop k).take 8).map (fun c=>(c.toNat:Int))++List.replicate (8-(s.size-k)) 0
theorem Zj2 (s:ByteArray) (k:Nat):(Zax s k).length=8:=by
 simp[Zax];omega
def Zdy (h:Int) (l:List Int):Int:=l.foldl (fun h b=>Zj4 h (IntKind.u64.wrap b)) h
def Zd7 (s:ByteArray):Nat→Int
 |0=>14695981039346656037
 |j+1=>Zdy (Zd7 s j) (Zax s (8*j))
def ZlB (s:ByteArray):Int:=
 let h:=Zj4 (Zd7 s ((s.size+7)/8)) (IntKind.u64.wrap (s.size:Nat))
 ZhY .u64 h (Zkc .u64 h 29)
theorem Zir: ∃F:ByteArray→Int,F=ZlB:=⟨_,rfl⟩
noncomputable def Zff:ByteArray→Int:=Classical.choose Zir
theorem Zml:Zff=ZlB:=Classical.choose_spec Zir
theorem Zjg {h:Int} {l:List Int} {i:Nat} {b:Int} (hb:l[i]?=some b):Zdy h (l.take (i+1))=Zj4 (Zdy h (l.take i)) (IntKind.u64.wrap b):=by
 unfold Zdy
 rw[y'b,hb,w'l,List.foldl_append]
 rfl
theorem Zjd (s:ByteArray) (k:Nat) (hk:k≤s.size):(Zbk (s.extract k s.size)).take (Nat.min (s.extract k s.size).size 8)++(List.replicate 8 (D.is (.int .u8 0))).drop (Nat.min (s.extract k s.size).size 8)=(Zax s k).map fun n=>D.is (.int .u8 n):=by
 have e1:(s.extract k s.size).size=s.size-k:=by simp
 have e2:(s.extract k s.size).data.toList=s.data.toList.drop k:=by
  rw[ByteArray.data_extract,Array.toList_extract,List.extract_eq_take_drop]
  exact z'V (by simp)
 rw[e1]
 unfold Zax Zbk
 rw[e2,z'F,v'e, ←List.map_take]
 congr 1
 ·rw[List.map_map]
  rcases Nat.le_total (s.size-k) 8 with h|h
  ·have:Nat.min (s.size-k) 8=s.size-k:=w'O h
   rw[this,z'V (by simp),z'V (by simp;omega)]
   rfl
  ·have:Nat.min (s.size-k) 8=8:=Nat.min_eq_right h
   rw[this]
   rfl
 ·rw[List.drop_replicate]
  congr 1
  rcases Nat.le_total (s.size-k) 8 with h|h
  ·have:Nat.min (s.size-k) 8=s.size-k:=w'O h
   rw[this]
  ·have:Nat.min (s.size-k) 8=8:=Nat.min_eq_right h
   rw[this];omega
theorem Zn0 (s:ByteArray) (hs:s.size≤1000000):Pure Tryz.prog 171 [sD s] (.is (.int .u64 (Zff s))):=by
 rw[Zml]
 refine Fun.of T [.tmp 2] Tryz.func171 rfl Tryz.ntmps171 Tryz.results171 rfl (by kernel_rfl) ?_
 repeat' first|refine vs T rfl fun K hK=>?_;(try simp (disch:=omega) only[go_sem]);(refine hK _ _ ?_;clear hK K)|refine st rfl ?_|refine nl ?_
 refine VC.loop {j:Nat//8*j<s.size+8} (fun j=>⟨z'M [(0,sD s),(3,.is (.int .u64 (Zd7 s j.1))),(4,iD (8*j.1:Nat))],[]⟩) (fun j=>s.size+8-8*j.1) ⟨0,by omega⟩ ?_ ?_
 ·refine Weak.sub ?_
  simp[sub,upd,Zd7]
 rintro⟨j,hj⟩
 dsimp only
 rcases z'g (8*j) s.size with hlt|hge
 ·have hd:decide (((8*j:Nat):Int)<(s.size:Int))=true:=by simp;omega
  have hch:(Zbk (s.extract (8*j) s.size)).take ((s.extract (8*j) s.size).size.min 8)++[D.is (.int .u8 0),D.is (.int .u8 0),D.is (.int .u8 0),D.is (.int .u8 0),D.is (.int .u8 0),D.is (.int .u8 0),D.is (.int .u8 0),D.is (.int .u8 0)].drop ((s.extract (8*j) s.size).size.min 8)=(Zax s (8*j)).map fun n=>D.is (.int .u8 n):=Zjd s (8*j) (by omega)
  have hcl:=Zj2 s (8*j)
  have hct:((Zax s (8*j)).map fun n=>D.is (.int .u8 n)).take 8=(Zax s (8*j)).map fun n=>D.is (.int .u8 n):=z'V (by rw[z'p,hcl];exact z'v _)
  repeat' first|refine vt rfl fun K hK=>?_;refine Zor T rfl rfl rfl rfl hget_eq rfl (by decide) ?_;refine hK _ _ ?_;clear hK K;(try simp only[updO])|refine VCg.stepS T rfl rfl (Zli T rfl rfl rfl) ?_|refine dr (id:=6) T 4 (by kernel_rfl) ?_|refine gn ?_|apply VCg.step T rfl rfl;focus((try simp (disch:=omega) only[go_sem,Nat.reduceBEq]);(first|exact rfl|refine⟨?_,rfl⟩;try omega))|refine vs T rfl fun K hK=>?_;(try simp (disch:=omega) only[go_sem,Nat.reduceBEq,Nat.reduceAdd,hd,hch,hct]);(first|refine hK _ _ ?_;clear hK K|intro bq hbq;(try simp only[HB]at hbq);refine hK _ _ ?_;clear hK K|refine⟨?_,hK _ _ ?_⟩<;>clear hK K;focus(try omega))|refine st rfl ?_|refine sc rfl ?_|refine nl ?_
  all_goals try omega
  refine VC.loop {i:Nat//i≤8} (fun i=>⟨z'M [(0,sD s),(3,.is (.int .u64 (Zdy (Zd7 s j) ((Zax s (8*j)).take i.1)))),(4,iD (8*j:Nat)),(19,.agg ((Zax s (8*j)).map fun n=>D.is (.int .u8 n))),(20,iD (i.1:Nat))],[]⟩) (fun i=>8-i.1) ⟨0,by omega⟩ ?_ ?_
  ·refine Weak.subH (z'a _) ?_
   simp[sub,upd,Zdy]
  rintro⟨i,hi⟩
  dsimp only
  rcases z'g i 8 with hl8|hg8
  ·have hd8:decide ((i:Int)<8)=true:=by simp;omega
   have hw8:IntKind.i64.wrap ((i:Int)+1)=((i+1:Nat):Int):=by rw[w64 (by omega)];omega
   obtain⟨b,hb⟩: ∃b,(Zax s (8*j))[i]?=some b:=⟨_,z'b (by omega)⟩
   have hbD:((Zax s (8*j)).map fun n=>D.is (.int .u8 n))[((i:Int)).toNat]?=some (D.is (.int .u8 b)):=by rw[z'o,z'4,hb];rfl
   repeat' first|refine vt rfl fun K hK=>?_;refine ZlT T rfl rfl rfl rfl (by omega) hbD ?_;refine hK _ _ ?_;clear hK K;(try simp only[updO])|refine vt rfl fun K hK=>?_;refine Znj rfl rfl rfl ?_;refine hK _ _ ?_;clear hK K;(try simp only[updO])|refine vs T rfl fun K hK=>?_;(try simp (disch:=omega) only[go_sem,Nat.reduceBEq,hd8,hw8]);(refine hK _ _ ?_;clear hK K)|refine st rfl ?_|refine sc rfl ?_|refine nl ?_
   refine⟨⟨i+1,by omega⟩,Weak.sub ?_,by dsimp only;omega⟩
   have:=Zjg (h:=Zd7 s j) hb
   simp[sub,upd,this,Zj4]
  ·have hd8:decide ((i:Int)<8)=false:=by simp;omega
   obtain rfl:i=8:=by omega
   have hw:IntKind.i64.wrap (((8*j:Nat):Int)+8)=((8*(j+1):Nat):Int):=by rw[w64 (by omega)];omega
   rw[z'V (by omega)]
   repeat' first|refine vs T rfl fun K hK=>?_;(try simp (disch:=omega) only[go_sem,Nat.reduceBEq,hd8,hw]);(refine hK _ _ ?_;clear hK K)|refine st rfl ?_|refine sc rfl ?_|refine nl ?_
   refine⟨⟨j+1,by omega⟩,Weak.sub ?_,by dsimp only;omega⟩
   simp[sub,upd,Zd7]
 ·have hd:decide (((8*j:Nat):Int)<(s.size:Int))=false:=by simp;omega
  obtain rfl:j=(s.size+7)/8:=by omega
  repeat' first|refine vt rfl fun K hK=>?_;refine Znj rfl rfl rfl ?_;refine hK _ _ ?_;clear hK K;(try simp only[updO])|refine vt rfl fun K hK=>?_;refine Zp8 rfl rfl rfl (by decide) ?_;refine hK _ _ ?_;clear hK K;(try simp only[updO])|refine vs T rfl fun K hK=>?_;(try simp (disch:=omega) only[go_sem,Nat.reduceBEq,hd]);(refine hK _ _ ?_;clear hK K)|refine st rfl ?_|refine sc rfl ?_|refine nl ?_|exact z'j T (z'a _) ⟨rfl,rfl⟩
def tRs (X:List ByteArray):List (List D):=X.map fun x=>[sD x]
abbrev ZiA (X:List ByteArray):D:= .sl false 1 (tRs X)
theorem ZgX (X:List ByteArray):(tRs X).length=X.length:=z'p ..
theorem Zpa (X:List ByteArray) (i:Nat):(tRs X)[i]?=(X[i]?).map fun x=>[sD x]:=z'4 ..
noncomputable abbrev hm0 (s:ByteArray):Nat:=Zgj (Zff s)
noncomputable abbrev posT (X:List ByteArray) (S:List Int) (s:ByteArray):Nat:=ZaO X S (hm0 s) s
structure ZpO (X:List ByteArray) (S:List Int) (k:Nat):Prop where
 len:S.length=2^k
 kk:4≤k∧k≤40
 free:0<S.count 0
 val: ∀v,v∈S→v=0∨ ∃i:Nat,i<X.length∧v=(i:Int)+1
 tl:X.length≤1000000
theorem Zpe {k:Nat} (h:4≤k∧k≤40):16≤2^k∧2^k≤1099511627776:=
 ⟨x'T (n:=2) (by decide) h.1,x'T (n:=2) (by decide) h.2⟩
theorem Zmn {h j m:Nat} (hm:0<m):((h+j) % m+1) % m=(h+(j+1)) % m:=by
 rw[Nat.mod_add_mod,Nat.add_assoc]
theorem ZjH (X:List ByteArray) (S:List Int) (k:Nat) (h:ZpO X S k) (s:ByteArray) (hs:s.size≤1000000):Pure Tryz.prog 156 [.pt [ZiA X,z'S S],sD s] (iD (posT X S s:Nat)):=by
 have ch:=Zn0 s hs
 obtain⟨b1,b2⟩:=Zpe h.kk
 have hlen:=h.len
 have hwm:IntKind.i64.wrap ((S.length:Int)-1)=((S.length:Int)-1):=by rw[w64 (by omega)]
 have hwu:IntKind.u64.wrap ((S.length:Int)-1)=((S.length:Int)-1):=by
  have:=ZhX (n:=S.length-1) (by omega)
  rwa [show((S.length-1:Nat):Int)=(S.length:Int)-1 by omega]at this
 have hmu:=ZpT (Zff s) (m:=S.length) hlen (by have:=h.kk;omega)
 have hm0':hm0 s % S.length<S.length:=w'W _ (by omega)
 have hwp:IntKind.i64.wrap ((hm0 s % S.length:Nat):Int)=((hm0 s % S.length:Nat):Int):=by rw[w64 (by omega)]
 obtain⟨l1,l2,l3⟩:=Zfo (T:=X) (S:=S) (s:=s) (h:=hm0 s) h.free
 unfold posT hm0 at*
 generalize Zgj (Zff s)=q at*
 generalize Zff s=z at*
 refine Fun.of T [.tmp 4] Tryz.func156 rfl Tryz.ntmps156 Tryz.results156 rfl (by kernel_rfl) ?_
 repeat' first|refine vt rfl fun K hK=>?_;refine Znf rfl rfl rfl ?_;refine hK _ _ ?_;clear hK K;(try simp only[updO])|refine vs T rfl fun K hK=>?_;(try simp (disch:=omega) only[go_sem,Nat.reduceBEq,z'l,hwm,hwu,hwp,hmu]);(first|refine hK _ _ ?_;clear hK K|refine Op1.callp rfl rfl (ch) rfl ?_;refine hK _ _ ?_;clear hK K)|refine st rfl ?_|refine nl ?_
 refine VC.loop {j:Nat//j≤w'P X S (q) s} (fun j=>⟨z'M [(0,.pt [ZiA X,z'S S]),(1,sD s),(5,.is (.int .i64 ((S.length:Int)-1))),(6,iD ((q+j.1) % S.length:Nat))],[]⟩) (fun j=>w'P X S (q) s-j.1) ⟨0,by omega⟩ ?_ ?_
 ·refine Weak.sub ?_
  simp[sub,upd]
 rintro⟨j,hj⟩
 dsimp only
 have hp:(q+j) % S.length<S.length:=w'W _ (by omega)
 generalize hpp:(q+j) % S.length=p at*
 obtain⟨v,hv⟩: ∃v,S[p]?=some v:=⟨_,z'b hp⟩
 have rv:(iRs S)[p]?=some [iD v]:=by rw[y'y,hv];rfl
 have hval:=h.val v (z'f hv)
 have hend:w'5 X S s p=true→j=w'P X S (q) s:=fun he=>by
  rcases z'g j (w'P X S (q) s)with h'|h'
  ·have:=l3 j h'
   rw[hpp,he]at this
   cases this
  ·omega
 have hgo:w'5 X S s p=false→j<w'P X S (q) s:=fun he=>by
  rcases z'g j (w'P X S (q) s)with h'|h'
  ·exact h'
  ·obtain rfl:j=w'P X S (q) s:=by omega
   have:ZaO X S (q) s=p:=hpp
   rw[this,he]at l2
   cases l2
 rcases hval with rfl|⟨i,hi,rfl⟩
 ·have hjj:=hend (Zew hv)
  have hpos:ZaO X S q s=p:=by rw[←hpp,hjj];rfl
  have hd:decide ((0:Int)>0)=false:=by decide
  rw[hpos]
  repeat' first|refine dr (id:=3) T 24 (by kernel_rfl) ?_|refine gn ?_|(apply VCg.step T rfl rfl);focus((try simp (disch:=omega) only[go_sem,Nat.reduceBEq,z'l,hd,rv]);(first|exact rfl|refine⟨?_,rfl⟩;try omega))|refine VCg.gstep T rfl rfl rfl rfl ?_;try simp only[GB]|refine vs T rfl fun K hK=>?_;(try simp (disch:=omega) only[go_sem,Nat.reduceBEq]);(refine hK _ _ ?_;clear hK K)|refine st rfl ?_|refine sc rfl ?_|refine nl ?_|refine gs rfl rfl ?_|exact z'j T (z'a _) ⟨rfl,rfl⟩
 ·obtain⟨t,ht⟩: ∃t,X[i]?=some t:=⟨_,z'b hi⟩
  have rt:(tRs X)[i]?=some [sD t]:=by rw[Zpa,ht];rfl
  have hd:decide ((i:Int)+1>0)=true:=decide_eq_true (by omega)
  have hw1:IntKind.i64.wrap ((i:Int)+1-1)=(i:Int):=by
   have:=h.tl
   rw[w64 (by omega)];omega
  have hst2:w'5 X S s p=decide (t=s):=by rw[Zf2 hv,ht];simp
  by_cases hts:t=s
  ·have hx:decide (t=s)=true:=decide_eq_true hts
   have hjj:=hend (by rw[hst2,hx])
   have hpos:ZaO X S q s=p:=by rw[←hpp,hjj];rfl
   rw[hpos]
   repeat' first|refine dr (id:=3) T 24 (by kernel_rfl) ?_|refine gn ?_|(first|apply VCg.step T rfl rfl|apply exF);focus((try simp (disch:=omega) only[go_sem,Nat.reduceBEq,z'l,ZgX,hd,rv,rt,hw1]);(first|exact rfl|refine⟨?_,rfl⟩;try omega))|refine VCg.gstep T rfl rfl rfl rfl ?_;try simp only[GB]|refine vs T rfl fun K hK=>?_;(try simp (disch:=omega) only[go_sem,Nat.reduceBEq,hx,z'i]);(refine hK _ _ ?_;clear hK K)|refine st rfl ?_|refine sc rfl ?_|refine nl ?_|refine gs rfl rfl ?_|exact z'j T (z'a _) ⟨rfl,rfl⟩
  ·have hx:decide (t=s)=false:=decide_eq_false hts
   have hjj:=hgo (by rw[hst2,hx])
   have hwp1:IntKind.i64.wrap ((p:Int)+1)=((p+1:Nat):Int):=by rw[w64 (by omega)];omega
   have hmi:=ZpI (a:=p+1) (m:=S.length) hlen (by have:=h.kk;omega) (by omega)
   repeat' first|refine vt rfl fun K hK=>?_;refine Znf rfl rfl rfl ?_;refine hK _ _ ?_;clear hK K;(try simp only[updO])|refine dr (id:=3) T 24 (by kernel_rfl) ?_|refine gn ?_|(first|apply VCg.step T rfl rfl|apply exF);focus((try simp (disch:=omega) only[go_sem,Nat.reduceBEq,z'l,ZgX,hd,rv,rt,hw1]);(first|exact rfl|refine⟨?_,rfl⟩;try omega))|refine VCg.gstep T rfl rfl rfl rfl ?_;try simp only[GB]|refine vs T rfl fun K hK=>?_;(try simp (disch:=omega) only[go_sem,Nat.reduceBEq,hx,hwp1,hmi,z'q]);(refine hK _ _ ?_;clear hK K)|refine st rfl ?_|refine sc rfl ?_|refine nl ?_|refine gs rfl rfl ?_
   refine⟨⟨j+1,by omega⟩,Weak.sub ?_,by dsimp only;omega⟩
   have:=Zmn (h:=q) (j:=j) (m:=S.length) (by omega)
   rw[hpp]at this
   simp[sub,upd,this]
theorem Zl8 (X:List ByteArray) (S:List Int) (h0:0<S.length):Pure Tryz.prog 155 [.pt [ZiA X,z'S S]] (bD true):=by
 have hd:decide ((S.length:Int)>0)=true:=by simp;omega
 refine Fun.of T [.tmp 2] Tryz.func155 rfl Tryz.ntmps155 Tryz.results155 rfl (by kernel_rfl) ?_
 repeat' first|refine vt rfl fun K hK=>?_;refine Zoh rfl (.inl ⟨_,rfl⟩) rfl (by kernel_rfl) ?_;refine hK _ _ ?_;clear hK K;(try simp only[updO])|refine vs T rfl fun K hK=>?_;(try simp (disch:=omega) only[go_sem,Nat.reduceBEq,z'l,hd]);(refine hK _ _ ?_;clear hK K)|refine st rfl ?_|refine nl ?_|refine gs rfl rfl ?_|exact z'j T (z'a _) ⟨rfl,rfl⟩
abbrev tbW (bt:Nat) (gt:G) (bs cs:Nat) (X:List ByteArray) (S:List Int) (H:Heap):Heap:=
 (bs,.cells 3 (cs*1) (S.map iD))::(bt,.cells 157 2 [.gs gt X.length,.gs (some (bs,cs)) S.length])::shp gt 9 1 (X.map sD) H
theorem Zl7 (X:List ByteArray):(tRs X).flatten=X.map sD:=by
 induction X with
 |nil=>rfl
 |cons x X ih=>simp only[tRs,z'z,z'X]at ih⊢;rw[ih];rfl
theorem Zoa (X:List ByteArray): ∀r,r∈tRs X→r.length=1:=fun r hr=>by obtain⟨x,_,rfl⟩:=z'y.1 hr;rfl
theorem Zkf {bt:Nat} {gt:G} {bs cs:Nat} {X:List ByteArray} {S:List Int} {H:Heap} {ds:List D} (hgt:gOk gt X.length) (hgs:S.length≤cs):
  FzL (tbW bt gt bs cs X S H) (.pt [ZiA X,z'S S]::ds) (pD bt::ds):=by
 have z1:Fz (tbW bt gt bs cs X S H) (ZiA X) (.gs gt X.length):=ZaS (e:=9) (l:=X.map sD) (ZgX X).symm hgt (fun b cap hb=>z'e _ (z'e _ (by subst hb;exact x'k))) (by rw[←Zl7];exact FzR.refl _ _ (Zoa X))
 have z2:Fz (tbW bt gt bs cs X S H) (z'S S) (.gs (some (bs,cs)) S.length):=x'4 hgs (fun b cap hb=>by cases hb;exact z'C ..)
 exact z'E (.inr ⟨bt,0,_,_,_,rfl,z'e _ (z'C ..),⟨_,_,rfl,z1,_,_,rfl,z2,trivial⟩⟩) (FzL.refl _ _)
theorem ZdC (n:Nat):Zaz n [.int .i64 0]=(List.replicate n (0:Int)).map iD:=by
 show(List.replicate n [iD 0]).flatten=_
 rw[v'e]
 induction n with
 |zero=>rfl
 |succ n ih=>rw[y's,z'X,ih,y's];rfl
theorem TI.sl {X:List ByteArray} {S:List Int} {n k:Nat} (I:TI hm0 X S n) (hl:S.length=2^k) (hk:4≤k∧k≤40) (hn:n<S.length) (ht:X.length≤1000000):ZpO X S k:=
 ⟨hl,hk,by have:=I.free;omega,fun v hv=>by
  obtain⟨p,hp,rfl⟩:=List.mem_iff_getElem.1 hv
  rcases I.val p _ (z'b hp)with h|⟨i,hi,h⟩
  ·exact .inl h
  ·exact .inr ⟨i,by have:=I.nT;omega,h⟩,ht⟩
structure ZgK (X:List ByteArray) (S:List Int):Prop where
 ti:TI hm0 X S X.length
 pw: ∃k,S.length=2^k∧4≤k∧k≤29
 cap:S.length≤16+4*X.length
 load:2*X.length≤S.length
theorem Zqf {k n:Nat} (h:2^k≤n) (hn:n<1048576):k≤19:=by
 rcases z'g k 20 with h'|h'
 ·omega
 ·have:2^20≤2^k:=x'T (by decide) h'
  omega
abbrev grS (X:List ByteArray) (x:Nat×Nat×List Int):Prop:=ZgK X x.2.2∧x.2.2.length≤x.2.1
theorem ZnU (bt:Nat) (gt:G) (bs cs:Nat) (X:List ByteArray) (S:List Int) (k:Nat) (hgt:gOk gt X.length) (hgs:S.length≤cs) (I:TI hm0 X S X.length) (hl:S.length=2^k) (hk:4≤k∧k≤29) (hX:X.length<S.length) (hcap:S.length≤16+4*X.length) (ht:X.length≤200000)
  (hz: ∀x,x∈X→x.size≤1000000):Fun Tryz.prog 157 [pD bt] (tbW bt gt bs cs X S []) false (fun d H'=> ∃x:Nat×Nat×List Int,grS X x∧d= .tup []∧H'=tbW bt gt x.1 x.2.1 X x.2.2 []):=by
 have hb:16≤S.length∧S.length≤536870912:=by
  rw[hl]
  exact⟨x'T (n:=2) (by decide) hk.1,x'T (n:=2) (by decide) hk.2⟩
 have hw0:IntKind.i64.wrap (2*(X.length:Int))=((2*X.length:Nat):Int):=by rw[w64 (by omega)];omega
 refine Fun.of T [] Tryz.func157 rfl Tryz.ntmps157 Tryz.results157 rfl (by kernel_rfl) ?_
 refine VC.nodup fun hnd=>?_
 have n1: ¬bs=bt:=fun h=>by subst h;simp[Heap.blocks]at hnd
 repeat' first|refine vs T rfl fun K hK=>?_;(try simp (disch:=omega) only[go_sem,Nat.reduceBEq]);(refine hK _ _ ?_;clear hK K)|refine st rfl ?_|refine nl ?_
 rcases z'g S.length (2*X.length)with hbig|hsm
 case inr=>
  refine VC.loop Unit (fun _=>⟨z'M [(0,pD bt),(2,iD (S.length:Nat))],tbW bt gt bs cs X S []⟩) (fun _=>0) () ?_ ?_
  ·refine Weak.sub ?_
   simp[sub,upd]
  intro _
  have hd:decide (((2*X.length:Nat):Int)>(S.length:Int))=false:=decide_eq_false (by omega)
  repeat' first|refine vs T rfl fun K hK=>?_;(try simp (disch:=omega) only[go_sem,Nat.reduceBEq,hd,hw0]);(refine hK _ _ ?_;clear hK K)|refine st rfl ?_|refine sc rfl ?_|refine nl ?_
  exact ZaY T rfl (z'm _) ⟨(bs,cs,S),⟨⟨I,⟨k,hl,hk⟩,hcap,hsm⟩,hgs⟩,rfl,rfl⟩
 case inl=>
  refine VC.loop {j:Nat//j≤1} (fun j=>⟨z'M [(0,pD bt),(2,iD (S.length*(j.1+1):Nat))],tbW bt gt bs cs X S []⟩) (fun j=>1-j.1) ⟨0,by omega⟩ ?_ ?_
  ·refine Weak.sub ?_
   simp[sub,upd]
  rintro⟨j,hj⟩
  dsimp only
  rcases x'S j with rfl|h1
  ·have hd:decide (((2*X.length:Nat):Int)>((S.length*(0+1):Nat):Int))=true:=decide_eq_true (by omega)
   have hw1:IntKind.i64.wrap (((S.length*(0+1):Nat):Int)*2)=((S.length*(1+1):Nat):Int):=by rw[w64 (by omega)];omega
   repeat' first|refine vs T rfl fun K hK=>?_;(try simp (disch:=omega) only[go_sem,Nat.reduceBEq,Nat.reduceAdd,hd,hw0,hw1]);(refine hK _ _ ?_;clear hK K)|refine st rfl ?_|refine sc rfl ?_|refine nl ?_
   refine⟨⟨1,by omega⟩,Weak.sub ?_,by dsimp only;omega⟩
   simp[sub,upd]
  ·obtain rfl:j=1:=by omega
   have hd:decide (((2*X.length:Nat):Int)>((S.length*(1+1):Nat):Int))=false:=decide_eq_false (by omega)
   have he:(((S.length*(1+1):Nat):Int) == (S.length:Int))=false:=by rw[beq_eq_false_iff_ne];omega
   have hn2:S.length*(1+1)=2^(k+1):=by rw[hl,Nat.pow_succ]
   generalize hn:S.length*(1+1)=n at*
   repeat' first|refine vs T rfl fun K hK=>?_;(try simp (disch:=omega) only[go_sem,Nat.reduceBEq,Nat.reduceAdd,Nat.reduceLeDiff,hd,hw0,he]);(first|refine hK _ _ ?_;clear hK K|refine⟨?_,fun bq hbq=>?_⟩;rotate_left;(try simp only[HB]at hbq);refine hK _ _ ?_;all_goals clear hK K)|refine st rfl ?_|refine sc rfl ?_|refine nl ?_
   rotate_left
   ·omega
   have n2: ¬bq=bt:=fun h=>by subst h;simp[Heap.blocks]at hbq
   refine VC.loop {p:Nat×List Int//p.1≤X.length∧p.2.length=n∧TI hm0 X p.2 p.1} (fun p=>⟨z'M [(0,pD bt),(35,.gs gt X.length),(36,iD (X.length:Nat)),(37,iD (p.1.1:Nat))],(bq,.cells 3 (n*1) (p.1.2.map iD))::(bt,.cells 157 2 [.gs gt X.length,.gs (some (bq,n)) n])::shp gt 9 1 (X.map sD) []⟩) (fun p=>X.length-p.1.1) ⟨(0,List.replicate n 0),z'6 _,x'K,TI.none hm0 I.nd n⟩ ?_ ?_
   ·rw[ZdC]
    refine Weak.subH (List.Sublist.cons_cons _ (z'9 _ _)) ?_
    simp[sub,upd]
   rintro⟨⟨i,Si⟩,hi,hSl,J⟩
   dsimp only at hi hSl J⊢
   rcases z'g i X.length with hlt|hge
   ·have hdi:decide ((i:Int)<(X.length:Int))=true:=by simp;omega
    have hwi:IntKind.i64.wrap ((i:Int)+1)=((i+1:Nat):Int):=by rw[w64 (by omega)];omega
    obtain⟨x,hx⟩: ∃x,X[i]?=some x:=⟨_,z'b hlt⟩
    have hxs:=hz x (z'f hx)
    have hxm:(X.map sD)[i]?=some (sD x):=by rw[z'4,hx];rfl
    have sl:=J.sl (k:=k+1) (by rw[hSl,hn2]) (by omega) (by omega) (by omega)
    have cf:=ZjH X Si (k+1) sl x hxs
    have zf:=Zkf (bt:=bt) (gt:=gt) (bs:=bq) (cs:=n) (X:=X) (S:=Si) (H:=[]) (ds:=[sD x]) hgt (by omega)
    have hpl:posT X Si x<Si.length:=w'W _ (by omega)
    refine v'4 (t:=35) (g:=gt) rfl fun hg=>?_
    rcases gt with _|⟨bg,cg⟩
    ·have h0:X.length=0:=hgt
     omega
    simp only[tbW,shp,hSl,z'w]at zf
    simp only[shp]
    refine VC.nodup fun hnd2=>?_
    have n3: ¬bq=bg:=fun h=>by subst h;simp[Heap.blocks]at hnd2
    have n4: ¬bt=bg:=fun h=>by subst h;simp[Heap.blocks]at hnd2
    repeat' first|refine dr (id:=8) T 9 (by kernel_rfl) ?_|refine gn ?_|apply VCg.step T rfl rfl;focus((try simp (disch:=omega) only[go_sem,Nat.reduceBEq,hwi]);(first|exact rfl|refine Op1.lend rfl rfl (cf) (zf) (.inr rfl) ?_;exact⟨rfl,rfl⟩))|refine vs T rfl fun K hK=>?_;(try simp (disch:=omega) only[go_sem,Nat.reduceBEq,hdi,hwi,hx,z'w,z'p]);(first|refine hK _ _ ?_;clear hK K|refine⟨?_,hK _ _ ?_⟩<;>clear hK K;focus(try omega))|refine st rfl ?_|refine sc rfl ?_|refine nl ?_
    all_goals first|omega|(rw[z'p];omega)|skip
    have hput:=J.put hx sl.free
    rw[show(i:Int)+1=((i+1:Nat):Int) by omega]at hput
    refine⟨⟨(i+1,Si.set (posT X Si x) ((i+1:Nat):Int)),by dsimp only;omega,by dsimp only;rw[y'u];exact hSl,hput⟩,z'G ?_ ?_,by dsimp only;omega⟩
    ·dsimp only
     rw[y'k,z'w,z'w]
    ·simp[sub,upd]
   ·have hdi:decide ((i:Int)<(X.length:Int))=false:=by simp;omega
    obtain rfl:i=X.length:=by omega
    repeat' first|refine vs T rfl fun K hK=>?_;(try simp (disch:=omega) only[go_sem,Nat.reduceBEq,hdi]);(refine hK _ _ ?_;clear hK K)|refine st rfl ?_|refine sc rfl ?_|refine nl ?_
    refine ZaY T rfl (z'm _) ⟨(bq,n,Si),⟨⟨J,⟨k+1,by dsimp only;rw[hSl,hn2],by omega,by have:=Zqf (k:=k+1) (n:=n) (by omega) (by omega);omega⟩,by dsimp only;omega,by dsimp only;omega⟩,by dsimp only;omega⟩,rfl,?_⟩
    rw[←hSl]
theorem Zk3 {β:Type} [DecidableEq β] {X:List β} {S:List Int} {s:β} {h:Nat} (hv: ∀v,v∈S→v=0∨ ∃i:Nat,i<X.length∧v=(i:Int)+1):ZaO (X++[s]) S h s=ZaO X S h s:=by
 have e:w'5 (X++[s]) S s=w'5 X S s:=by
  funext p
  cases hp:S[p]? with
  |none=>unfold w'5;rw[z'd,hp];rfl
  |some v=>
   rcases hv v (z'f hp)with rfl|⟨i,hi,rfl⟩
   ·rw[Zew hp,Zew hp]
   ·rw[Zf2 hp,Zf2 hp,y'f hi]
 unfold ZaO w'P
 rw[e]
def tpI (X:List ByteArray) (s:ByteArray):Nat:=match w'u X s with|some i=>i|none=>X.length
def tpF (X:List ByteArray) (s:ByteArray):Bool:=(w'u X s).isNone
def tpX (X:List ByteArray) (s:ByteArray):List ByteArray:=match w'u X s with|some _=>X|none=>X++[s]
abbrev tpS (X:List ByteArray) (s:ByteArray) (x:G×Nat×Nat×List Int):Prop:=ZgK (tpX X s) x.2.2.2∧x.2.2.2.length≤x.2.2.1∧gOk x.1 (tpX X s).length
theorem Zoc (bt:Nat) (gt:G) (bs cs:Nat) (X:List ByteArray) (S:List Int) (h:ZgK X S) (hgt:gOk gt X.length) (hgs:S.length≤cs) (ht:X.length≤100000) (hz: ∀x,x∈X→x.size≤1000000) (s:ByteArray) (hs:s.size≤1000000):
  Fun Tryz.prog 124 [pD bt,sD s] (tbW bt gt bs cs X S []) false
   (fun d H'=> ∃x:G×Nat×Nat×List Int,tpS X s x∧d= .tup [iD (tpI X s:Nat),bD (tpF X s)]∧H'=tbW bt x.1 x.2.1 x.2.2.1 (tpX X s) x.2.2.2 []):=by
 obtain⟨k,hl,hk⟩:=h.pw
 have hb:16≤S.length∧S.length≤536870912:=by
  rw[hl]
  exact⟨x'T (n:=2) (by decide) hk.1,x'T (n:=2) (by decide) hk.2⟩
 have hld:=h.load
 have sl:=h.ti.sl hl ⟨hk.1,by omega⟩ (by omega) (by omega)
 have c0:=Zl8 X S (by omega)
 have cf:=ZjH X S k sl s hs
 have z0:=Zkf (bt:=bt) (gt:=gt) (bs:=bs) (cs:=cs) (X:=X) (S:=S) (H:=[]) (ds:=[]) hgt hgs
 have z1:=Zkf (bt:=bt) (gt:=gt) (bs:=bs) (cs:=cs) (X:=X) (S:=S) (H:=[]) (ds:=[sD s]) hgt hgs
 have hpl:posT X S s<S.length:=w'W _ (by omega)
 refine Fun.of T [.tmp 4,.tmp 5] Tryz.func124 rfl Tryz.ntmps124 Tryz.results124 rfl (by kernel_rfl) ?_
 refine VC.nodup fun hnd=>?_
 have n1: ¬bs=bt:=fun h=>by subst h;simp[Heap.blocks]at hnd
 cases hi:w'u X s with
 |some i=>
  have hx:=Zhm hi
  have hS:=ZmP h.ti (z'c.1 hx).1 hx
  have hSm:(S.map iD)[posT X S s]?=some (iD ((i:Int)+1)):=by rw[z'4,hS];rfl
  have hd:decide ((i:Int)+1>0)=true:=decide_eq_true (by omega)
  have hil:=(z'c.1 hx).1
  have hw:IntKind.i64.wrap ((i:Int)+1-1)=(i:Int):=by
   rw[w64 (by omega)]
   omega
  have e1:tpI X s=i:=by simp[tpI,hi]
  have e2:tpF X s=false:=by simp[tpF,hi]
  have e3:tpX X s=X:=by simp[tpX,hi]
  simp only[tpS,e1,e2,e3]
  repeat' first|refine vs T rfl fun K hK=>?_;(try simp (disch:=omega) only[go_sem,Nat.reduceBEq,hS,hd,hw,z'w,z'i]);(first|refine hK _ _ ?_;clear hK K|refine⟨?_,hK _ _ ?_⟩<;>clear hK K;focus(try omega)|refine Op1.lend rfl rfl (c0) (z0) (.inr rfl) ?_;refine hK _ _ ?_;clear hK K|refine Op1.lend rfl rfl (cf) (z1) (.inr rfl) ?_;refine hK _ _ ?_;clear hK K)|refine st rfl ?_|refine sc rfl ?_|refine nl ?_
  exact x'E T (z'm _) ⟨(gt,bs,cs,S),⟨h,hgs,hgt⟩,rfl,rfl⟩
 |none=>
  have hx:=Zho hi
  have hno: ∀i:Nat,i<X.length→X[i]?≠some s:=fun i _ hi'=>hx (z'f hi')
  have hS:=(Zjw h.ti sl.free hno).1
  have hd:decide ((0:Int)>0)=false:=by decide
  have e1:tpI X s=X.length:=by simp[tpI,hi]
  have e2:tpF X s=true:=by simp[tpF,hi]
  have e3:tpX X s=X++[s]:=by simp[tpX,hi]
  have hw:IntKind.i64.wrap (((X.length+1:Nat):Int)-1)=(X.length:Int):=by rw[w64 (by omega)];omega
  have J:=(h.ti.more hx).put (s:=s) (by simp) sl.free
  rw[Zk3 sl.val]at J
  have hJl:(X++[s]).length=X.length+1:=by simp
  have cg:=fun gt' (hg:gOk gt' (X.length+1))=>ZnU bt gt' bs cs (X++[s]) (S.set (posT X S s) ((X.length:Int)+1)) k (by rw[hJl];exact hg) (by rw[y'u];exact hgs) (by rw[hJl];exact J) (by rw[y'u];exact hl) hk (by rw[hJl,y'u];omega)
   (by rw[hJl,y'u];have:=h.cap;omega) (by rw[hJl];omega) (fun x hm=>by rcases y'x.1 hm with hm|hm;exact hz x hm;obtain rfl:=x'g.1 hm;exact hs)
  simp only[tpS,e1,e2,e3]
  repeat' first|refine dr (id:=7) T 10 (by kernel_rfl) ?_|refine gn ?_|apply VCg.step T rfl rfl;focus((try simp (disch:=omega) only[go_sem,Nat.reduceBEq]);(exact rfl))|refine vs T rfl fun K hK=>?_;(try simp (disch:=omega) only[go_sem,Nat.reduceBEq,Nat.reduceAdd,Nat.reduceLeDiff,hS,hd,z'w,z'p,z'i]);(first|refine hK _ _ ?_;clear hK K|refine⟨_,_,_,_,(by repeat (first|exact Sp.here|apply Sp.cons)),?_,(by exact⟨rfl,rfl⟩),⟨by decide,?_⟩,fun g' hg'=>hK _ _ ?_⟩<;>clear hK K|refine⟨?_,hK _ _ ?_⟩<;>clear hK K;focus(try omega)|refine Op1.lend rfl rfl (c0) (z0) (.inr rfl) ?_;refine hK _ _ ?_;clear hK K|refine Op1.lend rfl rfl (cf) (z1) (.inr rfl) ?_;refine hK _ _ ?_;clear hK K|skip)|refine st rfl ?_|refine sc rfl ?_|refine nl ?_
  all_goals first|omega|(rw[z'p];done)|skip
  have cg2:=cg g' hg'
  simp only[tbW,z'F,z'z,y't,y'k,y'u,hJl,z'w]at cg2
  rw[show(X.length:Int)+1=((X.length+1:Nat):Int) by omega]at cg2
  refine Op1.cally (Hr:=[]) rfl rfl cg2 rfl (by rw[z'r]) (fun q hq=>?_)
  refine hK _ _ ?_
  clear hK K
  refine vo ?_
  refine VCo.nodup fun hnd2=>?_
  have n5: ¬q.1=bt:=fun h=>by simp[Heap.blocks,h]at hnd2
  repeat' first|refine vs T rfl fun K hK=>?_;(try simp (disch:=omega) only[go_sem,Nat.reduceBEq,hw]);(refine hK _ _ ?_;clear hK K)|refine st rfl ?_|refine nl ?_|refine ov ?_
  refine x'E T (z'm _) ⟨(g',q.1,q.2.1,q.2.2),⟨hq.1,hq.2,by rw[hJl];exact hg'⟩,rfl,?_⟩
  simp only[tbW,z'F,z'z,y't,hJl,z'w,z'r]
end Go.Proofs.YtomcmfbpmkklmaaGreat
