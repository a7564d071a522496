/- Contracts: numbers in digits. No condition. -/
import Derived.Test.YthlkpnjjkgmlkaaGreatWb
import Derived.Test.YthlkpnjjkgmlkaaGreatRd
import Derived.Test.YthlkpnjjkgmlkaaGreatRa
import Derived.Test.YthlkpnjjkgmlkaaGreatXe
namespace Go.Proofs.YthlkpnjjkgmlkaaGreat
set_option maxHeartbeats 16000000
set_option linter.unusedSimpArgs false
set_option linter.unusedVariables false
open Go Go.Proofs Go.Vc
attribute [local irreducible] x'c VCg VCw VCx
def ZbF:Nat→Nat→List UInt8
 |0,n=>[UInt8.ofNat (48+n % 10)]
 |k+1,n=>if n<10 then[UInt8.ofNat (48+n)]else ZbF k (n/10)++[UInt8.ofNat (48+n % 10)]
theorem Zhh (k n:Nat) (h:n<10):ZbF k n=[UInt8.ofNat (48+n)]:=by
 cases k with
 |zero=>rw[ZbF,Nat.mod_eq_of_lt h]
 |succ k=>rw[ZbF,if_pos h]
theorem Zor (k n:Nat) (h: ¬n<10):ZbF (k+1) n=ZbF k (n/10)++[UInt8.ofNat (48+n % 10)]:=by rw[ZbF,if_neg h]
theorem Ze1 (a b:List UInt8):(⟨a.toArray⟩:ByteArray)++⟨b.toArray⟩=⟨(a++b).toArray⟩:=by
 apply ByteArray.ext
 simp
theorem Zee: ∀k n,(ZbF k n).length≤k+1
 |0,n=>by simp[ZbF]
 |k+1,n=>by
  rw[ZbF]
  split
  ·simp
  ·have:=Zee k (n/10)
   simp;omega
theorem Zg7 {n:Int} (h0:0≤n) (h:n<10):w'H [IntKind.u8.wrap (IntKind.i64.wrap (48+n))]=⟨[UInt8.ofNat (48+n.toNat)].toArray⟩:=by
 rw[w64 (by omega),wu8 (by omega),Zni]
 congr 4
 omega
def Ze4 (n:Int):ByteArray:=⟨(ZbF 5 n.toNat).toArray⟩
theorem Zb6 (n:Int):(Ze4 n).size≤6:=by
 have:=Zee 5 n.toNat
 simpa[Ze4,ByteArray.size]using this
set_option maxRecDepth 20000
inductive Ag where
 |th (t:Nat)
 |fl (t:Nat) (l:Int)
def agD:Ag→D
 | .th t=> .ifc 309 (iD (t:Nat))
 | .fl t l=> .ifc 311 (.agg [iD (t:Nat),iD l])
def ZcK (l:List Ag):List (List D):=l.map fun a=>[agD a]
theorem ZbD (l:List Ag):(ZcK l).length=l.length:=z'i ..
theorem Zl6 (l:List Ag) (i:Nat):(ZcK l)[i]?=(l[i]?).map fun a=>[agD a]:=z'J ..
theorem ZpO (l:List Ag): ∀r,r∈ZcK l→r.length=1:=by
 intro r hr
 obtain⟨a,_,rfl⟩:=z'p.1 hr
 rfl
theorem Zoe (l:List Ag):(ZcK l).flatten=l.map agD:=by
 induction l with
 |nil=>rfl
 |cons a l ih=>simp only[ZcK,z'm,z'R]at ih⊢;rw[ih];rfl
def ZfF (k:Nat):List Ag:=(List.range k).map .th
def ZgE (u:Un) (m:Int) (t:Nat):List Ag:=if m=2 then[.fl t (-1)]else if m=3 then(List.range u.init.length).map fun(l:Nat)=> .fl t (l:Int)else[]
def Zdw (u:Un) (m:Int) (k:Nat):List Ag:=ZfF u.regs.length++(List.range k).flatMap (ZgE u m)
def Zaq (u:Un) (m:Int):List Ag:=if y'G u=true∧1≤m∧m≤3 then Zdw u m u.regs.length else[]
theorem ZpC (k:Nat):ZfF (k+1)=ZfF k++[.th k]:=by simp[ZfF,y'h]
theorem Zdf (u:Un) (m:Int) (k:Nat):Zdw u m (k+1)=Zdw u m k++ZgE u m k:=by simp[Zdw,y'h,z'6]
theorem ZeT (k:Nat):(ZfF k).length=k:=by simp[ZfF]
theorem ZfH {u:Un} (h:y'G u=true):u.regs.length≤4∧u.init.length≤6∧1≤u.regs.length:=by
 simp only[y'G,w'Y,z'c,decide_eq_true_eq]at h
 omega
theorem nI309: ∃d,Tryz.prog.underlying 309=some d∧ ∀ms,d≠ .interface ms:=⟨_,Tryz.underlying309,fun ms h=>by cases h⟩
theorem nI311: ∃d,Tryz.prog.underlying 311=some d∧ ∀ms,d≠ .interface ms:=⟨_,Tryz.underlying311,fun ms h=>by cases h⟩
theorem ZiM (u:Un) (hu:OkU u) (m:Int):Pure Tryz.prog 261 [.agg (unC u),iD m] (.sl false 1 (ZcK (Zaq u m))):=by
 have cu:=Zfx u hu
 refine Fun.freeze (ZpO _) ?_
 refine Fun.of T [.tmp 4] Tryz.func261 rfl Tryz.ntmps261 Tryz.results261 rfl (by kernel_rfl) ?_
 have fin0:Zaq u m=[]→ ∀E:Nat→D,E 4= .gs none 0→x'c T [.tmp 4] (fun d H'=> ∃g e,d= .gs g (ZcK (Zaq u m)).length∧H'=shp g e 1 (ZcK (Zaq u m)).flatten []) .ret ⟨E,[]⟩:=fun h E hE=>by
  rw[h]
  exact z'A T (z'a _) ⟨none,0,by rw[hE];rfl,rfl⟩
 cases hU:y'G u with
 |false=>
  rw[hU]at cu
  repeat' first|refine vb rfl rfl rfl rfl ?_|refine vs T rfl fun K hK=>?_;(try simp (disch:=omega) only[go_sem,Nat.reduceBEq,Nat.reduceAdd,Nat.reduceLeDiff,z'O]);(first|refine hK _ _ ?_;clear hK K|refine Op1.callp rfl rfl (cu) rfl ?_;refine hK _ _ ?_;clear hK K)|refine st rfl ?_|refine sc rfl ?_|refine nl ?_|refine gs rfl rfl ?_
  exact fin0 (by simp[Zaq,hU]) _ rfl
 |true=>
 rw[hU]at cu
 by_cases h1:m<1
 ·have e1:decide (m<1)=true:=by simpa using h1
  repeat' first|refine vb rfl rfl rfl rfl ?_|refine vs T rfl fun K hK=>?_;(try simp (disch:=omega) only[go_sem,Nat.reduceBEq,Nat.reduceAdd,Nat.reduceLeDiff,e1,z'E]);(first|refine hK _ _ ?_;clear hK K|refine Op1.callp rfl rfl (cu) rfl ?_;refine hK _ _ ?_;clear hK K)|refine st rfl ?_|refine sc rfl ?_|refine nl ?_|refine gs rfl rfl ?_
  exact fin0 (by simp[Zaq];omega) _ rfl
 have e1:decide (m<1)=false:=by simpa using h1
 by_cases h3:m>3
 ·have e3:decide (m>3)=true:=by simpa using h3
  repeat' first|refine vb rfl rfl rfl rfl ?_|refine vs T rfl fun K hK=>?_;(try simp (disch:=omega) only[go_sem,Nat.reduceBEq,Nat.reduceAdd,Nat.reduceLeDiff,e1,e3,z'E]);(first|refine hK _ _ ?_;clear hK K|refine Op1.callp rfl rfl (cu) rfl ?_;refine hK _ _ ?_;clear hK K)|refine st rfl ?_|refine sc rfl ?_|refine nl ?_|refine gs rfl rfl ?_
  exact fin0 (by simp[Zaq];omega) _ rfl
 have e3:decide (m>3)=false:=by simpa using h3
 clear fin0
 obtain⟨kn,ki,k0⟩:=ZfH hU
 have hA:Zaq u m=Zdw u m u.regs.length:=if_pos ⟨hU,by omega,by omega⟩
 rw[hA]
 repeat' first|refine vb rfl rfl rfl rfl ?_|refine vs T rfl fun K hK=>?_;(try simp (disch:=omega) only[go_sem,Nat.reduceBEq,Nat.reduceAdd,Nat.reduceLeDiff,e1,e3,z'I,z'E]);(first|refine hK _ _ ?_;clear hK K|refine Op1.callp rfl rfl (cu) rfl ?_;refine hK _ _ ?_;clear hK K)|refine st rfl ?_|refine sc rfl ?_|refine nl ?_|refine gs rfl rfl ?_
 refine VC.loop {p:Nat×Option (Nat×Nat)//p.1≤u.regs.length} (fun p=>⟨y'd [(1,iD m),(2,.pt (unC u)),(5,.gs p.1.2 p.1.1),(22,iD (u.regs.length:Nat)),(23,iD (p.1.1:Nat))],shp p.1.2 293 1 ((ZfF p.1.1).map agD) []⟩) (fun p=>u.regs.length-p.1.1) ⟨(0,none),by dsimp only;omega⟩ ?_ ?_
 ·refine Weak.sub ?_
  simp[sub,upd]
 rintro⟨⟨k,g⟩,hk⟩
 dsimp only at hk⊢
 rcases z'j k u.regs.length with hlt|hge
 case inl=>
  have hd:decide ((k:Int)<(u.regs.length:Int))=true:=by simp;omega
  have hw:IntKind.i64.wrap ((k:Int)+1)=((k+1:Nat):Int):=by rw[w64 (by omega)];omega
  repeat' first|refine vs T rfl fun K hK=>?_;(try simp (disch:=omega) only[go_sem,Nat.reduceBEq,Nat.reduceMul,Nat.reduceLeDiff,hd,hw]);(first|refine⟨nI309,hK _ _ ?_⟩;clear hK K|refine hK _ _ ?_;clear hK K|refine⟨_,_,_,_,(by repeat (exact Sp.here)),?_,(by exact⟨rfl,rfl⟩),⟨by decide,?_⟩,fun g' hg'=>hK _ _ ?_⟩<;>clear hK K)|refine st rfl ?_|refine sc rfl ?_|refine nl ?_
  ·simp[ZeT]
  ·omega
  ·refine⟨⟨(k+1,g'),by dsimp only;omega⟩,z'S ?_ ?_,by dsimp only;omega⟩
   ·dsimp only
    rw[ZpC,z'v]
    rfl
   ·simp[sub,upd]
 obtain rfl:k=u.regs.length:=by omega
 have hd:decide ((u.regs.length:Int)<(u.regs.length:Int))=false:=by simp
 repeat' first|refine vs T rfl fun K hK=>?_;(try simp (disch:=omega) only[go_sem,Nat.reduceBEq,hd,z'I]);(refine hK _ _ ?_;clear hK K)|refine st rfl ?_|refine sc rfl ?_|refine nl ?_
 refine VC.loop {p:Nat×List Ag×Option (Nat×Nat)//p.1≤u.regs.length∧p.2.1=Zdw u m p.1∧p.2.1.length≤10+10*p.1} (fun p=>⟨y'd [(1,iD m),(2,.pt (unC u)),(5,.gs p.1.2.2 p.1.2.1.length),(34,iD (u.regs.length:Nat)),(35,iD (p.1.1:Nat))],shp p.1.2.2 293 1 (p.1.2.1.map agD) []⟩) (fun p=>u.regs.length-p.1.1) ⟨(0,ZfF u.regs.length,g),by dsimp only;omega,by dsimp only;simp[Zdw],by dsimp only;rw[ZeT];omega⟩ ?_ ?_
 ·refine Weak.sub ?_
  simp[sub,upd,ZeT]
 rintro⟨⟨t,L,g⟩,ht,hL,hB⟩
 dsimp only at ht hL hB⊢
 rcases z'j t u.regs.length with hlt|hge
 case inr=>
  obtain rfl:t=u.regs.length:=by omega
  have hd:decide ((u.regs.length:Int)<(u.regs.length:Int))=false:=by simp
  repeat' first|refine vs T rfl fun K hK=>?_;(try simp (disch:=omega) only[go_sem,Nat.reduceBEq,hd]);(refine hK _ _ ?_;clear hK K)|refine st rfl ?_|refine sc rfl ?_|refine nl ?_
  exact z'A T (z'w _) ⟨g,293,by rw[←hL,ZbD];rfl,by rw[←hL,Zoe]⟩
 have hd:decide ((t:Int)<(u.regs.length:Int))=true:=by simp;omega
 have hw:IntKind.i64.wrap ((t:Int)+1)=((t+1:Nat):Int):=by rw[w64 (by omega)];omega
 by_cases m2:m=2
 ·have f2:(m == 2)=true:=by simpa using m2
  repeat' first|refine vs T rfl fun K hK=>?_;(try simp (disch:=omega) only[go_sem,Nat.reduceBEq,Nat.reduceAdd,Nat.reduceMul,Nat.reduceLeDiff,hd,hw,f2]);(first|refine⟨nI311,hK _ _ ?_⟩;clear hK K|refine hK _ _ ?_;clear hK K|refine⟨_,_,_,_,(by repeat (exact Sp.here)),?_,(by exact⟨rfl,rfl⟩),⟨by decide,?_⟩,fun g' hg'=>hK _ _ ?_⟩<;>clear hK K)|refine st rfl ?_|refine sc rfl ?_|refine nl ?_
  ·simp
  ·omega
  ·refine⟨⟨(t+1,L++[.fl t (-1)],g'),by dsimp only;omega,by dsimp only;rw[Zdf, ←hL];simp[ZgE,m2],by dsimp only;simp;omega⟩,z'S ?_ ?_,by dsimp only;omega⟩
   ·dsimp only
    rw[z'v]
    rfl
   ·simp[sub,upd]
 have f2:(m == 2)=false:=by simpa using m2
 by_cases m3:m=3
 case neg=>
  have f3:(m == 3)=false:=by simpa using m3
  repeat' first|refine vs T rfl fun K hK=>?_;(try simp (disch:=omega) only[go_sem,Nat.reduceBEq,hd,hw,f2,f3]);(refine hK _ _ ?_;clear hK K)|refine st rfl ?_|refine sc rfl ?_|refine nl ?_
  refine⟨⟨(t+1,L,g),by dsimp only;omega,by dsimp only;rw[Zdf, ←hL];simp[ZgE,m2,m3],by dsimp only;omega⟩,z'S rfl ?_,by dsimp only;omega⟩
  simp[sub,upd]
 have f3:(m == 3)=true:=by simpa using m3
 repeat' first|refine vs T rfl fun K hK=>?_;(try simp (disch:=omega) only[go_sem,Nat.reduceBEq,hd,f2,f3,z'I]);(refine hK _ _ ?_;clear hK K)|refine st rfl ?_|refine sc rfl ?_|refine nl ?_
 refine VC.loop {p:Nat×List Ag×Option (Nat×Nat)//p.1≤u.init.length∧p.2.1=Zdw u m t++(List.range p.1).map (fun(l:Nat)=> .fl t (l:Int))∧p.2.1.length≤10+10*t+p.1} (fun p=>⟨y'd [(1,iD m),(2,.pt (unC u)),(5,.gs p.1.2.2 p.1.2.1.length),(7,iD (t:Nat)),(34,iD (u.regs.length:Nat)),(35,iD (t:Nat)),(51,iD (u.init.length:Nat)),(52,iD (p.1.1:Nat))],shp p.1.2.2 293 1 (p.1.2.1.map agD) []⟩) (fun p=>u.init.length-p.1.1) ⟨(0,L,g),by dsimp only;omega,by dsimp only;simp[hL],by dsimp only;omega⟩ ?_ ?_
 ·refine Weak.sub ?_
  simp[sub,upd]
 rintro⟨⟨l,L2,g2⟩,hl,hL2,hB2⟩
 dsimp only at hl hL2 hB2⊢
 rcases z'j l u.init.length with hlt2|hge2
 case inl=>
  have hd2:decide ((l:Int)<(u.init.length:Int))=true:=by simp;omega
  have hw2:IntKind.i64.wrap ((l:Int)+1)=((l+1:Nat):Int):=by rw[w64 (by omega)];omega
  repeat' first|refine vs T rfl fun K hK=>?_;(try simp (disch:=omega) only[go_sem,Nat.reduceBEq,Nat.reduceAdd,Nat.reduceMul,Nat.reduceLeDiff,hd2,hw2]);(first|refine⟨nI311,hK _ _ ?_⟩;clear hK K|refine hK _ _ ?_;clear hK K|refine⟨_,_,_,_,(by repeat (exact Sp.here)),?_,(by exact⟨rfl,rfl⟩),⟨by decide,?_⟩,fun g' hg'=>hK _ _ ?_⟩<;>clear hK K)|refine st rfl ?_|refine sc rfl ?_|refine nl ?_
  ·simp
  ·omega
  ·refine⟨⟨(l+1,L2++[.fl t (l:Int)],g'),by dsimp only;omega,by dsimp only;rw[hL2,y'h,z'v,z'6];rfl,by dsimp only;simp;omega⟩,z'S ?_ ?_,by dsimp only;omega⟩
   ·dsimp only
    rw[z'v]
    rfl
   ·simp[sub,upd]
 obtain rfl:l=u.init.length:=by omega
 have hd2:decide ((u.init.length:Int)<(u.init.length:Int))=false:=by simp
 repeat' first|refine vs T rfl fun K hK=>?_;(try simp (disch:=omega) only[go_sem,Nat.reduceBEq,hd2,hw]);(refine hK _ _ ?_;clear hK K)|refine st rfl ?_|refine sc rfl ?_|refine nl ?_
 refine⟨⟨(t+1,L2,g2),by dsimp only;omega,by dsimp only;rw[Zdf,hL2];simp[ZgE,m2,m3],by dsimp only;omega⟩,z'S rfl ?_,by dsimp only;omega⟩
 simp[sub,upd]
abbrev By:=List UInt8
def w'L (n:Int):By:=ZbF 5 n.toNat
def okN (n:Int):Bool:=decide (0≤n)&&decide (n≤9999)
def Ztk (b:UInt8):Bool:=decide (48≤b.toNat)&&decide (b.toNat≤57)
def Ze5 (e:En):Bool:=okN e.1&&okN e.2
def w'1:List Int→By
 |[]=>[]
 |n::l=>32::(w'L n++w'1 l)
def ZaP:List En→By
 |[]=>[]
 |e::l=>32::(w'L e.1++61::(w'L e.2++ZaP l))
def Zrg (t:Nat) (pc:Int) (r:List Int) (b:List En):By:=116::(w'L t++58::(w'L pc++(w'1 r++(ZaP b++[59,32]))))
def v'H (c:Cf):Nat→By
 |0=>[]
 |k+1=>v'H c k++Zrg k (c.pc.getD k 0) (c.regs.getD k []) (c.bufs.getD k [])
def ZjJ (c:Cf):By:=v'H c c.pc.length++(109::58::w'1 c.mem)
def ZaE (c:Cf):Bool:=(decide (c.pc.length≤10)&&(decide (c.regs.length=c.pc.length)&&decide (c.bufs.length=c.pc.length)))&&((c.pc.all okN&&c.mem.all okN)&&(c.regs.all (fun r=>r.all okN)&&c.bufs.all (fun b=>b.all Ze5)))
def Zga (c:Cf):By:=if ZaE c then ZjJ c else[]
def ZqK:By→Nat→Nat×Nat
 |[],n=>(n,0)
 |b::r,n=>if Ztk b&&decide (n≤9999)then((ZqK r (10*n+(b.toNat-48))).1,(ZqK r (10*n+(b.toNat-48))).2+1)else(n,0)
def noD:By→Bool
 |[]=>true
 |b::_=> !Ztk b
structure Rd where
 s:By
 bad:Bool
def Rd.is (r:Rd) (g:By):Bool:=decide (r.s.take g.length=g)
def Rd.skip (r:Rd) (g:By):Rd:=if r.is g then⟨r.s.drop g.length,r.bad⟩else r
def Rd.must (r:Rd) (g:By):Rd:=if r.is g then⟨r.s.drop g.length,r.bad⟩else⟨r.s,true⟩
def Rd.val (r:Rd):Nat:=(ZqK r.s 0).1
theorem Zq4 (a b:List Int):w'1 (a++b)=w'1 a++w'1 b:=by
 induction a with
 |nil=>rfl
 |cons n a ih=>simp[w'1,ih]
theorem Zp1 (a b:List En):ZaP (a++b)=ZaP a++ZaP b:=by
 induction a with
 |nil=>rfl
 |cons n a ih=>simp[ZaP,ih]
end Go.Proofs.YthlkpnjjkgmlkaaGreat
