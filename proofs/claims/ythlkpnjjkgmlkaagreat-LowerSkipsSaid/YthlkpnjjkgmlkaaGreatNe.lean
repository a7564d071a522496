/- Plain law: a loop's Breaks are told where they go. No condition. -/
import Derived.Test.YthlkpnjjkgmlkaaGreatNc
import Derived.Test.YthlkpnjjkgmlkaaGreatLq
namespace Go.Proofs.YthlkpnjjkgmlkaaGreat
set_option linter.unusedSimpArgs false
set_option linter.unusedVariables false
set_option maxRecDepth 20000
open Go Go.Proofs Go.Vc
def bk1 (g:Nat→Nat→Nat→List Nat) (l:List Sm) (a h:Nat):List Nat:=
 if (l.getD a sm0).kind=1 then[]else if (l.getD a sm0).kind=13 then[h]
 else if (l.getD a sm0).kind=10 then(if (l.getD a sm0).els=0 then g (a+1) (mdS (l.getD a sm0) a) (h+1)else g (a+1) (mdS (l.getD a sm0) a) (h+1)++g (mdS (l.getD a sm0) a) (eeS (l.getD a sm0) a) (h+2+szF l (a+1) (mdS (l.getD a sm0) a)))
 else[]
def bkF (l:List Sm):Nat→Nat→Nat→Nat→List Nat
 |0,_,_,_=>[]
 |f+1,a,b,h=>if b≤a then[]else bk1 (bkF l f) l a h++bkF l f (eeS (l.getD a sm0) a) b (h+szF l a (eeS (l.getD a sm0) a))
theorem Zin {g g':Nat→Nat→Nat→List Nat} {l:List Sm} {a h:Nat} (h1: ∀h,g (a+1) (mdS (l.getD a sm0) a) h=g' (a+1) (mdS (l.getD a sm0) a) h)
  (h2: ∀h,g (mdS (l.getD a sm0) a) (eeS (l.getD a sm0) a) h=g' (mdS (l.getD a sm0) a) (eeS (l.getD a sm0) a) h):bk1 g l a h=bk1 g' l a h:=by
 unfold bk1
 simp only[h1,h2]
theorem Zbw (l:List Sm): ∀(f f' a b h:Nat),b-a≤f→b-a≤f'→wh l a b=true→bkF l f a b h=bkF l f' a b h
 |0,0,_,_,_,_,_,_=>rfl
 |0,f'+1,a,b,h,h1,_,_=>by simp[bkF,show b≤a by omega]
 |f+1,0,a,b,h,_,h2,_=>by simp[bkF,show b≤a by omega]
 |f+1,f'+1,a,b,h,h1,h2,hw=>by
  unfold bkF
  by_cases hb:b≤a
  ·rw[if_pos hb,if_pos hb]
  rw[if_neg hb,if_neg hb]
  obtain⟨q1,q2,q3,q4⟩:=v'l (show a<b by omega) hw
  have e1:mdS (l.getD a sm0) a=a+1+(l.getD a sm0).body.toNat:=rfl
  have e2:eeS (l.getD a sm0) a=a+1+(l.getD a sm0).body.toNat+(l.getD a sm0).els.toNat:=rfl
  rw[Zin (g':=bkF l f') (fun h=>Zbw l f f' _ _ h (by omega) (by omega) q2) (fun h=>Zbw l f f' _ _ h (by omega) (by omega) q3),Zbw l f f' (eeS (l.getD a sm0) a) b _ (by omega) (by omega) q4]
def bkA (l:List Sm) (a b h:Nat):List Nat:=bkF l (b-a) a b h
theorem v'9 {l:List Sm} {a b h:Nat} (hb:b≤a):bkA l a b h=[]:=by
 unfold bkA;rw[show b-a=0 by omega];rfl
theorem Zbv {l:List Sm} {a b h:Nat} (hb:a<b) (hw:wh l a b=true):bkA l a b h=bk1 (bkA l) l a h++bkA l (eeS (l.getD a sm0) a) b (h+szF l a (eeS (l.getD a sm0) a)):=by
 obtain⟨q1,q2,q3,q4⟩:=v'l hb hw
 have e1:mdS (l.getD a sm0) a=a+1+(l.getD a sm0).body.toNat:=rfl
 have e2:eeS (l.getD a sm0) a=a+1+(l.getD a sm0).body.toNat+(l.getD a sm0).els.toNat:=rfl
 have hc:bk1 (bkF l (b-a-1)) l a h=bk1 (bkA l) l a h:=
  Zin (fun h=>Zbw l _ _ _ _ h (by omega) (z'c _) q2) (fun h=>Zbw l _ _ _ _ h (by omega) (z'c _) q3)
 have:bkA l a b h=bkF l ((b-a-1)+1) a b h:=by unfold bkA;rw[show b-a-1+1=b-a by omega]
 rw[this,bkF,if_neg (by omega),hc,Zbw l (b-a-1) (b-eeS (l.getD a sm0) a) _ b _ (by omega) (z'c _) q4]
 rfl
def w'9 (r:List Ins) (ks:List Nat) (n:Int):List Ins:=ks.foldl (fun r k=>Zay r k n) r
theorem ZeI (r:List Ins) (a b:List Nat) (n:Int):w'9 r (a++b) n=w'9 (w'9 r a n) b n:=List.foldl_append
theorem Zcb (p:List Ins) (x:Ins) (q:List Ins) (n:Int):Zay (p++x::q) p.length n=p++{x with to:=n}::q:=by
 unfold Zay
 have h1:(p++x::q).getD p.length Zsu=x:=by simp[z'f]
 rw[h1,List.set_append_right _ _ (z'c _),Nat.sub_self]
 rfl
theorem ZrU {l:List Sm} (regs locs:List ByteArray) (hN:NoB l) {a:Nat} {n:Int} (hb:0≤(l.getD a sm0).body∧0≤(l.getD a sm0).els) (ha:eeS (l.getD a sm0) a≤l.length) (q2:wh l (a+1) (mdS (l.getD a sm0) a)=true)
  (h1: ∀p q:List Ins,w'9 (p++(rwA l regs locs (a+1) (mdS (l.getD a sm0) a) p.length 0++q)) (bkA l (a+1) (mdS (l.getD a sm0) a) p.length) n=p++(rwA l regs locs (a+1) (mdS (l.getD a sm0) a) p.length n++q))
  (h2: ∀p q:List Ins,w'9 (p++(rwA l regs locs (mdS (l.getD a sm0) a) (eeS (l.getD a sm0) a) p.length 0++q)) (bkA l (mdS (l.getD a sm0) a) (eeS (l.getD a sm0) a) p.length) n=p++(rwA l regs locs (mdS (l.getD a sm0) a) (eeS (l.getD a sm0) a) p.length n++q))
  (p q:List Ins):w'9 (p++(rw1 (rwA l regs locs) l regs locs a p.length 0++q)) (bk1 (bkA l) l a p.length) n=p++(rw1 (rwA l regs locs) l regs locs a p.length n++q):=by
 have e1:mdS (l.getD a sm0) a=a+1+(l.getD a sm0).body.toNat:=rfl
 have e2:eeS (l.getD a sm0) a=a+1+(l.getD a sm0).body.toNat+(l.getD a sm0).els.toNat:=rfl
 unfold rw1 bk1
 by_cases k1:(l.getD a sm0).kind=1
 ·rw[if_pos k1,if_pos k1,if_pos k1];rfl
 rw[if_neg k1,if_neg k1,if_neg k1]
 by_cases k13:(l.getD a sm0).kind=13
 ·rw[if_pos k13,if_pos k13,if_pos k13]
  exact Zcb p (jpI 0) q n
 rw[if_neg k13,if_neg k13,if_neg k13]
 by_cases k10:(l.getD a sm0).kind=10
 ·rw[if_pos k10,if_pos k10,if_pos k10]
  generalize hbr:brI (cdT (l.getD a sm0).e regs)=br
  by_cases hz:(l.getD a sm0).els=0
  ·rw[if_pos hz,if_pos hz,if_pos hz]
   have:=h1 (p++[br ((p.length+1+szF l (a+1) (mdS (l.getD a sm0) a):Nat):Int)]) q
   simp only[z'e,List.length_singleton,z'M,List.singleton_append]at this
   simp only[y'D]
   exact this
  ·rw[if_neg hz,if_neg hz,if_neg hz,ZeI]
   generalize hB:br ((p.length+2+szF l (a+1) (mdS (l.getD a sm0) a):Nat):Int)=B
   generalize hJ:jpI ((p.length+2+szF l (a+1) (mdS (l.getD a sm0) a)+szF l (mdS (l.getD a sm0) a) (eeS (l.getD a sm0) a):Nat):Int)=J
   have s1:=h1 (p++[B]) (J::(rwA l regs locs (mdS (l.getD a sm0) a) (eeS (l.getD a sm0) a) (p.length+2+szF l (a+1) (mdS (l.getD a sm0) a)) 0++q))
   simp only[z'e,List.length_singleton,z'M,List.singleton_append]at s1
   simp only[y'D,z'M]
   rw[s1]
   have hl:(rwA l regs locs (a+1) (mdS (l.getD a sm0) a) (p.length+1) n).length=szF l (a+1) (mdS (l.getD a sm0) a):=x'q l regs locs hN _ _ _ _ _ (z'c _) (by omega) q2
   have s2:=h2 (p++(B::(rwA l regs locs (a+1) (mdS (l.getD a sm0) a) (p.length+1) n++[J]))) q
   have hpl:(p++(B::(rwA l regs locs (a+1) (mdS (l.getD a sm0) a) (p.length+1) n++[J]))).length=p.length+2+szF l (a+1) (mdS (l.getD a sm0) a):=by
    simp only[z'e,z'q,z'V,hl];omega
   rw[hpl]at s2
   simp only[z'M,y'D,y'h]at s2
   exact s2
 rw[if_neg k10,if_neg k10,if_neg k10]
 rfl
theorem ZfR {l:List Sm} (regs locs:List ByteArray) (hN:NoB l) (n:Int): ∀(f a b:Nat),b-a≤f→b≤l.length→wh l a b=true→ ∀p q:List Ins,w'9 (p++(rwA l regs locs a b p.length 0++q)) (bkA l a b p.length) n=p++(rwA l regs locs a b p.length n++q)
 |0,a,b,h1,_,_,p,q=>by rw[v'N (by omega),v'N (by omega),v'9 (by omega)];rfl
 |f+1,a,b,h1,hl,hw,p,q=>by
  rcases z'g a b with hb|hb
  case inr=>rw[v'N hb,v'N hb,v'9 hb];rfl
  obtain⟨q1,q2,q3,q4⟩:=v'l hb hw
  have e1:mdS (l.getD a sm0) a=a+1+(l.getD a sm0).body.toNat:=rfl
  have e2:eeS (l.getD a sm0) a=a+1+(l.getD a sm0).body.toNat+(l.getD a sm0).els.toNat:=rfl
  have hx:=hN _ (z'8 (d:=sm0) (show a<l.length by omega))
  have hle: ∀o,(rw1 (rwA l regs locs) l regs locs a p.length o).length=szF l a (eeS (l.getD a sm0) a):=fun o=>ZdW hx.1 hx.2 q1.2.1 (fun h o=>x'q l regs locs hN _ _ _ h o (z'c _) (by omega) q2) (fun h o=>x'q l regs locs hN _ _ _ h o (z'c _) (by omega) q3)
  rw[ZbI hb hw,ZbI hb hw,Zbv hb hw,ZeI,hle,hle,z'M,z'M]
  rw[ZrU regs locs hN ⟨q1.1,q1.2.1⟩ (by omega) q2 (fun p q=>ZfR regs locs hN n f _ _ (by omega) (by omega) q2 p q) (fun p q=>ZfR regs locs hN n f _ _ (by omega) (by omega) q3 p q)]
  have s2:=ZfR regs locs hN n f (eeS (l.getD a sm0) a) b (by omega) hl q4 (p++rw1 (rwA l regs locs) l regs locs a p.length n) q
  rw[z'e,hle]at s2
  simp only[z'M]at s2
  exact s2
theorem Zsf {l:List Sm} {a h k:Nat} (hb:0≤(l.getD a sm0).body∧0≤(l.getD a sm0).els) (h1: ∀h k,k∈bkA l (a+1) (mdS (l.getD a sm0) a) h→h≤k∧k<h+szF l (a+1) (mdS (l.getD a sm0) a))
  (h2: ∀h k,k∈bkA l (mdS (l.getD a sm0) a) (eeS (l.getD a sm0) a) h→h≤k∧k<h+szF l (mdS (l.getD a sm0) a) (eeS (l.getD a sm0) a)) (hk:k∈bk1 (bkA l) l a h):h≤k∧k<h+szF l a (eeS (l.getD a sm0) a):=by
 have e1:mdS (l.getD a sm0) a=a+1+(l.getD a sm0).body.toNat:=rfl
 have e2:eeS (l.getD a sm0) a=a+1+(l.getD a sm0).body.toNat+(l.getD a sm0).els.toNat:=rfl
 have hs:szF l a (eeS (l.getD a sm0) a)=sz1 (l.getD a sm0)+(szF l (a+1) (mdS (l.getD a sm0) a)+szF l (mdS (l.getD a sm0) a) (eeS (l.getD a sm0) a)):=by
  rw[x'v (m:=a+1) (by omega) (by omega),x'v (a:=a+1) (m:=mdS (l.getD a sm0) a) (by omega) (by omega),x'5 (z'c a),x'L (z'c a),z'5]
 rw[hs]
 unfold bk1 at hk
 by_cases k1:(l.getD a sm0).kind=1
 ·rw[if_pos k1]at hk;cases hk
 rw[if_neg k1]at hk
 by_cases k13:(l.getD a sm0).kind=13
 ·rw[if_pos k13,z'R]at hk
  have:sz1 (l.getD a sm0)=1:=by unfold sz1;rw[if_neg k1,if_neg (by omega),if_neg (by omega)]
  omega
 rw[if_neg k13]at hk
 by_cases k10:(l.getD a sm0).kind=10
 ·rw[if_pos k10]at hk
  by_cases hz:(l.getD a sm0).els=0
  ·rw[if_pos hz]at hk
   have:sz1 (l.getD a sm0)=1:=by unfold sz1;rw[if_neg k1,if_pos k10,if_neg (by omega)]
   have:=h1 _ _ hk
   omega
  ·rw[if_neg hz,z'X]at hk
   have:sz1 (l.getD a sm0)=2:=by unfold sz1;rw[if_neg k1,if_pos k10,if_pos (by omega)]
   rcases hk with hk|hk
   ·have:=h1 _ _ hk
    omega
   ·have:=h2 _ _ hk
    omega
 ·rw[if_neg k10]at hk;cases hk
theorem ZgS (l:List Sm): ∀(f a b:Nat),b-a≤f→wh l a b=true→ ∀h k,k∈bkA l a b h→h≤k∧k<h+szF l a b
 |0,a,b,h1,_,h,k,hk=>by rw[v'9 (by omega)]at hk;cases hk
 |f+1,a,b,h1,hw,h,k,hk=>by
  rcases z'g a b with hb|hb
  case inr=>rw[v'9 hb]at hk;cases hk
  obtain⟨q1,q2,q3,q4⟩:=v'l hb hw
  have e1:mdS (l.getD a sm0) a=a+1+(l.getD a sm0).body.toNat:=rfl
  have e2:eeS (l.getD a sm0) a=a+1+(l.getD a sm0).body.toNat+(l.getD a sm0).els.toNat:=rfl
  have hm:=x'v (l:=l) (a:=a) (m:=eeS (l.getD a sm0) a) (b:=b) (by omega) (by omega)
  rw[Zbv hb hw,z'X]at hk
  rcases hk with hk|hk
  ·have:=Zsf ⟨q1.1,q1.2.1⟩ (fun h k hk=>ZgS l f _ _ (by omega) q2 h k hk) (fun h k hk=>ZgS l f _ _ (by omega) q3 h k hk) hk
   omega
  ·have:=ZgS l f _ _ (by omega) q4 _ _ hk
   omega
theorem Zlo {l:List Sm} {a h:Nat} (hb:0≤(l.getD a sm0).body∧0≤(l.getD a sm0).els) (h1: ∀h,(bkA l (a+1) (mdS (l.getD a sm0) a) h).length≤szF l (a+1) (mdS (l.getD a sm0) a))
  (h2: ∀h,(bkA l (mdS (l.getD a sm0) a) (eeS (l.getD a sm0) a) h).length≤szF l (mdS (l.getD a sm0) a) (eeS (l.getD a sm0) a)):(bk1 (bkA l) l a h).length≤szF l a (eeS (l.getD a sm0) a):=by
 have e1:mdS (l.getD a sm0) a=a+1+(l.getD a sm0).body.toNat:=rfl
 have e2:eeS (l.getD a sm0) a=a+1+(l.getD a sm0).body.toNat+(l.getD a sm0).els.toNat:=rfl
 have hs:szF l a (eeS (l.getD a sm0) a)=sz1 (l.getD a sm0)+(szF l (a+1) (mdS (l.getD a sm0) a)+szF l (mdS (l.getD a sm0) a) (eeS (l.getD a sm0) a)):=by
  rw[x'v (m:=a+1) (by omega) (by omega),x'v (a:=a+1) (m:=mdS (l.getD a sm0) a) (by omega) (by omega),x'5 (z'c a),x'L (z'c a),z'5]
 rw[hs]
 unfold bk1
 by_cases k1:(l.getD a sm0).kind=1
 ·rw[if_pos k1];exact z'm _
 rw[if_neg k1]
 by_cases k13:(l.getD a sm0).kind=13
 ·rw[if_pos k13,List.length_singleton]
  have:sz1 (l.getD a sm0)=1:=by unfold sz1;rw[if_neg k1,if_neg (by omega),if_neg (by omega)]
  omega
 rw[if_neg k13]
 by_cases k10:(l.getD a sm0).kind=10
 ·rw[if_pos k10]
  by_cases hz:(l.getD a sm0).els=0
  ·rw[if_pos hz]
   have:=h1 (h+1)
   omega
  ·rw[if_neg hz,z'e]
   have g1:=h1 (h+1)
   have g2:=h2 (h+2+szF l (a+1) (mdS (l.getD a sm0) a))
   omega
 ·rw[if_neg k10];exact z'm _
theorem ZaP (l:List Sm): ∀(f a b:Nat),b-a≤f→wh l a b=true→ ∀h,(bkA l a b h).length≤szF l a b
 |0,a,b,h1,_,h=>by rw[v'9 (by omega)];exact z'm _
 |f+1,a,b,h1,hw,h=>by
  rcases z'g a b with hb|hb
  case inr=>rw[v'9 hb];exact z'm _
  obtain⟨q1,q2,q3,q4⟩:=v'l hb hw
  have e1:mdS (l.getD a sm0) a=a+1+(l.getD a sm0).body.toNat:=rfl
  have e2:eeS (l.getD a sm0) a=a+1+(l.getD a sm0).body.toNat+(l.getD a sm0).els.toNat:=rfl
  have hm:=x'v (l:=l) (a:=a) (m:=eeS (l.getD a sm0) a) (b:=b) (by omega) (by omega)
  rw[Zbv hb hw,z'e]
  have g1:=Zlo (h:=h) ⟨q1.1,q1.2.1⟩ (fun h=>ZaP l f _ _ (by omega) q2 h) (fun h=>ZaP l f _ _ (by omega) q3 h)
  have g2:=ZaP l f _ _ (show b-eeS (l.getD a sm0) a≤f by omega) q4 (h+szF l a (eeS (l.getD a sm0) a))
  omega
theorem ZhF (n:Int): ∀(ks:List Nat) (r:List Ins),(w'9 r ks n).length=r.length
 |[],r=>rfl
 |k::ks,r=>by
  have:=ZhF n ks (Zay r k n)
  rw[Zdn]at this
  exact this
theorem Zlf {r:List Ins} {ks:List Nat} {n:Int} {j:Nat} {k:Nat} (h:ks[j]?=some k):w'9 r (ks.take (j+1)) n=Zay (w'9 r (ks.take j) n) k n:=by
 rw[List.take_add_one,h,Option.toList_some,ZeI]
 rfl
end Go.Proofs.YthlkpnjjkgmlkaaGreat
