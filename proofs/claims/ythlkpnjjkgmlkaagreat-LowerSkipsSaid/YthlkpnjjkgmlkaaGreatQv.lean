/- Plain law: a Skip ahead of all and behind all, and places, make no difference. No condition. -/
import Derived.Test.YthlkpnjjkgmlkaaGreatQa
import Derived.Test.YthlkpnjjkgmlkaaGreatNf
import Derived.Test.YthlkpnjjkgmlkaaGreatYi
import Derived.Test.YthlkpnjjkgmlkaaGreatLu
import Derived.Test.YthlkpnjjkgmlkaaGreatQn
namespace Go.Proofs.YthlkpnjjkgmlkaaGreat
set_option maxHeartbeats 16000000
set_option linter.unusedSimpArgs false
set_option linter.unusedVariables false
set_option maxRecDepth 20000
open Go Go.Proofs Go.Vc
def bnN (x:Nod):Nod:={x with pl:=0}
def bnS (x:Sm):Sm:={x with e:=x.e.map bnN,f:=x.f.map bnN,pl:=0}
def skS:Sm:=⟨1,e0,e0,[],[],false,0,0,0⟩
def bnT (t:Td):Td:={t with body:=t.body.map bnS,pl:=0}
def bnL (v:Lv):Lv:={v with pl:=0}
def bnC (c:Cm):Cm:={c with e:=c.e.map bnN,pl:=0}
def bnP (p:Pg):Pg:=⟨p.md,p.locs.map bnL,p.ths.map bnT,p.cms.map bnC⟩
def skT (t:Td):Td:={t with body:=skS::(t.body++[skS])}
def skP (p:Pg):Pg:={p with ths:=p.ths.map skT}
theorem map_at {α β:Type} {f:α→β} {d:α} {e:β} (h:f d=e) (l:List α) (i:Nat):(l.map f).getD i e=f (l.getD i d):=by
 rw[z'f,z'f,z'K]
 cases l[i]? with
 |none=>exact h.symm
 |some x=>rfl
theorem bn_at (l:List Nod) (i:Nat):(l.map bnN).getD i z'J=bnN (l.getD i z'J):=map_at (f:=bnN) (d:=z'J) (e:=z'J) rfl l i
theorem bn_endW: ∀(l:List Nod) (w:Nat),y'5 (l.map bnN) w=y'5 l w
 |[],_=>rfl
 |x::r,w=>by
  rw[z'p,Zc6,Zc6]
  show(match w'K x.op with|none=>none|some n=>if w-1+n=0 then some 1 else(y'5 (r.map bnN) (w-1+n)).map (· +1))=_
  cases w'K x.op with
  |none=>rfl
  |some n=>simp only[bn_endW r]
theorem bn_drop (l:List Nod) (i w:Nat):y'5 ((l.map bnN).drop i) w=y'5 (l.drop i) w:=by rw[←List.map_drop,bn_endW]
theorem bn_deep (l:List Nod): ∀f i,x'G (l.map bnN) f i=x'G l f i
 |0,_=>rfl
 |f+1,i=>by
  unfold x'G
  have h:w'v (x'G (l.map bnN) f) (l.map bnN)=w'v (x'G l f) l:=by
   funext p
   unfold w'v
   rw[bn_deep l f,bn_drop]
  rw[h,bn_at];rfl
theorem bn_nd {x:Nod} (h:ndB x=true):ndB (bnN x)=true:=by
 unfold ndB at h⊢
 rw[z'd]at h⊢
 exact⟨decide_eq_true (Int.le_refl 0),h.2⟩
theorem bn_ex {l:List Nod} (h:exB l=true):exB (l.map bnN)=true:=by
 simp only[exB,z'd,decide_eq_true_eq,z'l,z'i]at h⊢
 refine⟨h.1,h.2.1,?_,fun x hx=>?_,?_⟩
 ·rw[←h.2.2.1]
  unfold v'U
  rw[bn_drop]
 ·obtain⟨y,hy,rfl⟩:=z'w.1 hx
  exact bn_nd (h.2.2.2.1 y hy)
 ·rw[bn_deep];exact h.2.2.2.2
theorem bn_nms (l:List Nod):y'R (l.map bnN)=(y'R l).map bnN:=by
 unfold y'R
 rw[List.filter_map]
 rfl
theorem bn_pl {l:List Nod} (h:plB l=true):plB (l.map bnN)=true:=by
 simp only[plB,z'd]at h⊢
 refine⟨?_,bn_ex h.2⟩
 rw[bn_nms,List.all_map]
 exact h.1
theorem bn_cl {l:List Nod} (h:Za7 l=true):Za7 (l.map bnN)=true:=by
 simp only[Za7,z'd]at h⊢
 refine⟨?_,bn_ex h.2⟩
 rw[bn_nms,List.all_map]
 exact h.1
theorem bn_md (l:List Nod) (lv:List Opc): ∀f i,mdF (l.map bnN) lv f i=mdF l lv f i
 |0,_=>rfl
 |f+1,i=>by
  unfold mdF
  rw[bn_at,bn_md l lv f,bn_md l lv f,bn_drop]
  rfl
theorem bn_cd {l:List Nod} {regs:List ByteArray} (h:exB l=true):cdT (l.map bnN) regs=cdT l regs:=by
 have h1:((l.map bnN).all fun x=>(lfT regs x).isSome)=l.all fun x=>(lfT regs x).isSome:=by
  rw[List.all_map];rfl
 unfold cdT mkE
 rw[h1]
 by_cases h2:(l.all fun x=>(lfT regs x).isSome)=true
 ·rw[if_pos ⟨bn_ex h,h2⟩,if_pos ⟨h,h2⟩]
  simp only[z'i,List.map_map]
  rw[bn_md];rfl
 ·rw[if_neg fun q=>h2 q.2,if_neg fun q=>h2 q.2]
theorem bn_cd' {l:List Nod} {regs:List ByteArray} (h:plB l=true∨l.length=0):cdT (l.map bnN) regs=cdT l regs:=by
 rcases h with h|h
 ·simp only[plB,z'd]at h;exact bn_cd h.2
 ·rw[Znz h,Znz (by rw[z'i];exact h)]
theorem bn_nds {p q:Pg} (hm:q.md=p.md) {regs:List ByteArray} {l:List Nod} (h:(v'D p regs l).1=0):(v'D q regs (l.map bnN)).1=0:=by
 unfold v'D at h⊢
 have h1:=ZaV h
 rw[ZaU]
 intro i hi
 rw[z'i]at hi
 have:=h1 i hi
 unfold ndE at this⊢
 rw[bn_at,hm]
 show(if (l.getD i z'J).op=2∧ixF regs (l.getD i z'J).nm<0 then((9:Int),(0:Int))else if (l.getD i z'J).op=1∧(l.getD i z'J).n≥p.md then(11,0)else(0,0)).1=0
 split at this
 ·cases this
 ·rename_i n1
  rw[if_neg n1]
  split at this
  ·cases this
  ·rename_i n2;rw[if_neg n2]
theorem bn_one {x:Sm} (h:x'0 x=true):x'0 (bnS x)=true:=by
 unfold x'0 at h⊢
 show(match w'q x.kind with|none=>false|some p=>_)=true
 split at h
 ·cases h
 rename_i p hp
 rw[hp]
 simp only[z'd]at h⊢
 obtain⟨_,h1,h2,h3,h4,h5,h6,h7⟩:=h
 refine⟨decide_eq_true (Int.le_refl 0),h1,h2,h3,h4,?_,?_,h7⟩
 ·show(match z'S p 101 with|true=>plB (x.e.map bnN)|false=>decide ((x.e.map bnN).length=0))=true
  split at h5
  ·rename_i q;rw[q];exact bn_pl h5
  ·rename_i q;rw[q,z'i];exact h5
 ·show(match z'S p 102 with|true=>plB (x.f.map bnN)|false=>decide ((x.f.map bnN).length=0))=true
  split at h6
  ·rename_i q;rw[q];exact bn_pl h6
  ·rename_i q;rw[q,z'i];exact h6
theorem sk_one:x'0 skS=true:=by decide
structure Sf (l l':List Sm):Prop where
 at': ∀i,i<l.length→l'.getD (i+1) sm0=bnS (l.getD i sm0)
theorem md_sf (x:Sm) (a:Nat):mdS (bnS x) (a+1)=mdS x a+1:=by
 show a+1+1+x.body.toNat=a+1+x.body.toNat+1;omega
theorem ee_sf (x:Sm) (a:Nat):eeS (bnS x) (a+1)=eeS x a+1:=by
 show a+1+1+x.body.toNat+x.els.toNat=a+1+x.body.toNat+x.els.toNat+1;omega
theorem wh_sf {l l':List Sm} (hs:Sf l l'): ∀f a b,b≤l.length→whF l f a b=true→whF l' f (a+1) (b+1)=true
 |0,a,b,_,h=>by
  simp only[whF,decide_eq_true_eq]at h⊢;omega
 |f+1,a,b,hb,h=>by
  unfold whF at h⊢
  rcases z'g a b with hab|hab
  ·rw[decide_eq_false (by omega),Bool.false_or]at h⊢
   rw[hs.at' a (by omega),md_sf,ee_sf]
   simp only[z'd,z'y]at h⊢
   have hq:=Zft h.1
   have e1:mdS (l.getD a sm0) a=a+1+(l.getD a sm0).body.toNat:=rfl
   have e2:eeS (l.getD a sm0) a=a+1+(l.getD a sm0).body.toNat+(l.getD a sm0).els.toNat:=rfl
   refine⟨?_,wh_sf hs f _ _ (by omega) h.2.1,wh_sf hs f _ _ (by omega) h.2.2.1,wh_sf hs f _ _ hb h.2.2.2⟩
   have:=h.1
   unfold Zce at this⊢
   rw[show(((b+1:Nat):Int)-(a+1:Nat)-1)=(b:Int)-a-1 by omega]
   exact this
  ·rw[decide_eq_true (by omega)];rfl
theorem whA_sf {l l':List Sm} (hs:Sf l l') {a b:Nat} (hb:b≤l.length) (h:wh l a b=true):wh l' (a+1) (b+1)=true:=by
 unfold wh at h⊢
 rw[show b+1-(a+1)=b-a by omega]
 exact wh_sf hs _ _ _ hb h
theorem wh_app {l:List Sm}: ∀(n a m b:Nat),m-a≤n→wh l a m=true→wh l m b=true→a≤m→m≤b→wh l a b=true
 |n,a,m,b,hn,h1,h2,h3,h4=>by
  rcases y'K h3 with rfl|h5
  ·exact h2
  obtain⟨q1,q2,q3,q4⟩:=v'l h5 h1
  have e2:eeS (l.getD a sm0) a=a+1+(l.getD a sm0).body.toNat+(l.getD a sm0).els.toNat:=rfl
  have hbad:Zce (l.getD a sm0) ((b:Int)-a-1)=false:=by
   simp only[Zce,Bool.or_eq_false_iff,decide_eq_false_iff_not]
   omega
  rw[Znp (by omega) hbad,q2,q3]
  match n,hn with
  |0,hn=>omega
  |n+1,hn=>exact wh_app n _ m b (by omega) q4 h2 (by omega) h4
theorem tp_app {l:List Sm}: ∀(n a m b:Nat),m-a≤n→wh l a m=true→a≤m→m≤b→tp l a b=tp l a m++tp l m b
 |n,a,m,b,hn,h1,h3,h4=>by
  rcases y'K h3 with rfl|h5
  ·rw[Zcc (z'c a)];rfl
  obtain⟨q1,q2,q3,q4⟩:=v'l h5 h1
  have e2:eeS (l.getD a sm0) a=a+1+(l.getD a sm0).body.toNat+(l.getD a sm0).els.toNat:=rfl
  match n,hn with
  |0,hn=>omega
  |n+1,hn=>rw[ZfU h5,ZfU (show a<b by omega),tp_app n _ m b (by omega) q4 (by omega) h4];rfl
theorem tp_sf {l l':List Sm} (hs:Sf l l'): ∀(n a b:Nat),b-a≤n→b≤l.length→tp l' (a+1) (b+1)=(tp l a b).map (· +1)
 |n,a,b,hn,hb=>by
  rcases z'g a b with hab|hab
  ·have:=ZgU (l.getD a sm0) a
   match n,hn with
   |0,hn=>omega
   |n+1,hn=>rw[ZfU hab,ZfU (by omega),hs.at' a (by omega),ee_sf,tp_sf hs n _ b (by omega) hb];rfl
  ·rw[Zcc hab,Zcc (by omega)];rfl
theorem sdK_congr {g g':Nat→Nat→Nat} {l:List Sm}: ∀(ts:List Nat) (n:Nat),(∀t,t∈ts→g (t+1) (mdS (l.getD t sm0) t)=g' (t+1) (mdS (l.getD t sm0) t)∧g (mdS (l.getD t sm0) t) (eeS (l.getD t sm0) t)=g' (mdS (l.getD t sm0) t) (eeS (l.getD t sm0) t))→ts.foldl (sdK g l) n=ts.foldl (sdK g' l) n
 |[],_,_=>rfl
 |t::ts,n,h=>by
  rw[List.foldl_cons,List.foldl_cons]
  have:sdK g l n t=sdK g' l n t:=by
   obtain⟨h1,h2⟩:=h t z't
   unfold sdK;rw[h1,h2]
  rw[this]
  exact sdK_congr ts _ fun t ht=>h t (z'o _ ht)
theorem sdF_fuel (l:List Sm): ∀(f f' a b:Nat),b-a≤f→b-a≤f'→wh l a b=true→sdF l f a b=sdF l f' a b
 |0,0,_,_,_,_,_=>rfl
 |0,f'+1,a,b,h,_,_=>by rw[sdF,sdF,Zcc (by omega)];rfl
 |f+1,0,a,b,_,h,_=>by rw[sdF,sdF,Zcc (by omega)];rfl
 |f+1,f'+1,a,b,h1,h2,hw=>by
  unfold sdF
  refine sdK_congr _ _ fun t ht=>?_
  obtain⟨q1,q2,q3,q4,q5,q6⟩:=ZoN l _ a b (z'c _) hw t ht
  have e1:mdS (l.getD t sm0) t=t+1+(l.getD t sm0).body.toNat:=rfl
  have e2:eeS (l.getD t sm0) t=t+1+(l.getD t sm0).body.toNat+(l.getD t sm0).els.toNat:=rfl
  exact⟨sdF_fuel l f f' _ _ (by omega) (by omega) q5,sdF_fuel l f f' _ _ (by omega) (by omega) q6⟩
theorem sd_sf {l l':List Sm} (hs:Sf l l'): ∀(f a b:Nat),b≤l.length→wh l a b=true→sdF l' f (a+1) (b+1)=sdF l f a b
 |0,_,_,_,_=>rfl
 |f+1,a,b,hb,hw=>by
  unfold sdF
  rw[tp_sf hs _ a b (z'c _) hb,List.foldl_map]
  have: ∀(ts:List Nat) (n:Nat),(∀t,t∈ts→t∈tp l a b)→ts.foldl (fun x y=>sdK (sdF l' f) l' x (y+1)) n=ts.foldl (sdK (sdF l f) l) n:=by
   intro ts
   induction ts with
   |nil=>intro n _;rfl
   |cons t ts ih=>
    intro n h
    rw[List.foldl_cons,List.foldl_cons]
    obtain⟨q1,q2,q3,q4,q5,q6⟩:=ZoN l _ a b (z'c _) hw t (h t z't)
    have e1:mdS (l.getD t sm0) t=t+1+(l.getD t sm0).body.toNat:=rfl
    have e2:eeS (l.getD t sm0) t=t+1+(l.getD t sm0).body.toNat+(l.getD t sm0).els.toNat:=rfl
    have:sdK (sdF l' f) l' n (t+1)=sdK (sdF l f) l n t:=by
     unfold sdK
     rw[hs.at' t (by omega),md_sf,ee_sf,sd_sf hs f _ _ (by omega) q5,sd_sf hs f _ _ (by omega) q6]
     rfl
    rw[this]
    exact ih _ fun t ht=>h t (z'o _ ht)
  exact this _ _ fun _ h=>h
theorem sz_sf {l l':List Sm} (hs:Sf l l') (a:Nat): ∀n,a+n≤l.length→szF l' (a+1) (a+n+1)=szF l a (a+n)
 |0,_=>by rw[x'L (by omega),x'L (by omega)]
 |n+1,h=>by
  rw[←Nat.add_assoc,x'5 (l:=l') (a:=a+1) (k:=a+n+1) (by omega),x'5 (l:=l) (a:=a) (k:=a+n) (by omega),sz_sf hs a n (by omega),hs.at' (a+n) (by omega)]
  rfl
theorem szA_sf {l l':List Sm} (hs:Sf l l') {a b:Nat} (hb:b≤l.length):szF l' (a+1) (b+1)=szF l a b:=by
 rcases z'g a b with h|h
 ·have:=sz_sf hs a (b-a) (by omega)
  rwa [show a+(b-a)=b by omega]at this
 ·rw[x'L (by omega),x'L (by omega)]
theorem rw_sf {l l':List Sm} (hs:Sf l l') (hS:l.all x'0=true) (regs locs:List ByteArray): ∀(f a b h:Nat) (out:Int),b≤l.length→wh l a b=true→rwF l' regs locs f (a+1) (b+1) h out=rwF l regs locs f a b h out
 |0,_,_,_,_,_,_=>rfl
 |f+1,a,b,h,out,hb,hw=>by
  unfold rwF
  rcases z'g a b with hab|hab
  ·obtain⟨q1,q2,q3,q4⟩:=v'l hab hw
   have e1:mdS (l.getD a sm0) a=a+1+(l.getD a sm0).body.toNat:=rfl
   have e2:eeS (l.getD a sm0) a=a+1+(l.getD a sm0).body.toNat+(l.getD a sm0).els.toNat:=rfl
   rw[if_neg (by omega),if_neg (by omega)]
   have hx:=ZsQ (z'l.1 hS _ (z'8 (d:=sm0) (show a<l.length by omega)))
   have h1:rw1 (rwF l' regs locs f) l' regs locs (a+1) h out=rw1 (rwF l regs locs f) l regs locs a h out:=by
    unfold rw1
    rw[hs.at' a (by omega),md_sf,ee_sf,szA_sf hs (show mdS (l.getD a sm0) a≤l.length by omega),szA_sf hs (show eeS (l.getD a sm0) a≤l.length by omega)]
    simp only[rw_sf hs hS regs locs f (a+1) _ _ _ (show mdS (l.getD a sm0) a≤l.length by omega) q2,rw_sf hs hS regs locs f _ _ _ _ (show eeS (l.getD a sm0) a≤l.length by omega) q3]
    have c1:cdT (bnS (l.getD a sm0)).e regs=cdT (l.getD a sm0).e regs:=bn_cd' hx.1
    have c2:w'1 regs locs (bnS (l.getD a sm0))=w'1 regs locs (l.getD a sm0):=by
     unfold w'1
     rw[c1,show cdT (bnS (l.getD a sm0)).f regs=cdT (l.getD a sm0).f regs from bn_cd' hx.2];rfl
    rw[c1,c2];rfl
   rw[h1,hs.at' a (by omega),ee_sf,rw_sf hs hS regs locs f _ b _ _ hb q4]
  ·rw[if_pos hab,if_pos (by omega)]
theorem rwA_app {l:List Sm} {regs locs:List ByteArray} {out:Int}: ∀(n a m b h:Nat),m-a≤n→wh l a m=true→wh l m b=true→a≤m→m≤b→rwA l regs locs a b h out=rwA l regs locs a m h out++rwA l regs locs m b (h+(rwA l regs locs a m h out).length) out
 |n,a,m,b,h,hn,h1,h2,h3,h4=>by
  rcases y'K h3 with rfl|h5
  ·rw[v'N (z'c a)];rfl
  obtain⟨q1,q2,q3,q4⟩:=v'l h5 h1
  have e2:eeS (l.getD a sm0) a=a+1+(l.getD a sm0).body.toNat+(l.getD a sm0).els.toNat:=rfl
  match n,hn with
  |0,hn=>omega
  |n+1,hn=>
   rw[ZbI h5 h1,ZbI (show a<b by omega) (wh_app _ a m b (z'c _) h1 h2 h3 h4),rwA_app n _ m b _ (by omega) q4 h2 (by omega) h4]
   rw[z'M,z'e,Nat.add_assoc]
theorem lp_sf {l l':List Sm} (hs:Sf l l') (h0:(l'.getD 0 sm0).kind=1) {k:Nat} (hk:k≤l.length):lpB l' (k+1)=lpB l k:=by
 rw[z'9]
 simp only[lpB,List.any_eq_true,z'Q,z'd,z'1,decide_eq_true_eq]
 constructor
 ·rintro⟨i,h1,h2,h3⟩
  match i,h1,h2,h3 with
  |0,_,h2,_=>rw[h0]at h2;omega
  |i+1,h1,h2,h3=>
   rw[hs.at' i (by omega)]at h2 h3
   exact⟨i,by omega,h2,by have:((k+1:Nat):Int)≤(i+1:Nat)+(l.getD i sm0).body:=h3;omega⟩
 ·rintro⟨i,h1,h2,h3⟩
  refine⟨i+1,by omega,?_⟩
  rw[hs.at' i (by omega)]
  exact⟨h2,by show((k+1:Nat):Int)≤(i+1:Nat)+(l.getD i sm0).body;omega⟩
abbrev skL (l:List Sm):List Sm:=skS::(l.map bnS++[skS])
theorem sk_sf (l:List Sm):Sf l (skL l):=⟨fun i hi=>by
 show(l.map bnS++[skS]).getD i sm0=_
 rw[z'f,y'8 (by rw[z'i];exact hi), ←List.getD_eq_getElem?_getD]
 exact map_at (f:=bnS) (d:=sm0) (e:=sm0) rfl l i⟩
theorem sk_len (l:List Sm):(skL l).length=l.length+2:=by simp
theorem sk_last (l:List Sm):(skL l).getD (l.length+1) sm0=skS:=by
 show(l.map bnS++[skS]).getD l.length sm0=_
 rw[z'f,w'B (by rw[z'i];exact z'c _),z'i,Nat.sub_self]
 rfl
theorem sk_wh1 {l:List Sm} {a:Nat} (h:l.getD a sm0=skS):wh l a (a+1)=true:=by
 rw[Znp (Nat.lt_succ_self a) (by rw[h,show(((a+1:Nat):Int)-a-1)=0 by omega];decide),h,show mdS skS a=a+1 from rfl,show eeS skS a=a+1 from rfl,ZoT (z'c _)];rfl
theorem sk_whA {l:List Sm} (h:wh l 0 l.length=true):wh (skL l) 1 (l.length+2)=true∧wh (skL l) 1 (l.length+1)=true∧wh (skL l) 0 (l.length+2)=true:=by
 have h1:=whA_sf (sk_sf l) (z'c _) h
 have h2:=wh_app _ 1 _ _ (z'c _) h1 (sk_wh1 (sk_last l)) (by omega) (Nat.le_succ _)
 exact⟨h2,h1,wh_app _ 0 1 _ (z'c _) (sk_wh1 rfl) h2 (by omega) (by omega)⟩
theorem sk_rw1 {l:List Sm} {regs locs:List ByteArray} {a h:Nat} {out:Int} (hl:l.getD a sm0=skS):rwA l regs locs a (a+1) h out=[]:=by
 rw[ZbI (Nat.lt_succ_self a) (sk_wh1 hl),rw1,hl,if_pos (show skS.kind=1 from rfl),show eeS skS a=a+1 from rfl,v'N (z'c _)];rfl
theorem th_skip {l:List Sm} (hB:smB l=true) (regs locs:List ByteArray):thI (skL l) regs locs=thI l regs locs:=by
 simp only[smB,z'd]at hB
 obtain⟨h1,h2,h3⟩:=sk_whA hB.2.1
 have e:rwA (skL l) regs locs 0 (l.length+2) 0 0=rwA l regs locs 0 l.length 0 0:=by
  rw[rwA_app _ 0 1 _ _ (z'c _) (sk_wh1 rfl) h1 (by omega) (by omega),sk_rw1 rfl,y'h,z'V,x'W]
  rw[rwA_app _ 1 (l.length+1) _ _ (z'c _) h2 (sk_wh1 (sk_last l)) (by omega) (by omega),sk_rw1 (sk_last l),z'u]
  unfold rwA
  exact rw_sf (sk_sf l) hB.2.2.1 regs locs _ 0 l.length 0 0 (z'c _) hB.2.1
 have e':thI (skL l) regs locs=rwA (skL l) regs locs 0 (l.length+2) 0 0++[⟨22,0,0,[],[],false,0⟩]:=by
  unfold thI rwA;rw[sk_len];rfl
 rw[e',e];rfl
theorem sk_sd {l:List Sm} (h:wh l 0 l.length=true):sdF (skL l) (l.length+2) 0 (l.length+2)=sdF l l.length 0 l.length:=by
 obtain⟨h1,h2,h3⟩:=sk_whA h
 rw[sdF,tp_app _ 0 1 _ (z'c _) (sk_wh1 rfl) (by omega) (by omega),tp_app _ 1 (l.length+1) _ (z'c _) h2 (by omega) (by omega)]
 rw[ZfU (show 0<1 by omega),show eeS ((skL l).getD 0 sm0) 0=1 from rfl,Zcc (z'c _),ZfU (show l.length+1<l.length+2 by omega),sk_last,show eeS skS (l.length+1)=l.length+2 from rfl,Zcc (z'c _)]
 rw[List.foldl_append,List.foldl_append]
 show sdK (sdF (skL l) (l.length+1)) (skL l) (List.foldl (sdK (sdF (skL l) (l.length+1)) (skL l)) 0 (tp (skL l) 1 (l.length+1))) (l.length+1)=_
 have: ∀n,sdK (sdF (skL l) (l.length+1)) (skL l) n (l.length+1)=n:=fun n=>by unfold sdK;rw[sk_last];rfl
 rw[this]
 show sdF (skL l) (l.length+1+1) 1 (l.length+1)=_
 rw[sdF_fuel (skL l) _ l.length 1 (l.length+1) (by omega) (by omega) h2]
 exact sd_sf (sk_sf l) l.length 0 l.length (z'c _) h
theorem sk_sm {l:List Sm} (hB:smB l=true) (hl:l.length≤190):smB (skL l)=true:=by
 simp only[smB,z'd,decide_eq_true_eq]at hB⊢
 obtain⟨h1,h2,h3⟩:=sk_whA hB.2.1
 rw[sk_len,sk_sd hB.2.1]
 refine⟨by omega,h3,?_,hB.2.2.2⟩
 simp only[y'L,List.all_append,List.all_nil,sk_one,y'g,x'8]
 rw[List.all_map,z'l]
 exact fun x hx=>bn_one (z'l.1 hB.2.2.1 x hx)
theorem sk_sme {p q:Pg} (hm:q.md=p.md) (hn:lcN q=lcN p) {t:Td} (hz: ∀i,i<t.body.length→(smE p t i).1=0): ∀i,i<(skT (bnT t)).body.length→(smE q (skT (bnT t)) i).1=0:=by
 have hsk: ∀i,((skT (bnT t)).body.getD i sm0)=skS→(smE q (skT (bnT t)) i).1=0:=fun i h=>by
  unfold smE
  rw[h,if_neg (fun q=>absurd q.1 (by decide)),if_neg (by rintro(q|q)<;>exact absurd q.1 (by decide))]
  rfl
 intro i hi
 have hlen:(skT (bnT t)).body.length=t.body.length+2:=sk_len t.body
 rw[hlen]at hi
 match i,hi with
 |0,_=>exact hsk 0 rfl
 |i+1,hi=>
  rcases z'g i t.body.length with h1|h1
  ·have h2:=hz i h1
   have ha:(skT (bnT t)).body.getD (i+1) sm0=bnS (t.body.getD i sm0):=(sk_sf t.body).at' i h1
   have hb:lpB (skT (bnT t)).body (i+1)=lpB t.body i:=lp_sf (sk_sf t.body) rfl (Nat.le_of_lt h1)
   unfold smE at h2⊢
   rw[ha,hb,hn,show(skT (bnT t)).regs=t.regs from rfl]
   generalize t.body.getD i sm0=x at*
   split at h2
   ·cases h2
   rename_i n1
   rw[if_neg (show ¬((bnS x).kind=13∧lpB t.body i=false) from n1)]
   split at h2
   ·cases h2
   rename_i n2
   rw[if_neg (show ¬(isE (bnS x).reg=false∧ixF t.regs (bnS x).reg<0∨isE (bnS x).loc=false∧ixF (lcN p) (bnS x).loc<0) from n2)]
   obtain⟨h3,h4⟩:=ZoM h2
   unfold z'D
   rw[if_pos (show(v'D q t.regs (bnS x).e).1=0 from bn_nds hm h3)]
   exact bn_nds hm h4
  ·obtain rfl:i=t.body.length:=by omega
   exact hsk _ (sk_last t.body)
theorem th_at {p:Pg} (i:Nat) (h:i<p.ths.length):(skP (bnP p)).ths.getD i td0=skT (bnT (p.ths.getD i td0)):=by
 show((p.ths.map bnT).map skT).getD i td0=_
 rw[List.map_map,z'f,z'K,v'M h (d:=td0)];rfl
theorem sk_lcN (p:Pg):lcN (skP (bnP p))=lcN p:=by
 show(p.locs.map bnL).map (·.nm)=_
 rw[List.map_map];rfl
theorem sk_thN (p:Pg):thN (skP (bnP p))=thN p:=by
 show((p.ths.map bnT).map skT).map (·.nm)=_
 rw[List.map_map,List.map_map];rfl
theorem sk_chk {p:Pg} (h:(y'3 p).1=0) (hb: ∀t,t∈p.ths→t.body.length≤190):(y'3 (skP (bnP p))).1=0:=by
 have hlc:=sk_lcN p
 have htn:=sk_thN p
 unfold y'3 at h⊢
 split at h
 ·cases h
 rename_i hp
 split at h
 ·cases h
 rename_i hmd
 have hP:pgB p=true:=by simpa using hp
 simp only[pgB,z'd,z'l]at hP
 obtain⟨hM,hL,hT,hC⟩:=hP
 have hq:pgB (skP (bnP p))=true:=by
  simp only[pgB,z'd,z'l]
  refine⟨hM,fun v hv=>?_,fun t ht=>?_,fun c hc=>?_⟩
  ·obtain⟨w,hw,rfl⟩:=z'w.1 hv
   have:=hL w hw
   simp only[lvB,z'd]at this⊢
   exact⟨this.1,this.2.1,decide_eq_true (Int.le_refl 0)⟩
  ·obtain⟨u,hu,rfl⟩:=z'w.1 ht
   obtain⟨w,hw,rfl⟩:=z'w.1 hu
   have:=hT w hw
   simp only[tdB,z'd]at this⊢
   exact⟨this.1,sk_sm this.2.1 (hb w hw),decide_eq_true (Int.le_refl 0),this.2.2.2⟩
  ·obtain⟨w,hw,rfl⟩:=z'w.1 hc
   have:=hC w hw
   simp only[cmB,z'd]at this⊢
   exact⟨this.1,this.2.1,bn_cl this.2.2.1,decide_eq_true (Int.le_refl 0)⟩
 rw[if_neg (by rw[hq];exact Bool.noConfusion),if_neg (show ¬((skP (bnP p)).md<2∨(skP (bnP p)).md>16) from hmd)]
 obtain⟨h1,h2⟩:=ZoM h
 obtain⟨h2,h3⟩:=ZoM h2
 have g1:(ZgF (skP (bnP p))).1=0:=by
  unfold ZgF at h1⊢
  rw[ZaU]
  intro i hi
  have hi':i<p.locs.length:=by have:(skP (bnP p)).locs.length=p.locs.length:=z'i ..;omega
  have ha:(skP (bnP p)).locs.getD i lv0=bnL (p.locs.getD i lv0):=map_at (f:=bnL) (d:=lv0) (e:=lv0) rfl _ _
  have:=ZaV h1 i hi'
  unfold lcE at this⊢
  rw[ha,hlc]
  generalize p.locs.getD i lv0=v at*
  split at this
  ·cases this
  rename_i n1
  rw[if_neg n1]
  split at this
  ·cases this
  rename_i n2
  rw[if_neg (show ¬ixF (lcN p) (bnL v).nm<i from n2)]
  split at this
  ·cases this
  rename_i n3
  rw[if_neg (show ¬(bnL v).n≥(skP (bnP p)).md from n3)]
 have hthl:(skP (bnP p)).ths.length=p.ths.length:=by show((p.ths.map bnT).map skT).length=_;simp
 have g2:(Zbs (skP (bnP p))).1=0:=by
  unfold Zbs at h2⊢
  rw[hthl]
  split at h2
  ·cases h2
  rename_i n0
  rw[if_neg n0,ZaU]
  intro i hi
  have hq:=ZaV h2 i hi
  unfold tdE at hq⊢
  rw[th_at i hi,htn]
  have hTi:=hT _ (z'8 (d:=td0) hi)
  generalize p.ths.getD i td0=t at*
  split at hq
  ·cases hq
  rename_i n1
  rw[if_neg n1]
  split at hq
  ·cases hq
  rename_i n2
  rw[if_neg (show ¬ixF (thN p) (skT (bnT t)).nm<i from n2)]
  split at hq
  ·cases hq
  rename_i n3
  rw[if_neg (show ¬6<(skT (bnT t)).regs.length from n3)]
  split at hq
  ·cases hq
  rename_i n4
  rw[if_neg (show ¬(List.range (skT (bnT t)).regs.length).any (rgB (skP (bnP p)) (skT (bnT t)))=true by
   have:rgB (skP (bnP p)) (skT (bnT t))=rgB p t:=by funext k;unfold rgB;rw[hlc];rfl
   rw[this];exact n4)]
  unfold bdE at hq⊢
  rw[ZaU (sk_sme (p:=p) (q:=skP (bnP p)) rfl hlc (ZaV hq))]
 have g3:(Zgl (skP (bnP p))).1=0:=by
  unfold Zgl at h3⊢
  rw[ZaU]
  intro i hi
  have hi':i<p.cms.length:=by have:(skP (bnP p)).cms.length=p.cms.length:=z'i ..;omega
  have ha:(skP (bnP p)).cms.getD i cm0=bnC (p.cms.getD i cm0):=map_at (f:=bnC) (d:=cm0) (e:=cm0) rfl _ _
  have hq:=ZaV h3 i hi'
  unfold cmE at hq⊢
  rw[ha]
  generalize p.cms.getD i cm0=c at*
  split at hq
  ·cases hq
  rename_i n1
  rw[if_neg n1,ZaU]
  intro k hk
  have hk':k<c.e.length:=by have:(bnC c).e.length=c.e.length:=z'i ..;omega
  have hq:=ZaV hq k hk'
  have hb:(bnC c).e.getD k z'J=bnN (c.e.getD k z'J):=bn_at _ _
  unfold cnE at hq⊢
  rw[hb,hlc,htn]
  generalize c.e.getD k z'J=x at*
  split at hq
  ·cases hq
  rename_i n2
  rw[if_neg (show ¬((bnN x).op=3∧ixF (lcN p) (bnN x).nm<0) from n2)]
  split at hq
  ·cases hq
  rename_i n3
  rw[if_neg (show ¬((bnN x).op=4∧(ixF (thN p) (bnN x).inn<0∨ixF ((skP (bnP p)).ths.getD (ixF (thN p) (bnN x).inn).toNat td0).regs (bnN x).nm<0)) by
   rintro⟨r1,r2⟩
   refine n3 ⟨r1,?_⟩
   by_cases r3:ixF (thN p) x.inn<0
   ·exact .inl r3
   have:=Zhh (thN p) x.inn
   have hl:(thN p).length=p.ths.length:=z'i ..
   rw[th_at _ (by show(ixF (thN p) x.inn).toNat<_;omega)]at r2
   exact r2)]
  split at hq
  ·cases hq
  rename_i n4
  rw[if_neg (show ¬((bnN x).op=1∧(bnN x).n≥(skP (bnP p)).md) from n4)]
 unfold z'D
 rw[if_pos g1,if_pos g2]
 exact g3
theorem mkU_skip {p:Pg} (h:(y'3 p).1=0) (hb: ∀t,t∈p.ths→t.body.length≤190):mkU (skP (bnP p))=mkU p:=by
 have hP:pgB p=true:=by
  unfold y'3 at h
  split at h
  ·cases h
  ·rename_i q;simpa using q
 simp only[pgB,z'd,z'l]at hP
 unfold mkU
 rw[if_pos h,if_pos (sk_chk h hb),sk_lcN]
 have e1:(skP (bnP p)).locs.map (·.n)=p.locs.map (·.n):=by
  show(p.locs.map bnL).map (·.n)=_
  rw[List.map_map];rfl
 have e2:(skP (bnP p)).ths.map (fun t=>(t.regs.length:Int))=p.ths.map fun t=>(t.regs.length:Int):=by
  show((p.ths.map bnT).map skT).map _=_
  rw[List.map_map,List.map_map];rfl
 have e3:(skP (bnP p)).ths.map (fun t=>thI t.body t.regs (lcN p))=p.ths.map fun t=>thI t.body t.regs (lcN p):=by
  show((p.ths.map bnT).map skT).map _=_
  rw[List.map_map,List.map_map]
  refine y'N fun t ht=>?_
  have:=hP.2.2.1 t ht
  simp only[tdB,z'd]at this
  exact th_skip this.2.1 t.regs (lcN p)
 rw[e1,e2,e3]
 rfl
attribute [local irreducible] x'r VCg VCw VCx
theorem OpS.fzO {P:Program} {o:Oper} {E:Operand→D} {H H1 H':Heap} {d d':D} (h:OpS P o E H (fun d1 H2=>d1=d∧H2=H)) (hd:Fz H1 d' d) (h1: ∀b c,(b,c)∈H1→(b,c)∈H∧b∉H'.blocks) (hs:H'.Sublist H):
  OpS P o E H (fun d1 H2=>d1=d'∧H2=H'):=fun w L0 ε hi hx=>by
 refine(h w L0 ε hi hx).mono ?_
 rintro v w' ⟨d1,H2,⟨rfl,rfl⟩,hr,hi',he⟩
 refine⟨d',H',⟨rfl,rfl⟩,?_,SubH.inv hs hi',SubH.evo hs he⟩
 refine Rel.fz ⟨hi',fun b c hm=>⟨(h1 b c hm).1,fun hl=>?_⟩,fun b _ hl=>hl.imp id (SubH.blocks hs b)⟩ _ _ _ hd hr
 rcases hl with hl|hl
 ·exact hi'.apart b (z'w.2 ⟨_,(h1 b c hm).1,rfl⟩) hl
 ·exact(h1 b c hm).2 hl
theorem bnodes_ok (l:List Nod) (hl:l.length≤1000):Pure Tryz.prog 65 [y'4 l] (y'4 (l.map bnN)):=by
 refine Fun.freeze (w'S (f:=nodR) (fun _=>rfl) _) ?_
 refine Fun.of T [.tmp 2] Tryz.func65 rfl Tryz.ntmps65 Tryz.results65 rfl (by kernel_rfl) ?_
 repeat' first|refine mq0 ?_|fail
 refine VC.loop {q:Nat×Option (Nat×Nat)//q.1≤l.length∧gOk q.2 q.1} (fun q=>⟨z'0 [(0,y'4 l),(3,.gs q.1.2 q.1.1),(4,iD (q.1.1:Nat))],shp q.1.2 127 5 (ZeE ((l.take q.1.1).map bnN)).flatten []⟩) (fun q=>l.length-q.1.1) ⟨(0,none),z'm _,rfl⟩ ?_ ?_
 ·refine z'O rfl ?_
  simp[sub,upd]
 rintro⟨⟨k,g⟩,hk,hg⟩
 dsimp only at hk hg⊢
 have hfl:(ZeE ((l.take k).map bnN)).flatten.length=k*5:=by rw[ZeE,w'e (f:=nodR) (n:=5) (fun _=>rfl),z'i,z'T,v'G hk]
 rcases z'g k l.length with hlt|hge
 case inr=>
  obtain rfl:k=l.length:=by omega
  rw[y'w]
  repeat' first|refine mq1 @z'Z ?_|with_reducible refine z'j (fun hc=>?_) (fun hc=>?_)<;>(try simp only[decide_eq_true_eq,decide_eq_false_iff_not,z'x]at hc)<;>(try(exfalso;omega))|fail
  exact z'r T (z'n _) ⟨g,127,by show _=D.gs g (ZeE (l.map bnN)).length;rw[z'Z,z'i];rfl,rfl⟩
 have hT:(l.take (k+1)).map bnN=(l.take k).map bnN++[bnN (l.getD k z'J)]:=by rw[Zae z'J hlt,z'A];rfl
 generalize hx:l.getD k z'J=x at*
 repeat' first|refine mq1 (mqt6 @y's @z'Z @nodR.eq_1 @w64 @z'b @hx) ?_|refine mqn fun bq hbq=>?_|refine .wk ?_ ?_;focus(try omega)|refine vs T rfl fun K hK=>?_;(try simp (disch:=omega) only[go_sem,Nat.reduceBEq,Nat.reduceAdd,Nat.reduceMul,Nat.reduceLeDiff,y's,z'Z,nodR,w64,z'b,hx]);(first|refine⟨_,_,_,_,(by repeat (first|exact Sp.here|apply Sp.cons)),?_,(by exact⟨rfl,rfl⟩),?_,fun g' hg'=>hK _ _ ?_⟩<;>clear hK K)|with_reducible refine z'j (fun hc=>?_) (fun hc=>?_)<;>(try simp only[decide_eq_true_eq,decide_eq_false_iff_not,z'x]at hc)<;>(try(exfalso;omega))|fail
 ·exact hfl
 ·omega
 ·refine⟨⟨(k+1,g'),by dsimp only;exact⟨by omega,hg'⟩⟩,y'J (by dsimp only;rw[hT];unfold ZeE;rw[w'u];rfl) ?_,by dsimp only;omega⟩
  simp[sub,upd]
theorem r_loadT {P:Program} (T:Tab P) {o:Oper} {E:Nat→D} {K:D→Heap→Prop} {b7:Nat} {A B:Nat×HC} {X:Heap} {nm:ByteArray} {g1 g2:G} {rs:List ByteArray} {bd:List Sm} {e1 e2 t:TypeId} {m:Nat} {ax:Operand} (ho:o.op= .load 45 ax)
  (h0: ∀H,y'V H b7=some (.cells t 4 [sD nm,.gs g1 rs.length,.gs g2 m,iD 0])→opC T o (evD E) H (fun d1 H2=>d1= .agg [sD nm,.gs g1 rs.length,.gs g2 m,iD 0]∧H2=H)) (h1:gOk g1 rs.length) (h2:gOk g2 m) (hm2:m=bd.length)
  (hk:K (.agg [sD nm,x't rs,x'E bd,iD 0]) (A::B::X)):Op1 P o (evD E) ((b7,.cells t 4 [sD nm,.gs g1 rs.length,.gs g2 m,iD 0])::A::B::shp g1 e1 1 (v'f rs).flatten (shp g2 e2 9 (Zqh bd).flatten X)) K:=by
 refine⟨fun d1 H2=>d1= .agg [sD nm,x't rs,x'E bd,iD 0]∧H2=A::B::X,OpS.nod fun hn=>?_,fun d H2 ⟨q1,q2⟩=>by rw[q1,q2];exact hk⟩
 have hX: ∀Y:Heap,shp g1 e1 1 (v'f rs).flatten (shp g2 e2 9 (Zqh bd).flatten Y)=(shp g1 e1 1 (v'f rs).flatten []++shp g2 e2 9 (Zqh bd).flatten [])++Y:=fun Y=>by
  cases g1<;>cases g2<;>rfl
 rw[hX]at hn⊢
 generalize hS:shp g1 e1 1 (v'f rs).flatten []++shp g2 e2 9 (Zqh bd).flatten []=S at hn⊢
 have hn': ∀b,b∈S.blocks→b∉Heap.blocks (A::B::X):=fun b hb hx=>by
  simp only[Heap.blocks,z'p,z'A,y'O,z'v,z'X,not_or,y'S]at hn
  simp only[Heap.blocks,z'p,z'v]at hx hb
  obtain⟨_,⟨⟨_,a1,a2⟩,⟨c1,c2⟩,_,_,d3⟩⟩:=hn
  rcases hx with rfl|rfl|hx
  ·exact a1 hb
  ·exact c1 hb
  ·exact d3 b hb b hx rfl
 refine OpS.fzO (H1:=S) (Zap T (h0 _ hget_eq)) ?_ (fun b c hm=>⟨?_,hn' b (z'w.2 ⟨_,hm,rfl⟩)⟩) ?_
 ·subst hS
  refine⟨_,rfl,y'f (Fz.refl _ _) (y'f ?_ (y'f ?_ (FzL.refl _ _)))⟩
  ·exact ZgP (e:=e1) (by rw[x'h]) h1 (fun b cap hb=>y'H _ (by rw[hb];exact ZaH)) (FzR.refl _ _ (w'S (f:=fun s=>[sD s]) (fun _=>rfl) _))
  ·exact ZgP (e:=e2) (by rw[x'C];exact hm2) h2 (fun b cap hb=>x'M _ (by rw[hb];exact ZaH)) (FzR.refl _ _ (w'S (f:=smR) (fun _=>rfl) _))
 ·exact z'o _ (z'o _ (z'o _ (y'H _ hm)))
 ·exact List.Sublist.trans (List.Sublist.cons_cons _ (List.Sublist.cons_cons _ (List.sublist_append_right _ _))) (z'I _ _)
abbrev b4D (md:Int) (g1 g2 g3:G) (a b c:Nat):List D:=[iD md,.gs g1 a,.gs g2 b,.gs g3 c]
abbrev b4H (p:Pg) (g1 g2 g3:G) (a b c:Nat):Heap:=shp g1 39 3 (ZpL ((p.locs.take a).map bnL)).flatten (shp g2 45 4 (Zqp ((p.ths.take b).map bnT)).flatten (shp g3 80 3 (Zo2 ((p.cms.take c).map bnC)).flatten []))
abbrev pzH (b2:Nat):Nat×HC:=(b2,.cells 26 4 [iD 0,.gs none 0,.gs none 0,.gs none 0])
abbrev pbH (b3:Nat) (l:List D):Nat×HC:=(b3,.cells 26 4 l)
theorem lvR_fl (l:List Lv):(ZpL l).flatten.length=l.length*3:=w'e (f:=lvR) (n:=3) (fun _=>rfl) l
theorem tdR_fl (l:List Td):(Zqp l).flatten.length=l.length*4:=w'e (f:=tdR) (n:=4) (fun _=>rfl) l
theorem cmR_fl (l:List Cm):(Zo2 l).flatten.length=l.length*3:=w'e (f:=cmR) (n:=3) (fun _=>rfl) l
theorem smR_fl (l:List Sm):(Zqh l).flatten.length=l.length*9:=w'e (f:=smR) (n:=9) (fun _=>rfl) l
theorem lvRs_sn (l:List Lv) (x:Lv):(ZpL (l++[x])).flatten=(ZpL l).flatten++lvR x:=by simp[ZpL]
theorem tdRs_sn (l:List Td) (x:Td):(Zqp (l++[x])).flatten=(Zqp l).flatten++tdR x:=by simp[Zqp]
theorem cmRs_sn (l:List Cm) (x:Cm):(Zo2 (l++[x])).flatten=(Zo2 l).flatten++cmR x:=by simp[Zo2]
theorem smRs_sn (l:List Sm) (x:Sm):(Zqh (l++[x])).flatten=(Zqh l).flatten++smR x:=by simp[Zqh]
theorem retcQ {P:Program} (T:Tab P) {E:Nat→D} {H:Heap} {a:Tmp} {ty:TypeId} {Φ:D→Heap→Prop} {H':Heap} {b n:Nat} {ty':TypeId} {l:List D} (ha:E a= .is (.pointer (some ⟨b,0,none⟩))) (hb:y'V H b=some (.cells ty' n l))
  (hk:(T.get ty).known=true) (hz:(T.get ty).size=l.length) (hag:(T.get ty).agg=true) (hs:H'.Sublist H) (h:Φ (.agg l) H'):x'r T [.cell a ty] Φ .ret ⟨E,H⟩:=by
 unfold x'r
 exact⟨[.agg l],H',⟨b,ty',n,l,_,ha,x'o hb,hk,hz,by rw[hag],rfl⟩,hs,h⟩
theorem bare_ok (p:Pg) (hO:v'm p):Fun Tryz.prog 20 [.agg (pgC p)] [] false
  (fun d H'=> ∃x:G×G×G,(gOk x.1 p.locs.length∧gOk x.2.1 p.ths.length∧gOk x.2.2 p.cms.length)∧d= .agg (b4D p.md x.1 x.2.1 x.2.2 p.locs.length p.ths.length p.cms.length)∧H'=b4H p x.1 x.2.1 x.2.2 p.locs.length p.ths.length p.cms.length):=by
 have hl1:=hO.locs
 have hl2:=hO.ths
 have hl3:=hO.cms
 refine Fun.of T [.cell 2 26] Tryz.func20 rfl Tryz.ntmps20 Tryz.results20 rfl (by kernel_rfl) ?_
 repeat' first|refine vb (t:=26) rfl rfl rfl rfl ?_|refine mq1 @pgC.eq_1 ?_|refine mqn fun bq hbq=>?_|fail
 rename_i b2 _
 have hnb: ¬bq=b2:=hbq
 obtain⟨b3,rfl⟩: ∃b3,b3=bq:=⟨_,rfl⟩
 refine VC.loop {x:Nat×G//x.1≤p.locs.length∧gOk x.2 x.1} (fun x=>⟨z'0 [(1,.pt (pgC p)),(2,ptB b2),(3,ptB b3),(4,iD (x.1.1:Nat))],pbH b3 (b4D p.md x.1.2 none none x.1.1 0 0)::pzH b2::b4H p x.1.2 none none x.1.1 0 0⟩) (fun x=>p.locs.length-x.1.1) ⟨(0,none),z'm _,rfl⟩ ?_ ?_
 ·refine z'O rfl ?_
  simp[sub,upd,pgC]
 rintro⟨⟨k,g⟩,hk,hg⟩
 dsimp only at hk hg⊢
 rcases z'g k p.locs.length with hlt|hge
 ·have e1:decide ((k:Int)<(p.locs.length:Nat))=true:=decide_eq_true (by omega)
  have hT:(p.locs.take (k+1)).map bnL=(p.locs.take k).map bnL++[bnL (p.locs.getD k lv0)]:=by rw[Zae lv0 hlt,z'A];rfl
  have hfl:(ZpL ((p.locs.take k).map bnL)).flatten.length=k*3:=by rw[lvR_fl,z'i,z'T,v'G hk]
  generalize hx:p.locs.getD k lv0=v at*
  repeat' first|refine mq1 (mqt8 @w'U @x'B @lvR.eq_1 @pgC.eq_1 @w64 @z'b @e1 @hx) ?_|refine mqn fun bq hbq=>?_|refine .wk ?_ ?_;focus(try omega)|refine vs T rfl fun K hK=>?_;(try simp (disch:=omega) only[go_sem,Nat.reduceBEq,Nat.reduceAdd,Nat.reduceMul,Nat.reduceLeDiff,w'U,x'B,lvR,pgC,w64,z'b,e1,hx]);(first|refine⟨_,_,_,_,(by repeat (first|exact Sp.here|apply Sp.cons)),?_,(by exact⟨rfl,rfl⟩),?_,fun g' hg'=>hK _ _ ?_⟩<;>clear hK K)|fail
  ·exact hfl
  ·omega
  ·refine⟨⟨(k+1,g'),by dsimp only;exact⟨by omega,hg'⟩⟩,y'J ?_ ?_,by dsimp only;omega⟩
   ·dsimp only[b4H]
    rw[hT,lvRs_sn]
    rfl
   ·simp[sub,upd,pgC]
 obtain rfl:k=p.locs.length:=by omega
 repeat' first|refine mq1 (mqt2 @pgC.eq_1 @x'B) ?_|with_reducible refine z'j (fun hc=>?_) (fun hc=>?_)<;>(try simp only[decide_eq_true_eq,decide_eq_false_iff_not,z'x]at hc)<;>(try(exfalso;omega))|fail
 refine VC.loop {x:Nat×G//x.1≤p.ths.length∧gOk x.2 x.1} (fun x=>⟨z'0 [(1,.pt (pgC p)),(2,ptB b2),(3,ptB b3),(6,iD (x.1.1:Nat))],pbH b3 (b4D p.md g x.1.2 none p.locs.length x.1.1 0)::pzH b2::b4H p g x.1.2 none p.locs.length x.1.1 0⟩) (fun x=>p.ths.length-x.1.1) ⟨(0,none),z'm _,rfl⟩ ?_ ?_
 ·refine z'O rfl ?_
  simp[sub,upd,pgC]
 rintro⟨⟨i,g2⟩,hi,hg2⟩
 dsimp only at hi hg2⊢
 rcases z'g i p.ths.length with hlt|hge
 ·have e1:decide ((i:Int)<(p.ths.length:Nat))=true:=decide_eq_true (by omega)
  have hOt:=hO.td _ (z'8 (d:=td0) hlt)
  have hT:(p.ths.take (i+1)).map bnT=(p.ths.take i).map bnT++[bnT (p.ths.getD i td0)]:=by rw[Zae td0 hlt,z'A];rfl
  have hfl:(Zqp ((p.ths.take i).map bnT)).flatten.length=i*4:=by rw[tdR_fl,z'i,z'T,v'G hi]
  generalize hx:p.ths.getD i td0=t at*
  repeat' first|refine dr (id:=12) T 8 (by kernel_rfl) ?_|apply VCg.step T rfl rfl;focus((try simp (disch:=omega) only[go_sem,Nat.reduceBEq,w'V,tdR,z'b,hx]);(first|exact rfl|refine⟨?_,rfl⟩;try omega))|refine mq1 (mqt8 @w'V @y'X @tdR.eq_1 @x'h @pgC.eq_1 @z'b @e1 @hx) ?_|refine mqn fun bq hbq=>?_|refine .wk ?_ ?_;focus(try omega)|refine vs T rfl fun K hK=>?_;(try simp (disch:=omega) only[go_sem,Nat.reduceBEq,Nat.reduceAdd,Nat.reduceLeDiff,w'V,y'X,tdR,x'h,pgC,z'b,e1,hx]);(first|refine⟨_,_,_,_,(by repeat (first|apply Sp.cons|exact Sp.nil)),?_,(by exact⟨rfl,rfl⟩),⟨by decide,?_⟩,fun g' hg'=>hK _ _ ?_⟩<;>clear hK K)|fail
  ·rfl
  ·omega
  obtain⟨b7,rfl⟩: ∃x,x=bq:=⟨_,rfl⟩
  obtain⟨gr,rfl⟩: ∃x,x=g':=⟨_,rfl⟩
  have hgr:=hg'
  refine VC.loop {x:Nat×G//x.1≤t.body.length∧gOk x.2 x.1} (fun x=>⟨z'0 [(1,.pt (pgC p)),(2,ptB b2),(3,ptB b3),(6,iD (i:Nat)),(7,ptB b7),(8,iD (x.1.1:Nat))],(b7,.cells 45 4 [sD t.nm,.gs gr t.regs.length,.gs x.1.2 x.1.1,iD 0])::pbH b3 (b4D p.md g g2 none p.locs.length i 0)::pzH b2::shp gr 9 1 (v'f t.regs).flatten (shp x.1.2 50 9 (Zqh ((t.body.take x.1.1).map bnS)).flatten (b4H p g g2 none p.locs.length i 0))⟩) (fun x=>t.body.length-x.1.1) ⟨(0,none),z'm _,rfl⟩ ?_ ?_
  ·refine z'O ?_ ?_
   ·rfl
   ·simp[sub,upd,pgC]
  rintro⟨⟨j,gb⟩,hj,hgb⟩
  dsimp only at hj hgb⊢
  rcases z'g j t.body.length with hjl|hjg
  ·have e3:decide ((j:Int)<(t.body.length:Nat))=true:=decide_eq_true (by omega)
   have hTb:(t.body.take (j+1)).map bnS=(t.body.take j).map bnS++[bnS (t.body.getD j sm0)]:=by rw[Zae sm0 hjl,z'A];rfl
   have hflb:(Zqh ((t.body.take j).map bnS)).flatten.length=j*9:=by rw[smR_fl,z'i,z'T,v'G hj]
   have hOx:=hOt.2.2 _ (z'8 (d:=sm0) hjl)
   have hbl:=hOt.2.1
   generalize hy:t.body.getD j sm0=y at*
   have c1:=bnodes_ok y.e hOx.1
   have c2:=bnodes_ok y.f hOx.2
   repeat' first|refine mq2 (mqt11 @w'V @tdR.eq_1 @y'M @x'C @smR.eq_1 @pgC.eq_1 @w64 @z'b @e3 @hx @hy) (mqt2 c1 c2) ?_|refine mqn fun bq hbq=>?_|refine .wk ?_ ?_;focus(try omega)|refine vs T rfl fun K hK=>?_;(try simp (disch:=omega) only[go_sem,Nat.reduceBEq,Nat.reduceAdd,Nat.reduceMul,Nat.reduceLeDiff,w'V,tdR,y'M,x'C,smR,pgC,w64,z'b,e3,hx,hy]);(first|refine⟨_,_,_,_,(by repeat (first|exact Sp.here|apply Sp.cons|apply Sp.over)),?_,(by exact⟨rfl,rfl⟩),?_,fun g' hg'=>hK _ _ ?_⟩<;>clear hK K)|fail
   ·exact hflb
   ·omega
   ·refine⟨⟨(j+1,g'),by dsimp only;exact⟨by omega,hg'⟩⟩,y'J ?_ ?_,by dsimp only;omega⟩
    ·dsimp only
     rw[hTb,smRs_sn]
     rfl
    ·simp[sub,upd,pgC]
  obtain rfl:j=t.body.length:=by omega
  rw[y'w]
  repeat' first|refine vt rfl fun K hK=>?_;refine r_loadT T rfl (b7:=b7) (rs:=t.regs) (bd:=t.body.map bnS) (fun H hH=>(by simp (disch:=omega) only[go_sem,hH,Nat.reduceBEq,Nat.reduceAdd,Nat.reduceLeDiff,and_self])) hgr hgb (z'i _).symm ?_;refine hK _ _ ?_;clear hK K;(try simp only[updO])|refine mq1 (mqt7 @w'V @tdR.eq_1 @x'C @pgC.eq_1 @w64 @z'b @hx) ?_|refine .wk ?_ ?_;focus(try omega)|refine vs T rfl fun K hK=>?_;(try simp (disch:=omega) only[go_sem,Nat.reduceBEq,Nat.reduceAdd,Nat.reduceMul,Nat.reduceLeDiff,w'V,tdR,x'C,pgC,w64,z'b,hx]);(first|refine⟨_,_,_,_,(by repeat (first|exact Sp.here|apply Sp.cons|apply Sp.over)),?_,(by exact⟨rfl,rfl⟩),?_,fun g' hg'=>hK _ _ ?_⟩<;>clear hK K)|with_reducible refine z'j (fun hc=>?_) (fun hc=>?_)<;>(try simp only[decide_eq_true_eq,decide_eq_false_iff_not,z'x]at hc)<;>(try(exfalso;omega))|fail
  ·exact hfl
  ·omega
  ·refine⟨⟨(i+1,g'),by dsimp only;exact⟨by omega,hg'⟩⟩,z'O ?_ ?_,by dsimp only;omega⟩
   ·dsimp only[b4H]
    rw[hT,tdRs_sn]
    rfl
   ·simp[sub,upd,pgC]
 obtain rfl:i=p.ths.length:=by omega
 repeat' first|refine mq1 (mqt2 @pgC.eq_1 @y'X) ?_|with_reducible refine z'j (fun hc=>?_) (fun hc=>?_)<;>(try simp only[decide_eq_true_eq,decide_eq_false_iff_not,z'x]at hc)<;>(try(exfalso;omega))|fail
 refine VC.loop {x:Nat×G//x.1≤p.cms.length∧gOk x.2 x.1} (fun x=>⟨z'0 [(1,.pt (pgC p)),(2,ptB b2),(3,ptB b3),(10,iD (x.1.1:Nat))],pbH b3 (b4D p.md g g2 x.1.2 p.locs.length p.ths.length x.1.1)::pzH b2::b4H p g g2 x.1.2 p.locs.length p.ths.length x.1.1⟩) (fun x=>p.cms.length-x.1.1) ⟨(0,none),z'm _,rfl⟩ ?_ ?_
 ·refine z'O rfl ?_
  simp[sub,upd,pgC]
 rintro⟨⟨m,g3⟩,hm,hg3⟩
 dsimp only at hm hg3⊢
 rcases z'g m p.cms.length with hlt|hge
 ·have e1:decide ((m:Int)<(p.cms.length:Nat))=true:=decide_eq_true (by omega)
  have hOc:=hO.cm _ (z'8 (d:=cm0) hlt)
  have hT:(p.cms.take (m+1)).map bnC=(p.cms.take m).map bnC++[bnC (p.cms.getD m cm0)]:=by rw[Zae cm0 hlt,z'A];rfl
  have hfl:(Zo2 ((p.cms.take m).map bnC)).flatten.length=m*3:=by rw[cmR_fl,z'i,z'T,v'G hm]
  generalize hx:p.cms.getD m cm0=c at*
  have c1:=bnodes_ok c.e hOc
  repeat' first|refine dr (id:=25) T 17 (by kernel_rfl) ?_|apply VCg.step T rfl rfl;focus((try simp (disch:=omega) only[go_sem,Nat.reduceBEq,Nat.reduceAdd,Nat.reduceMul,Nat.reduceLeDiff,ZdO,cmR,z'b,hx]);(first|exact rfl|refine⟨?_,rfl⟩;try omega|refine Op1.callp rfl rfl (c1) rfl ?_;exact⟨rfl,rfl⟩))|refine mq1 (mqt4 @v'b @pgC.eq_1 @w64 @e1) ?_|refine vs T rfl fun K hK=>?_;(try simp (disch:=omega) only[go_sem,Nat.reduceBEq,Nat.reduceAdd,Nat.reduceLeDiff,v'b,pgC,w64,e1]);(first|refine⟨_,_,_,_,(by repeat (first|exact Sp.here|apply Sp.cons|apply Sp.over)),?_,(by exact⟨rfl,rfl⟩),?_,fun g' hg'=>hK _ _ ?_⟩<;>clear hK K)|fail
  ·exact hfl
  ·omega
  ·refine⟨⟨(m+1,g'),by dsimp only;exact⟨by omega,hg'⟩⟩,z'O ?_ ?_,by dsimp only;omega⟩
   ·dsimp only[b4H]
    rw[hT,cmRs_sn]
    rfl
   ·simp[sub,upd,pgC]
 obtain rfl:m=p.cms.length:=by omega
 repeat' first|refine mq1 (mqt2 @pgC.eq_1 @v'b) ?_|with_reducible refine z'j (fun hc=>?_) (fun hc=>?_)<;>(try simp only[decide_eq_true_eq,decide_eq_false_iff_not,z'x]at hc)<;>(try(exfalso;omega))|fail
 refine retcQ T rfl (by(try simp (disch:=omega) only[hget_ne,hget_eq]);rfl) rfl rfl rfl ((z'I _ _).trans (z'I _ _)) ?_
 exact⟨(g,g2,g3),⟨hg,hg2,hg3⟩,rfl,rfl⟩
theorem r_fzv {P:Program} (T:Tab P) {o:Oper} {E:Nat→D} {K:D→Heap→Prop} {H X:Heap} {g:G} {e:TypeId} {esz:Nat} {rows:List (List D)} {fl:List D} {ax:Operand} (ho:o.op= .move ax) (h0:opC T o (evD E) H (fun d1 H2=>d1= .gs g rows.length∧H2=H)) (hg:gOk g rows.length)
  (hz: ∀Y,FzR Y esz rows fl) (hp:H.Perm (shp g e esz fl X)) (hk:K (.sl false esz rows) X):Op1 P o (evD E) H K:=by
 refine⟨fun d1 H2=>d1= .sl false esz rows∧H2=X,OpS.nod fun hn=>?_,fun d H2 ⟨q1,q2⟩=>by rw[q1,q2];exact hk⟩
 have hX:shp g e esz fl X=shp g e esz fl []++X:=by rw[Zmd];rfl
 have hnd:(Heap.blocks (shp g e esz fl []++X)).Nodup:=by
  have:=(v'a hp).nodup_iff.1 hn
  rwa [hX]at this
 have h1:OpS P o (evD E) (shp g e esz fl []++X) (fun d1 H2=>d1= .gs g rows.length∧H2=shp g e esz fl []++X):=by
  rw[←hX]
  intro w L0 ε hi hx
  have:=Zap T h0 w L0 ε (hi.perm hp.symm) (fun y hy=>by rw[←v'1 hp];exact hx y hy)
  refine this.mono ?_
  rintro v w' ⟨d1,H2,⟨rfl,rfl⟩,hr',hi',he⟩
  exact⟨_,_,⟨rfl,rfl⟩,by rw[v'1 hp];exact hr',hi'.perm hp,he.perm hp hp⟩
 have h2:=OpS.fzO (H1:=shp g e esz fl []) (H':=X) (d':= .sl false esz rows) h1 (ZgP (e:=e) rfl hg (fun b cap hb=>by rw[hb];exact ZaH) (hz _)) (fun b c hm=>⟨y'H _ hm,ZiK hnd b (z'w.2 ⟨_,hm,rfl⟩)⟩) (List.sublist_append_right _ _)
 intro w L0 ε hi hx
 refine(h2 w L0 ε (hi.perm (hX▸hp)) (fun y hy=>by rw[v'1 (hX▸hp:H.Perm (shp g e esz fl []++X))];exact hx y hy)).mono ?_
 rintro v w' ⟨d1,H2,q1,hr',hi',he⟩
 exact⟨d1,H2,q1,hr',hi',he.perm (hX▸hp).symm (.refl _)⟩
theorem drop_consT {l:List Td} {i:Nat} (h:i<l.length):l.drop i=l.getD i td0::l.drop (i+1):=ZaR td0 h
theorem td_get: ∀{L:List Td} {k:Nat},k<L.length→(Zqp L).flatten[k*4+2]?=some (x'E (L.getD k td0).body)
 |[],_,h=>by simp at h
 |t::L,0,_=>rfl
 |t::L,k+1,h=>by
  have ih:=td_get (L:=L) (k:=k) (by simpa using h)
  show(tdR t++(Zqp L).flatten)[(k+1)*4+2]?=_
  rw[w'B (by show 4≤_;omega),show(k+1)*4+2-(tdR t).length=k*4+2 by show(k+1)*4+2-4=_;omega,ih]
  rfl
theorem td_set: ∀{L:List Td} {k:Nat} {b:List Sm},k<L.length→(Zqp L).flatten.set (k*4+2) (x'E b)=(Zqp (L.set k {L.getD k td0 with body:=b})).flatten
 |[],_,_,h=>by simp at h
 |t::L,0,b,_=>rfl
 |t::L,k+1,b,h=>by
  have ih:=td_set (L:=L) (k:=k) (b:=b) (by simpa using h)
  show(tdR t++(Zqp L).flatten).set ((k+1)*4+2) (x'E b)=tdR t++(Zqp (L.set k _)).flatten
  rw[List.set_append_right _ _ (by show 4≤_;omega),show(k+1)*4+2-(tdR t).length=k*4+2 by show(k+1)*4+2-4=_;omega,ih]
  rfl
def mixT (l:List Td) (i:Nat):List Td:=(l.take i).map skT++l.drop i
theorem mixT_len (l:List Td) (i:Nat):(mixT l i).length=l.length:=by
 unfold mixT
 rw[z'e,z'i,z'T,x'b]
 omega
theorem mixT_at {l:List Td} {i:Nat} (h:i<l.length):(mixT l i).getD i td0=l.getD i td0:=by
 unfold mixT
 have hl:((l.take i).map skT).length=i:=by rw[z'i,z'T];omega
 rw[z'f,w'B (by omega),hl,Nat.sub_self,y'2,x'W, ←List.getD_eq_getElem?_getD]
theorem mixT_set {l:List Td} {i:Nat} (h:i<l.length):(mixT l i).set i (skT (l.getD i td0))=mixT l (i+1):=by
 unfold mixT
 have hl:((l.take i).map skT).length=i:=by rw[z'i,z'T];omega
 rw[List.set_append_right _ _ (by omega),hl,Nat.sub_self,drop_consT h,Zae td0 h,z'A,z'M]
 rfl
theorem shpQ {b cap:Nat} {e:TypeId} {esz:Nat} {l:List D} {X:Heap}:shp (some (b,cap)) e esz l X=(b,.cells e (cap*esz) l)::X:=rfl
theorem hereQ {b cap:Nat} {e:TypeId} {esz:Nat} {l:List D} {X:Heap}:Sp ((b,.cells e (cap*esz) l)::X) (some (b,cap)) e esz l (fun g' l'=>shp g' e esz l' X):=Sp.here (g:=some (b,cap))
theorem lendQ {P:Program} {f:FuncId} {args args':List D} {Hp:Heap} {d0:D} (h:Fun P f args [] false (fun d H'=>d=d0∧H'=[])) (ha:FzL Hp args args'):
  Fun P f args' Hp false (fun d H'=>d=d0∧H'=[]):=by
 refine⟨h.1,fun w L0 vs hi hr=>?_⟩
 have hlet:ZeM w L0 Hp Hp (live [] L0):=⟨hi,fun b c hm=>⟨hm,fun hl=>by
  rcases hl with hl|hl
  ·exact hi.apart b (z'w.2 ⟨_,hm,rfl⟩) hl
  ·cases hl⟩,fun b _ hl=>by
  rcases hl with hl|hl
  ·exact .inl hl
  ·cases hl⟩
 have hi0:HInv w L0 []:=⟨fun b c hm=>(by cases hm),w'F,fun b hb=>(by cases hb),hi.old⟩
 refine(h.2 w L0 vs hi0 (RelL.fz hlet _ _ _ ha hr)).mono ?_
 rintro e w' ⟨v,rfl,d,H',⟨rfl,rfl⟩,h3,h4,h5⟩
 refine⟨v,rfl,d,[],⟨rfl,rfl⟩,?_,h4,⟨h5.os,h5.tape,h5.output,h5.size,fun b hb _=>h5.block b hb (by simp[Heap.blocks]),fun b hb=>by simp[Heap.blocks]at hb⟩⟩
 refine Rel.mono (Keeps.less fun b _ hl=>?_) _ _ h3
 rcases hl with(hl|hl)|hl
 ·exact .inl (.inl hl)
 ·cases hl.1
 ·simp[Heap.blocks]at hl
theorem r_fzv3 {P:Program} (T:Tab P) {o:Oper} {E:Nat→D} {K:D→Heap→Prop} {A B C:Nat×HC} {X:Heap} {g:G} {e:TypeId} {esz n:Nat} {rows:List (List D)} {fl:List D} {ax:Operand} (ho:o.op= .move ax) (hE:evD E ax= .gs g n) (hg:gOk g n) (hn:n=rows.length)
  (hz: ∀Y,FzR Y esz rows fl) (hk:K (.sl false esz rows) (A::B::C::X)):Op1 P o (evD E) (A::B::C::shp g e esz fl X) K:=by
 subst hn
 exact r_fzv (e:=e) T ho (by unfold opC;rw[ho];exact⟨hE,rfl⟩) hg hz (y'n fun a=>by simp only[y'c,y'y,y'i,y'k];omega) hk
theorem perm_b3 {A B C:Nat×HC} {g:G} {e:TypeId} {esz:Nat} {fl:List D} {X:Heap}:(shp g e esz fl (A::B::C::X)).Perm (A::B::C::shp g e esz fl X):=y'n fun a=>by
 simp only[y'c,y'y,y'i,y'k];omega
abbrev skC:List D:=[.is (.int .i64 1),.is (.string ⟨#[]⟩),.is (.string ⟨#[]⟩),.gs none 0,.gs none 0,.is (.bool false),.is (.int .i64 0),.is (.int .i64 0),.is (.int .i64 0)]
theorem fz_skC {Y:Heap}:FzR Y 9 [smR skS] skC:=
 ⟨rfl,⟨_,_,rfl,Fz.refl _ _,_,_,rfl,Fz.refl _ _,_,_,rfl,Fz.refl _ _,_,_,rfl,x'I,_,_,rfl,x'I,_,_,rfl,Fz.refl _ _,_,_,rfl,Fz.refl _ _,_,_,rfl,Fz.refl _ _,_,_,rfl,Fz.refl _ _,trivial⟩,trivial⟩
theorem fz_skT (t:Td) (Y:Heap):FzR Y 9 (Zqh (skT t).body) (skC++((Zqh t.body).flatten++skC)):=by
 show FzR Y 9 ([smR skS]++Zqh (t.body++[skS])) _
 refine Zlk _ _ _ _ fz_skC rfl ?_
 rw[show Zqh (t.body++[skS])=Zqh t.body++[smR skS] by simp[Zqh]]
 exact Zlk _ _ _ _ (FzR.refl _ _ (w'S (f:=smR) (fun _=>rfl) _)) (by rw[smR_fl,x'C]) fz_skC
theorem skT_len (t:Td):(Zqh (skT t).body).length=t.body.length+2:=by
 rw[x'C]
 show(skS::(t.body++[skS])).length=_
 rw[z'q,z'e];rfl
theorem okPg_sk {p:Pg} (hO:v'm p) (hb: ∀t,t∈p.ths→t.body.length≤60):v'm (skP (bnP p)):=by
 have hE: ∀l:List Nod,OkE l→OkE (l.map bnN):=fun l h=>by unfold OkE;rw[z'i];exact h
 refine⟨?_,?_,?_,fun t ht=>?_,fun c hc=>?_⟩
 ·show(p.locs.map bnL).length≤1000
  rw[z'i];exact hO.locs
 ·show((p.ths.map bnT).map skT).length≤1000
  rw[z'i,z'i];exact hO.ths
 ·show(p.cms.map bnC).length≤1000
  rw[z'i];exact hO.cms
 ·obtain⟨t1,h1,rfl⟩:=z'w.1 ht
  obtain⟨t2,h2,rfl⟩:=z'w.1 h1
  have h3:=hO.td _ h2
  have h4:=hb t2 h2
  refine⟨h3.1,?_,fun x hx=>?_⟩
  ·show(skS::(t2.body.map bnS++[skS])).length≤1000
   rw[z'q,z'e,z'i,List.length_singleton];omega
  ·rcases z'v.1 hx with rfl|hx
   ·exact⟨z'm _,z'm _⟩
   rcases z'X.1 hx with hx|hx
   ·obtain⟨y,hy,rfl⟩:=z'w.1 hx
    exact⟨hE _ (h3.2.2 y hy).1,hE _ (h3.2.2 y hy).2⟩
   ·rw[z'R]at hx;subst hx;exact⟨z'm _,z'm _⟩
 ·obtain⟨c1,h1,rfl⟩:=z'w.1 hc
  exact hE _ (hO.cm _ h1)
theorem pgL_bd {p:Pg} (h:pgL p=true): ∀t,t∈p.ths→t.body.length≤60:=fun t ht=>by
 simp only[pgL,z'd,decide_eq_true_eq,z'l]at h
 have h1:=h.2.2.1 t ht
 simp only[tdL,smL,z'd,decide_eq_true_eq]at h1
 exact h1.2.2.1.1
theorem fz_sk {p:Pg} {g1 g2 g3:G} {H:Heap} (h1:gOk g1 p.locs.length) (h2:gOk g2 p.ths.length) (h3:gOk g3 p.cms.length)
  (hm: ∀x,x∈shp g2 45 4 (Zqp (skP (bnP p)).ths).flatten (shp g1 39 3 (ZpL (p.locs.map bnL)).flatten (shp g3 80 3 (Zo2 (p.cms.map bnC)).flatten []))→x∈H):
  FzL H [.agg (pgC (skP (bnP p)))] [.agg (b4D p.md g1 g2 g3 p.locs.length p.ths.length p.cms.length)]:=by
 refine y'f ⟨_,rfl,y'f (Fz.refl _ _) (y'f ?_ (y'f ?_ (y'f ?_ Zak)))⟩ Zak
 ·exact ZgP (e:=39) (rows:=ZpL (p.locs.map bnL)) (by rw[x'B,z'i]) h1 (fun b c e=>hm _ (ZfM (by subst e;exact ZaH))) (FzR.refl _ _ (w'S (f:=lvR) (fun _=>rfl) _))
 ·exact ZgP (e:=45) (rows:=Zqp (skP (bnP p)).ths) (by rw[y'X];show _=((p.ths.map bnT).map skT).length;rw[z'i,z'i]) h2 (fun b c e=>hm _ (by subst e;exact ZaH)) (FzR.refl _ _ (w'S (f:=tdR) (fun _=>rfl) _))
 ·exact ZgP (e:=80) (rows:=Zo2 (p.cms.map bnC)) (by rw[v'b,z'i]) h3 (fun b c e=>hm _ (ZfM (ZfM (by subst e;exact ZaH)))) (FzR.refl _ _ (w'S (f:=cmR) (fun _=>rfl) _))
theorem lawSkips (p:Pg):Pure Tryz.prog 5 [.agg (pgC p)] (bD true):=by
 have ck:=Zhm
 have cl:=Zhr p
 refine Fun.of T [.tmp 2] Tryz.func5 rfl Tryz.ntmps5 Tryz.results5 rfl (by kernel_rfl) ?_
 cases hL:pgL p with
 |false=>
  rw[hL]at cl
  repeat' first|refine vb (t:=26) rfl rfl rfl rfl ?_|refine mq2 @pgC.eq_1 (mqt2 cl ck) ?_|exact z'r T (z'a _) ⟨rfl,rfl⟩|fail
 |true=>
 rw[hL]at cl
 have hO:=Zop hL
 have hl2:=hO.ths
 have m1:=ZeC p hO
 by_cases h0:(y'3 p).1=0
 case neg=>
  have f0:((y'3 p).1 != 0)=true:=bne_iff_ne.2 h0
  repeat' first|refine vb (t:=26) rfl rfl rfl rfl ?_|refine mq2 (mqt2 @pgC.eq_1 @f0) (mqt3 cl m1 ck) ?_|refine mqn fun bq hbq=>?_|exact z'r T (z'a _) ⟨rfl,rfl⟩|fail
 have f0:((y'3 p).1 != 0)=false:=bne_eq_false_iff_eq.2 h0
 have cb:=bare_ok p hO
 repeat' first|refine vb (t:=26) rfl rfl rfl rfl ?_|refine mq2 (mqt2 @pgC.eq_1 @f0) (mqt2 cl m1) ?_|refine mqn fun bq hbq=>?_|refine vs T rfl fun K hK=>?_;(try simp (disch:=omega) only[go_sem,Nat.reduceBEq,Nat.reduceAdd,Nat.reduceLeDiff,pgC,z'H,f0]);(first|refine Op1.callx rfl rfl (cb) rfl (fun q hq=>?_);refine hK _ _ ?_;clear hK K)|fail
 rename_i b3 _
 obtain⟨g1,g2,g3⟩:=q
 obtain⟨hg1,hg2,hg3⟩:=hq
 dsimp only at hg1 hg2 hg3
 obtain⟨b6,rfl⟩: ∃x,x=bq:=⟨_,rfl⟩
 simp only[b4H,y'w]
 refine VC.loop {i:Nat//i≤p.ths.length} (fun i=>⟨z'0 [(1,.pt (pgC p)),(3,ptB b3),(6,ptB b6),(7,iD (i.1:Nat))],pbH b6 (b4D p.md g1 g2 g3 p.locs.length p.ths.length p.cms.length)::shp g2 45 4 (Zqp (mixT (p.ths.map bnT) i.1)).flatten ((b3,.cells 32 4 (unC (mkU p)))::shp g1 39 3 (ZpL (p.locs.map bnL)).flatten (shp g3 80 3 (Zo2 (p.cms.map bnC)).flatten []))⟩) (fun i=>p.ths.length-i.1) ⟨0,z'm _⟩ ?_ ?_
 ·refine Weak.trans (Weak.perm (y'n fun a=>?_)) (z'O rfl ?_)
  ·show cnt a (pbH b6 (b4D p.md g1 g2 g3 p.locs.length p.ths.length p.cms.length)::(shp g1 39 3 (ZpL (p.locs.map bnL)).flatten (shp g2 45 4 (Zqp (p.ths.map bnT)).flatten (shp g3 80 3 (Zo2 (p.cms.map bnC)).flatten []))++[(b3,.cells 32 4 (unC (mkU p)))]))=cnt a (pbH b6 (b4D p.md g1 g2 g3 p.locs.length p.ths.length p.cms.length)::shp g2 45 4 (Zqp (p.ths.map bnT)).flatten ((b3,.cells 32 4 (unC (mkU p)))::shp g1 39 3 (ZpL (p.locs.map bnL)).flatten (shp g3 80 3 (Zo2 (p.cms.map bnC)).flatten [])))
   simp only[y'c,y'y,y'i,y'k]
   omega
  ·simp[sub,upd,pgC]
 rintro⟨i,hi⟩
 dsimp only at hi⊢
 rcases z'g i p.ths.length with hlt|hge
 ·have e1:decide ((i:Int)<(p.ths.length:Nat))=true:=decide_eq_true (by omega)
  rcases g2 with _|⟨bt,cap⟩
  ·have:p.ths.length=0:=hg2
   omega
  simp only[shpQ]
  refine VC.nodup fun hn=>?_
  simp only[Heap.blocks,z'p,y'O,z'v,not_or]at hn
  obtain⟨⟨q1,q2,q3⟩,⟨q4,q5⟩,⟨q6,_⟩⟩:=hn
  have hlm:i<(p.ths.map bnT).length:=by rw[z'i];exact hlt
  have hgt:=td_get (L:=mixT (p.ths.map bnT) i) (k:=i) (by rw[mixT_len];exact hlm)
  have hst:=fun b=>td_set (L:=mixT (p.ths.map bnT) i) (k:=i) (b:=b) (by rw[mixT_len];exact hlm)
  rw[mixT_at hlm]at hgt
  simp only[mixT_at hlm]at hst
  have htb:((p.ths.map bnT).getD i td0).body.length≤60:=by
   rw[map_at (f:=bnT) (d:=td0) (e:=td0) rfl]
   show((p.ths.getD i td0).body.map bnS).length≤60
   rw[z'i]
   exact pgL_bd hL _ (z'8 hlt)
  have hms:=mixT_set hlm
  generalize (p.ths.map bnT).getD i td0=t at*
  have e4:decide ((t.body.length:Int)>190)=false:=decide_eq_false (by omega)
  repeat' first|refine vs T rfl fun K hK=>?_;(try simp (disch:=omega) only[go_sem,Nat.reduceBEq,Nat.reduceAdd,Nat.reduceMul,Nat.reduceLeDiff,pgC,z'b,x'C,e1,e4,hgt]);(first|refine hK _ _ ?_;clear hK K|refine⟨?_,hK _ _ ?_⟩<;>clear hK K;focus(try omega)|skip)|refine st rfl ?_|refine sc rfl ?_|refine nl ?_
  refine⟨_,_,⟨rfl,rfl⟩,by omega,fun hm=>?_,fun hm bl cl hbl hcl=>?_⟩
  ·refine hK _ _ ?_
   clear hK K
   have hb0:t.body=[]:=List.length_eq_zero_iff.1 hm
   have hz0: ∀Y,FzR Y 9 (Zqh (skT t).body) (skC++skC):=fun Y=>by
    have:=fz_skT t Y
    rw[hb0]at this
    exact this
   have hn2:2=(Zqh (skT t).body).length:=by rw[skT_len,hm]
   repeat' first|refine vs T rfl fun K hK=>?_;(try simp (disch:=omega) only[go_sem,Nat.reduceBEq,Nat.reduceAdd,Nat.reduceMul,Nat.reduceLeDiff]);(first|refine hK _ _ ?_;clear hK K|skip)|refine st rfl ?_|refine nl ?_
   refine⟨_,1,⟨rfl,rfl⟩,by omega,fun h=>absurd h (by decide),fun _ bl cl hbl hcl=>hK _ _ ?_⟩
   clear hK K
   refine vo (VCo.weak (Weak.perm (perm_b3 (g:=some (bl,cl)) (e:=50) (esz:=9) (fl:=skC++skC))) (ov ?_))
   repeat' first|refine vt rfl fun K hK=>?_;refine r_fzv3 T rfl (rows:=Zqh (skT t).body) rfl hcl hn2 hz0 ?_;refine hK _ _ ?_;clear hK K;(try simp only[updO])|refine mq1 (mqt2 @w64 @z'b) ?_|refine .wk ?_ ?_;focus(try omega)|fail
   ·rw[tdR_fl,mixT_len];omega
   refine⟨⟨i+1,hlt⟩,z'O ?_ ?_,by dsimp only;omega⟩
   ·dsimp only
    rw[←hms,show skT t={t with body:=(skT t).body} from rfl, ←hst]
   ·simp[sub,upd,pgC]
  ·refine hK _ _ ?_
   clear hK K
   have hn2:1+t.body.length+1=(Zqh (skT t).body).length:=by rw[skT_len];omega
   repeat' first|refine vs T rfl fun K hK=>?_;(try simp (disch:=omega) only[go_sem,Nat.reduceBEq,Nat.reduceAdd,Nat.reduceMul,Nat.reduceLeDiff]);(first|refine hK _ _ ?_;clear hK K|skip)|refine st rfl ?_|refine nl ?_
   refine⟨_,_,_,_,hereQ,?_,⟨rfl,rfl⟩,by omega,fun g' hg'=>hK _ _ ?_⟩
   ·show(skC++(Zqh t.body).flatten).length=_
    rw[z'e,smR_fl,x'i];rfl
   clear hK K
   refine vo (VCo.weak (Weak.perm (perm_b3 (g:=g') (e:=50) (esz:=9) (fl:=skC++((Zqh t.body).flatten++skC)))) (ov ?_))
   repeat' first|refine vt rfl fun K hK=>?_;refine r_fzv3 T rfl (rows:=Zqh (skT t).body) rfl hg' hn2 (fz_skT t) ?_;refine hK _ _ ?_;clear hK K;(try simp only[updO])|refine mq1 (mqt2 @w64 @z'b) ?_|refine .wk ?_ ?_;focus(try omega)|fail
   ·rw[tdR_fl,mixT_len];omega
   refine⟨⟨i+1,hlt⟩,z'O ?_ ?_,by dsimp only;omega⟩
   ·dsimp only
    rw[←hms,show skT t={t with body:=(skT t).body} from rfl, ←hst]
   ·simp[sub,upd,pgC]
 obtain rfl:i=p.ths.length:=by omega
 have hM:mixT (p.ths.map bnT) p.ths.length=(skP (bnP p)).ths:=by
  have:p.ths.length=(p.ths.map bnT).length:=(z'i _).symm
  rw[mixT,this,y'w,List.drop_length,z'u]
  rfl
 rw[hM]
 have q2: ¬b6=b3:=fun h=>hbq (by simp[h])
 have hbd:=pgL_bd hL
 have m2:=ZeC (skP (bnP p)) (okPg_sk hO hbd)
 have hb9: ∀t,t∈p.ths→t.body.length≤190:=fun t ht=>y'b (hbd t ht) (by decide)
 rw[mkU_skip h0 hb9,sk_chk h0 hb9]at m2
 have u1:=Zli (mkU p) (Zod p hO)
 have hfz:=fz_sk (p:=p) hg1 hg2 hg3 (fun x hx=>hx)
 have e1:decide ((p.ths.length:Int)<(p.ths.length:Nat))=false:=decide_eq_false (by omega)
 repeat' first|refine vs T rfl fun K hK=>?_;(try simp (disch:=omega) only[go_sem,Nat.reduceBEq,Nat.reduceAdd,Nat.reduceLeDiff,pgC,e1]);(first|refine hK _ _ ?_;clear hK K|skip)|refine st rfl ?_|refine sc rfl ?_|refine nl ?_
 refine Op1.callG (caps:= #[]) (Hp:=shp g2 45 4 (Zqp (skP (bnP p)).ths).flatten (shp g1 39 3 (ZpL (p.locs.map bnL)).flatten (shp g3 80 3 (Zo2 (p.cms.map bnC)).flatten []))) (Hr:=[pbH b6 (b4D p.md g1 g2 g3 p.locs.length p.ths.length p.cms.length),(b3,.cells 32 4 (unC (mkU p)))]) rfl rfl rfl (lendQ m2 hfz) (y'n fun a=>by simp only[y'c,y'y,y'i,y'k];omega) (fun d' H' hd'=>?_)
 obtain⟨rfl,rfl⟩:=hd'
 simp only[y'h]
 refine hK _ _ ?_
 clear hK K
 repeat' first|refine mq3 (mqt2 u1 ck) ?_|refine mqn fun bq hbq=>?_|exact z'r T (z'a _) ⟨rfl,rfl⟩|fail
end Go.Proofs.YthlkpnjjkgmlkaaGreat
