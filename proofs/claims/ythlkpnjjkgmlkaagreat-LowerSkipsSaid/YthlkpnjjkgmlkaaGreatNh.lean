/- Contracts: statements are laid; a thread's row. No condition. -/
import Derived.Test.YthlkpnjjkgmlkaaGreatNg
import Derived.Test.YthlkpnjjkgmlkaaGreatLu
import Derived.Test.YthlkpnjjkgmlkaaGreatQh
import Derived.Test.YthlkpnjjkgmlkaaGreatNv
namespace Go.Proofs.YthlkpnjjkgmlkaaGreat
set_option maxHeartbeats 16000000
set_option linter.unusedSimpArgs false
set_option linter.unusedVariables false
set_option maxRecDepth 20000
open Go Go.Proofs Go.Vc
attribute [local irreducible] x'r VCg VCw VCx
theorem Zr8 (y:Yl) (hy:YOk y) (n:Nat) (hP:Zi4 y n) (b0 a:Nat) (lv:Option Lw) (g:G) (r:List Ins) (x:Sm) (hx:y.l.getD a sm0=x) (ha:a<y.l.length) (hb:0≤x.body∧0≤x.els) (he:eeS x a≤y.l.length) (hn:eeS x a-(a+1)≤n)
  (hw1:wh y.l (a+1) (mdS x a)=true) (hw2:wh y.l (mdS x a) (eeS x a)=true) (hg:gOk g r.length) (hr:r.length+szF y.l a (eeS x a)≤40000) (hv:LvB lv (szF y.l a (eeS x a))) (hB:lv=none→bk1 (bkA y.l) y.l a r.length=[]):
  Fun Tryz.prog 112 [ptB b0,iD (a:Nat),lvD lv] (yH b0 y g r (lvX b0 lv [])) false (Zff y b0 a lv r):=by
 have hN:=hy.noB x (hx▸z'8 ha)
 by_cases k1:x.kind=1
 ·exact Zp1 y hy b0 a lv g r x hx ha hb he hg hr hv k1
 by_cases k13:x.kind=13
 ·exact Zoh y hy b0 a lv g r x hx ha hb he hg hr hv hB k13 (hN.1 (by rw[k13];rfl))
 by_cases k10:x.kind=10
 ·by_cases hz:x.els=0
  ·exact ZsP y hy n hP b0 a lv g r x hx ha hb he hn hw1 hw2 hg hr hv hB k10 hz
  ·exact ZpZ y hy n hP b0 a lv g r x hx ha hb he hn hw1 hw2 hg hr hv hB k10 hz
 have hz:=hN.2 k10
 by_cases k11:x.kind=11
 ·exact Zok y hy n hP b0 a lv g r x hx ha hb he hn hw1 hw2 hg hr hv hB k11 hz
 by_cases k12:x.kind=12
 ·exact Zp0 y hy n hP b0 a lv g r x hx ha hb he hn hw1 hw2 hg hr hv hB k12 hz
 ·exact Zoi y hy n hP b0 a lv g r x hx ha hb he hn hw1 hw2 hg hr hv hB k1 k13 k10 k11 k12
theorem ZrE {y:Yl} (hy:YOk y) {a h:Nat} (ha:a<y.l.length) (q1:0≤(y.l.getD a sm0).els) (he:eeS (y.l.getD a sm0) a≤y.l.length) (q2:wh y.l (a+1) (mdS (y.l.getD a sm0) a)=true) (q3:wh y.l (mdS (y.l.getD a sm0) a) (eeS (y.l.getD a sm0) a)=true):
  (w'b y a h).length=szF y.l a (eeS (y.l.getD a sm0) a):=by
 have e1:mdS (y.l.getD a sm0) a=a+1+(y.l.getD a sm0).body.toNat:=rfl
 have e2:eeS (y.l.getD a sm0) a=a+1+(y.l.getD a sm0).body.toNat+(y.l.getD a sm0).els.toNat:=rfl
 have hN:=hy.noB _ (z'8 (d:=sm0) ha)
 exact ZdW hN.1 hN.2 q1 (fun h o=>x'q _ _ _ hy.noB _ _ _ h o (z'c _) (by omega) q2) (fun h o=>x'q _ _ _ hy.noB _ _ _ h o (z'c _) he q3)
theorem Zqi (y:Yl) (hy:YOk y) (n:Nat):Zi4 y n:=by
 induction n using Nat.strongRecOn with
 |_ n ih=>
 intro b0 a b lv g r hn hb hw hg hr hv hB
 have hyl:=hy.len
 refine Fun.of T [] Tryz.func61 rfl Tryz.ntmps61 Tryz.results61 rfl (by kernel_rfl) ?_
 repeat' refine st rfl ?_
 refine VC.loop {p:Nat×G×Option Lw×List Ins×List Nat//((a≤p.1∧(p.1≤b∨p.1=a))∧wh y.l p.1 b=true∧gOk p.2.1 p.2.2.2.1.length)∧(p.2.2.2.1++rwA y.l y.regs y.locs p.1 b p.2.2.2.1.length 0=r++rwA y.l y.regs y.locs a b r.length 0∧p.2.2.2.2++bkA y.l p.1 b p.2.2.2.1.length=bkA y.l a b r.length)∧(ResLv p.2.2.2.2 lv p.2.2.1∧LvB p.2.2.1 (szF y.l p.1 b))∧p.2.2.2.1.length+szF y.l p.1 b=r.length+szF y.l a b}
  (fun p=>⟨z'0 [(0,ptB b0),(1,iD (p.1.1:Nat)),(2,iD (b:Nat)),(3,lvD lv)],yH b0 y p.1.2.1 p.1.2.2.2.1 (lvX b0 p.1.2.2.1 [])⟩) (fun p=>b-p.1.1) ⟨(a,g,lv,r,[]),⟨⟨z'c _,.inr rfl⟩,hw,hg⟩,⟨rfl,rfl⟩,⟨ResLv.nil fun v h=>(hv v h).1,hv⟩,rfl⟩ ?_ ?_
 ·refine z'O rfl ?_
  simp[sub,upd]
  exact⟨rfl,rfl,rfl,rfl⟩
 rintro⟨⟨c,g1,lv1,r1,dn⟩,⟨⟨hc1,hc2⟩,hcw,hcg⟩,⟨hcr,hcb⟩,⟨hcR,hcv⟩,hcs⟩
 dsimp only at hc1 hc2 hcw hcg hcr hcb hcR hcv hcs⊢
 rcases z'g c b with hlt|hge
 ·obtain⟨q1,q2,q3,q4⟩:=v'l hlt hcw
  have e1:mdS (y.l.getD c sm0) c=c+1+(y.l.getD c sm0).body.toNat:=rfl
  have e2:eeS (y.l.getD c sm0) c=c+1+(y.l.getD c sm0).body.toNat+(y.l.getD c sm0).els.toNat:=rfl
  have hm:=x'v (l:=y.l) (a:=c) (m:=eeS (y.l.getD c sm0) c) (b:=b) (by omega) (by omega)
  have hol:=ZrE hy (h:=r1.length) (show c<y.l.length by omega) q1.2.1 (by omega) q2 q3
  have hbl:=Zlo (h:=r1.length) ⟨q1.1,q1.2.1⟩ (fun h=>ZaP y.l _ _ _ (z'c _) q2 h) (fun h=>ZaP y.l _ _ _ (z'c _) q3 h)
  have hB1:lv1=none→bk1 (bkA y.l) y.l c r1.length=[]:=fun h=>by
   subst h
   cases lv with
   |some w=>exact hcR.elim
   |none=>
    have:=hB rfl
    rw[←hcb,Zbv hlt hcw]at this
    exact(List.append_eq_nil_iff.1 (List.append_eq_nil_iff.1 this).2).1
  have c1:=Zr8 y hy (n-1) (ih (n-1) (by omega)) b0 c lv1 g1 r1 _ rfl (by omega) ⟨q1.1,q1.2.1⟩ (by omega) (by omega) q2 q3 hcg (by omega) (fun v h=>⟨(hcv v h).1,by have:=(hcv v h).2;omega⟩) hB1
  have hlv:=hcR.val
  rw[hlv]at c1
  have hd:decide ((c:Int)<(b:Int))=true:=decide_eq_true (by omega)
  repeat' first|refine vs T rfl fun K hK=>?_;(try simp (disch:=omega) only[go_sem,Nat.reduceBEq,hd]);(first|refine hK _ _ ?_;clear hK K|skip)|refine st rfl ?_|refine sc rfl ?_|refine nl ?_
  refine Op1.cally (Hr:=[]) rfl rfl c1 rfl (by rw[z'u]) (fun x hx=>?_)
  obtain⟨g2,lv2⟩:=x
  obtain⟨hg2,hR2⟩:=hx
  dsimp only at hg2 hR2⊢
  refine hK _ _ ?_
  clear hK K
  rw[z'u]
  repeat' first|refine mq0 ?_|fail
  rw[ZbI hlt hcw, ←List.append_assoc]at hcr
  rw[Zbv hlt hcw, ←List.append_assoc]at hcb
  have hol':(r1++w'b y c r1.length).length=r1.length+szF y.l c (eeS (y.l.getD c sm0) c):=by rw[z'e,hol]
  refine⟨⟨(eeS (y.l.getD c sm0) c,g2,lv2,r1++w'b y c r1.length,dn++bk1 (bkA y.l) y.l c r1.length),⟨⟨by dsimp only;omega,.inl (by dsimp only;omega)⟩,q4,hg2⟩,⟨?_,?_⟩,⟨hcR.app hR2,?_⟩,?_⟩,z'O rfl ?_,by dsimp only;omega⟩
  ·dsimp only
   rw[z'e]
   exact hcr
  ·dsimp only
   rw[hol']
   exact hcb
  ·intro v hv2
   cases lv1 with
   |none=>cases lv2 with
    |none=>cases hv2
    |some w=>exact hR2.elim
   |some u=>
    cases hv2
    obtain⟨_,_,k3,zs,k4,k5⟩:=hR2
    have hu:=(hcv u rfl).2
    refine⟨k3,?_⟩
    rw[k5,z'e,List.length_zip]
    dsimp only
    omega
  ·dsimp only
   omega
  ·simp[sub,upd]
 ·have hd:decide ((c:Int)<(b:Int))=false:=decide_eq_false (by omega)
  repeat' first|refine mq1 @hd ?_|fail
  rw[v'N hge,z'u]at hcr
  rw[v'9 hge,z'u]at hcb
  subst hcr hcb
  exact ZcN T rfl (z'n _) ⟨(g1,lv1),⟨hcg,hcR⟩,rfl,rfl⟩
abbrev dnI:Ins:=⟨22,0,0,[],[],false,0⟩
theorem Ztu {b:Nat}:FzL [] [ptB b,.agg (insR dnI)] [ptB b,.agg [iD 22,iD 0,iD 0,.gs none 0,.gs none 0,bD false,iD 0]]:=
 y'f (Fz.refl _ _) (y'f ⟨_,rfl,y'f (Fz.refl _ _) (y'f (Fz.refl _ _) (y'f (Fz.refl _ _) (y'f x'I (y'f x'I (FzL.refl _ _)))))⟩ Zak)
theorem Ztn {l:List Sm} (hO:OkS l) (hB:smB l=true) {regs locs:List ByteArray} (hr:regs.length≤1000) (hlc:locs.length≤1000) (hc:ZdD regs):YOk ⟨l,regs,locs⟩:=
 ⟨hO.1,hO,(Zbq hB).2.2.1,hr,hlc,hc⟩
theorem Zhn (l:List Sm) (hO:OkS l) (hB:smB l=true) (regs locs:List ByteArray) (hr:regs.length≤1000) (hlc:locs.length≤1000) (hc:ZdD regs) (hbk:bkA l 0 l.length 0=[]):Pure Tryz.prog 18 [x'E l,x't regs,x't locs] (.sl false 7 (y'Y (thI l regs locs))):=by
 obtain⟨b1,b2,b3,b4⟩:=Zbq hB
 have hz:=ZdX l 0 l.length
 rw[z'5]at hz
 have hL:=x'q l regs locs b3 _ 0 l.length 0 0 (z'c _) (z'c _) b2
 have hy:=Ztn hO hB hr hlc hc
 refine ZkK ?_
 refine Fun.of T [.tmp 6] Tryz.func18 rfl Tryz.ntmps18 Tryz.results18 rfl (by kernel_rfl) ?_
 repeat' first|refine vs T rfl fun K hK=>?_;(try simp (disch:=omega) only[go_sem,Nat.reduceBEq,Nat.reduceAdd,x'C]);(first|refine hK _ _ ?_;clear hK K|intro bq hbq;(try simp only[HB]at hbq);refine hK _ _ ?_;clear hK K|skip)|refine st rfl ?_|refine nl ?_
 have c1:=Zqi ⟨l,regs,locs⟩ hy l.length bq 0 l.length none none [] (Nat.sub_le _ _) (z'c _) b2 rfl (by show 0+szF l 0 l.length≤40000;omega) (fun v h=>by cases h) (fun _=>hbk)
 refine Op1.cally (Hp:=yH bq ⟨l,regs,locs⟩ none [] []) (Hr:=[]) rfl rfl c1 rfl (by rw[z'u];exact y't _) (fun x hx=>?_)
 obtain⟨g2,lv2⟩:=x
 obtain⟨hg2,hR2⟩:=hx
 dsimp only at hg2 hR2⊢
 rw[show bkA l 0 l.length ([]:List Ins).length=[] from hbk]at hR2
 cases lv2 with
 |some w=>exact hR2.elim
 |none=>
 rw[y'h]at hg2⊢
 simp only[lvX,z'V]at hg2⊢
 refine hK _ _ ?_
 clear hK K
 rw[z'u]
 repeat' first|refine vs T rfl fun K hK=>?_;(try simp (disch:=omega) only[go_sem,Nat.reduceBEq,Nat.reduceAdd]);(first|refine hK _ _ ?_;clear hK K|skip)|refine st rfl ?_|refine nl ?_
 refine Op1.cally (Hp:=yH bq ⟨l,regs,locs⟩ g2 (rwA l regs locs 0 l.length 0 0) []) (Hr:=[]) rfl rfl (Fun.argsH (ZfY bq ⟨l,regs,locs⟩ g2 (rwA l regs locs 0 l.length 0 0) dnI (by omega)) Ztu) rfl (by rw[z'u]) (fun g3 hg3=>?_)
 refine hK _ _ ?_
 clear hK K
 rw[z'u]
 repeat' first|refine mq0 ?_|fail
 exact z'r T (z'I _ _) ⟨((y'Y (thI l regs locs)).flatten,g3),⟨InsR.all _,by rw[ZdZ,z'e];exact hg3⟩,by rw[ZdZ];rfl,by rw[ZdZ]⟩
theorem ZpH (p:Pg) (hp:v'm p):Pure Tryz.prog 56 [.agg (pgC p)] (x't (lcN p)):=by
 have hl:=hp.locs
 refine Fun.freeze (w'S (f:=fun s=>[sD s]) (fun _=>rfl) _) ?_
 refine Fun.of T [.tmp 2] Tryz.func56 rfl Tryz.ntmps56 Tryz.results56 rfl (by kernel_rfl) ?_
 repeat' first|refine vb (t:=26) rfl rfl rfl rfl ?_|refine mq1 (mqt2 @pgC.eq_1 @x'B) ?_|fail
 refine VC.loop {q:Nat×Option (Nat×Nat)//q.1≤p.locs.length∧gOk q.2 q.1} (fun q=>⟨z'0 [(3,.gs q.1.2 q.1.1),(7,Zic p.locs),(8,iD (p.locs.length:Nat)),(9,iD (q.1.1:Nat))],shp q.1.2 9 1 (v'f ((p.locs.take q.1.1).map (·.nm))).flatten []⟩) (fun q=>p.locs.length-q.1.1) ⟨(0,none),z'm _,rfl⟩ ?_ ?_
 ·refine z'O rfl ?_
  simp[sub,upd]
 rintro⟨⟨k,g⟩,hk,hg⟩
 dsimp only at hk hg⊢
 rcases z'g k p.locs.length with hlt|hge
 case inr=>
  obtain rfl:k=p.locs.length:=by omega
  rw[y'w]
  repeat' first|refine mq0 ?_|with_reducible refine z'j (fun hc=>?_) (fun hc=>?_)<;>(try simp only[decide_eq_true_eq,decide_eq_false_iff_not,z'x]at hc)<;>(try(exfalso;omega))|fail
  exact z'r T (z'n _) ⟨g,9,by show _=D.gs g (v'f (lcN p)).length;rw[x'h,lcN,z'i];rfl,rfl⟩
 have hT:=Zdh (f:=(·.nm)) lv0 hlt
 repeat' first|refine mq1 (mqt4 @w'U @lvR.eq_1 @w64 @z'b) ?_|refine mqn fun bq hbq=>?_|refine .wk ?_ ?_;focus(try omega)|refine vs T rfl fun K hK=>?_;(try simp (disch:=omega) only[go_sem,Nat.reduceBEq,Nat.reduceAdd,Nat.reduceMul,Nat.reduceLeDiff,w'U,lvR,w64,z'b]);(first|refine⟨_,_,_,_,(by repeat (first|exact Sp.here|apply Sp.cons)),?_,(by exact⟨rfl,rfl⟩),⟨by decide,?_⟩,fun g' hg'=>hK _ _ ?_⟩<;>clear hK K)|with_reducible refine z'j (fun hc=>?_) (fun hc=>?_)<;>(try simp only[decide_eq_true_eq,decide_eq_false_iff_not,z'x]at hc)<;>(try(exfalso;omega))|fail
 ·rw[v'f,w'e (f:=fun s=>[sD s]) (fun _=>rfl),z'i,z'T,v'G (by omega)]
 ·omega
 ·refine⟨⟨(k+1,g'),by dsimp only;exact⟨by omega,hg'⟩⟩,y'J (by dsimp only;rw[hT];unfold v'f;rw[w'u]) ?_,by dsimp only;omega⟩
  simp[sub,upd]
theorem Zqv {p:Pg} (h:(y'3 p).1=0) {t:Td} (ht:t∈p.ths):bkA t.body 0 t.body.length 0=[]:=by
 have hB:=Zbm (ZbW h) ht
 refine ZqU (fun k hk h13=>?_) (Zbq hB).2.1
 unfold y'3 at h
 split at h
 ·cases h
 split at h
 ·cases h
 have h1:(Zbs p).1=0:=by
  unfold z'D at h
  split at h
  ·split at h
   ·assumption
   ·rename_i q1 q2;exact absurd h q2
  ·rename_i q1;exact absurd h q1
 unfold Zbs at h1
 split at h1
 ·cases h1
 obtain⟨i,hi,rfl⟩:=List.mem_iff_getElem.1 ht
 have h2:=ZaV h1 i hi
 unfold tdE at h2
 rw[w'3 (z'k hi)]at h2
 split at h2
 ·cases h2
 split at h2
 ·cases h2
 split at h2
 ·cases h2
 split at h2
 ·cases h2
 have h3:=ZaV h2 k hk
 unfold smE at h3
 cases hl:lpB p.ths[i].body k with
 |true=>rfl
 |false=>rw[if_pos ⟨h13,hl⟩]at h3;cases h3
theorem ZeC (p:Pg) (hp:v'm p):Pure Tryz.prog 14 [.agg (pgC p)] (.tup [.agg (unC (mkU p)),iD (y'3 p).1,iD (y'3 p).2]):=by
 have hl1:=hp.locs
 have hl2:=hp.ths
 have c1:=ZoZ p hp
 have c2:=ZpH p hp
 refine Fun.fz ?_
 refine Fun.of T [.cell 2 32,.tmp 3,.tmp 4] Tryz.func14 rfl Tryz.ntmps14 Tryz.results14 rfl (by kernel_rfl) ?_
 by_cases h0:(y'3 p).1=0
 case neg=>
  have f0:((y'3 p).1 != 0)=true:=bne_iff_ne.2 h0
  rw[show mkU p=⟨0,[],[],[]⟩ by rw[mkU,if_neg h0]]
  repeat' first|refine vb (t:=26) rfl rfl rfl rfl ?_|refine mq2 @f0 c1 ?_|refine mqn fun bq hbq=>?_|fail
  try simp only[stp,w'j]
  refine Zjf T rfl (by(try simp (disch:=omega) only[hget_ne,hget_eq]);rfl) rfl rfl rfl (z'a _) ?_
  exact⟨_,rfl,y'f ⟨_,rfl,y'f (Fz.refl _ _) (y'f x'I (y'f x'I (y'f x'I Zak)))⟩ (FzL.refl _ _)⟩
 have f0:((y'3 p).1 != 0)=false:=bne_eq_false_iff_eq.2 h0
 have hB:=ZbW h0
 rw[show mkU p=⟨p.md,p.locs.map (·.n),p.ths.map (fun t=>(t.regs.length:Int)),p.ths.map fun t=>thI t.body t.regs (lcN p)⟩ by rw[mkU,if_pos h0]]
 repeat' first|refine vb (t:=26) rfl rfl rfl rfl ?_|refine mq2 (mqt3 @f0 @pgC.eq_1 @x'B) c1 ?_|refine mqn fun bq hbq=>?_|fail
 rename_i b2 _
 have hnb: ¬bq=b2:=hbq
 obtain⟨bu,rfl⟩: ∃bu,bu=bq:=⟨_,rfl⟩
 refine VC.loop {x:Nat×Option (Nat×Nat)//x.1≤p.locs.length∧gOk x.2 x.1} (fun x=>⟨z'0 [(1,.pt (pgC p)),(2,ptB b2),(7,ptB bu),(27,Zic p.locs),(28,iD (p.locs.length:Nat)),(29,iD (x.1.1:Nat))],(bu,.cells 32 4 (uMD x.1.2 none none p.md x.1.1 0))::(b2,.cells 32 4 [iD 0,.gs none 0,.gs none 0,.gs none 0])::uMW x.1.2 none none ((p.locs.take x.1.1).map (·.n)) [] []⟩) (fun x=>p.locs.length-x.1.1) ⟨(0,none),by dsimp only;exact⟨z'm _,rfl⟩⟩ ?_ ?_
 ·refine z'O rfl ?_
  simp[sub,upd,pgC]
 rintro⟨⟨k,g⟩,hk,hg⟩
 dsimp only at hk hg⊢
 rcases z'g k p.locs.length with hlt|hge
 ·have e1:decide ((k:Int)<(p.locs.length:Nat))=true:=decide_eq_true (by omega)
  have hT:(p.locs.take (k+1)).map (·.n)=(p.locs.take k).map (·.n)++[(p.locs.getD k lv0).n]:=by rw[Zae lv0 hlt,z'A];rfl
  repeat' first|refine mq1 (mqt5 @w'U @lvR.eq_1 @w64 @z'b @e1) ?_|refine mqn fun bq hbq=>?_|refine .wk ?_ ?_;focus(try omega)|refine vs T rfl fun K hK=>?_;(try simp (disch:=omega) only[go_sem,Nat.reduceBEq,Nat.reduceAdd,Nat.reduceMul,Nat.reduceLeDiff,w'U,lvR,w64,z'b,e1]);(first|refine⟨_,_,_,_,(by repeat (first|exact Sp.here|apply Sp.cons)),?_,(by exact⟨rfl,rfl⟩),⟨by decide,?_⟩,fun g' hg'=>hK _ _ ?_⟩<;>clear hK K)|fail
  ·simp;omega
  ·omega
  ·refine⟨⟨(k+1,g'),by dsimp only;exact⟨by omega,hg'⟩⟩,y'J ?_ ?_,by dsimp only;omega⟩
   ·dsimp only
    rw[hT]
    simp only[uMW,z'A,z'p,y'a]
   ·simp[sub,upd]
 obtain rfl:k=p.locs.length:=by omega
 rw[y'w]
 repeat' first|refine mq2 (mqt2 @pgC.eq_1 @y'X) c2 ?_|with_reducible refine z'j (fun hc=>?_) (fun hc=>?_)<;>(try simp only[decide_eq_true_eq,decide_eq_false_iff_not,z'x]at hc)<;>(try(exfalso;omega))|fail
 refine VC.loop {x:Nat×Option (Nat×Nat)×Option (Nat×Nat)//x.1≤p.ths.length∧gOk x.2.1 x.1∧gOk x.2.2 x.1} (fun x=>⟨z'0 [(2,ptB b2),(7,ptB bu),(10,x't (lcN p)),(44,ZkW p.ths),(45,iD (p.ths.length:Nat)),(46,iD (x.1.1:Nat))],(bu,.cells 32 4 (uMD g x.1.2.1 x.1.2.2 p.md p.locs.length x.1.1))::(b2,.cells 32 4 [iD 0,.gs none 0,.gs none 0,.gs none 0])::uMW g x.1.2.1 x.1.2.2 (p.locs.map (·.n)) ((p.ths.take x.1.1).map (fun t=>(t.regs.length:Int))) ((p.ths.take x.1.1).map fun t=>thI t.body t.regs (lcN p))⟩) (fun x=>p.ths.length-x.1.1) ⟨(0,none,none),by dsimp only;exact⟨z'm _,rfl,rfl⟩⟩ ?_ ?_
 ·refine z'O rfl ?_
  simp[sub,upd]
 rintro⟨⟨j,g2,g3⟩,hj,h2,h3⟩
 dsimp only at hj h2 h3⊢
 rcases z'g j p.ths.length with hlt|hge
 ·have e1:decide ((j:Int)<(p.ths.length:Nat))=true:=decide_eq_true (by omega)
  have hR:(p.ths.take (j+1)).map (fun t=>(t.regs.length:Int))=(p.ths.take j).map (fun t=>(t.regs.length:Int))++[((p.ths.getD j td0).regs.length:Int)]:=by rw[Zae td0 hlt,z'A];rfl
  have hC:(p.ths.take (j+1)).map (fun t=>thI t.body t.regs (lcN p))=(p.ths.take j).map (fun t=>thI t.body t.regs (lcN p))++[thI (p.ths.getD j td0).body (p.ths.getD j td0).regs (lcN p)]:=by rw[Zae td0 hlt,z'A];rfl
  have hTd:=hp.td _ (z'8 (d:=td0) hlt)
  have c3:=Zhn (p.ths.getD j td0).body hTd.2 (Zbm hB (z'8 hlt)) (p.ths.getD j td0).regs (lcN p) hTd.1 (by rw[Za1];omega) (Zlq _ hTd.1) (Zqv h0 (z'8 hlt))
  repeat' first|refine dr (id:=15) T 9 (by kernel_rfl) ?_|apply VCg.step T rfl rfl;focus((try simp (disch:=omega) only[go_sem,Nat.reduceBEq,Nat.reduceMul,Nat.reduceLeDiff]);(first|exact rfl|refine Op1.callp rfl rfl (c3) rfl ?_;exact⟨rfl,rfl⟩))|refine mq1 (mqt6 @w'V @tdR.eq_1 @x'h @w64 @z'b @e1) ?_|refine mqn fun bq hbq=>?_|refine .wk ?_ ?_;focus(try omega)|refine vs T rfl fun K hK=>?_;(try simp (disch:=omega) only[go_sem,Nat.reduceBEq,Nat.reduceAdd,Nat.reduceMul,Nat.reduceLeDiff,w'V,tdR,x'h,w64,z'b,e1]);(first|refine⟨_,_,_,_,(by repeat (first|exact Sp.here|apply Sp.cons|apply Sp.over)),?_,(by exact⟨rfl,rfl⟩),⟨by decide,?_⟩,fun g' hg'=>hK _ _ ?_⟩<;>clear hK K)|fail
  ·simp;omega
  ·omega
  ·simp;omega
  ·omega
  ·rename_i ga' hga'
   refine⟨⟨(j+1,_,_),by dsimp only;exact⟨by omega,hga',hg'⟩⟩,y'J ?_ ?_,by dsimp only;omega⟩
   ·dsimp only
    rw[hR,hC]
    simp only[uMW,z'A,z'p,y'a]
   ·simp[sub,upd]
 obtain rfl:j=p.ths.length:=by omega
 rw[y'w]
 repeat' first|refine mq0 ?_|with_reducible refine z'j (fun hc=>?_) (fun hc=>?_)<;>(try simp only[decide_eq_true_eq,decide_eq_false_iff_not,z'x]at hc)<;>(try(exfalso;omega))|fail
 refine Zjf T rfl (by(try simp (disch:=omega) only[hget_ne,hget_eq]);rfl) rfl rfl rfl (z'n _) ?_
 rw[show y'3 p=(0,0) from Zju h0]
 exact ZnN (z'i ..) (z'i ..) (z'i ..) hg h2 h3 fun x hx=>z'o _ (z'o _ hx)
end Go.Proofs.YthlkpnjjkgmlkaaGreat
