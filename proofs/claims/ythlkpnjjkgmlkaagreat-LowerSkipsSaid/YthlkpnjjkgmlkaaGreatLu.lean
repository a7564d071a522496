/- Contracts: the reference makes a unit. No condition. -/
import Derived.Test.YthlkpnjjkgmlkaaGreatLs
namespace Go.Proofs.YthlkpnjjkgmlkaaGreat
set_option maxHeartbeats 16000000
set_option linter.unusedSimpArgs false
set_option linter.unusedVariables false
set_option maxRecDepth 20000
open Go Go.Proofs Go.Vc
attribute [local irreducible] x'r VCg VCw VCx
theorem Zbq {l:List Sm} (h:smB l=true):l.length≤200∧wh l 0 l.length=true∧NoB l∧NoR l:=by
 simp only[smB,z'd,decide_eq_true_eq]at h
 exact⟨h.1,h.2.1,Zhq h.2.2.1,ZsI h.2.2.1⟩
theorem ZbW {p:Pg} (h:(y'3 p).1=0):pgB p=true:=by
 unfold y'3 at h
 cases hp:pgB p with
 |true=>rfl
 |false=>rw[hp,if_pos rfl]at h;cases h
theorem ZnM {n:Nat} {g:Nat→Int×Int} (h:(y'A n g).1=0):y'A n g=(0,0):=ZaU (ZaV h)
theorem Zju {p:Pg} (h:(y'3 p).1=0):y'3 p=(0,0):=by
 unfold y'3 at h⊢
 split at h
 ·cases h
 ·rename_i h1
  split at h
  ·cases h
  ·rename_i h2
   rw[if_neg h1,if_neg h2]
   unfold z'D at h⊢
   split at h
   ·rename_i h3
    rw[if_pos h3]
    split at h
    ·rename_i h4
     rw[if_pos h4]
     exact ZnM h
    ·rename_i h4;exact absurd h h4
   ·rename_i h3;exact absurd h h3
theorem Zbm {p:Pg} (h:pgB p=true) {t:Td} (ht:t∈p.ths):smB t.body=true:=by
 simp only[pgB,z'd]at h
 have:=z'l.1 h.2.2.1 t ht
 simp only[tdB,z'd]at this
 exact this.2.1
theorem ZdZ (l:List Sm) (regs locs:List ByteArray):thI l regs locs=rwA l regs locs 0 l.length 0 0++[⟨22,0,0,[],[],false,0⟩]:=rfl
theorem Znh (l:List Sm) (hO:OkS l) (hB:smB l=true) (regs locs:List ByteArray) (hr:regs.length≤1000) (hlc:locs.length≤1000):Pure Tryz.prog 58 [x'E l,x't regs,x't locs] (.sl false 7 (y'Y (thI l regs locs))):=by
 obtain⟨b1,b2,b3,b4⟩:=Zbq hB
 have hz:=ZdX l 0 l.length
 rw[z'5]at hz
 have c1:=Zqc l hO b3 b4 regs locs hr hlc l.length 0 l.length 0 0 (Nat.sub_le _ _) (z'c _) b2 (by omega)
 have hL:=x'q l regs locs b3 _ 0 l.length 0 0 (z'c _) (z'c _) b2
 refine ZkK ?_
 refine Fun.of T [.tmp 6] Tryz.func58 rfl Tryz.ntmps58 Tryz.results58 rfl (by kernel_rfl) ?_
 repeat' first|refine mq1 @x'C ?_|refine vs T rfl fun K hK=>?_;(try simp (disch:=omega) only[go_sem,Nat.reduceBEq,Nat.reduceAdd,Nat.reduceMul,Nat.reduceLeDiff,x'C]);(first|refine⟨_,_,_,_,(by repeat (exact Sp.here)),?_,(by exact⟨rfl,rfl⟩),?_,fun g' hg'=>hK _ _ ?_⟩<;>clear hK K|refine Op1.callx rfl rfl (c1) rfl (fun q hq=>?_);refine hK _ _ ?_;clear hK K)|fail
 ·exact hq.1.2
 ·omega
 ·exact z'r T (z'n _) ⟨(q.1++_,g'),⟨hq.1.app InsR.dn,by rw[ZdZ,z'e];exact hg'⟩,by rw[ZdZ,z'e];rfl,rfl⟩
abbrev Zey (l:List Ins):D:= .sl false 7 (y'Y l)
theorem Zjl {H:Heap}: ∀(l:List (List Ins)),FzR H 1 (Zaj l) (l.map Zey)
 |[]=>trivial
 |b::l=>⟨rfl,⟨_,_,rfl,Fz.refl _ _,trivial⟩,Zjl l⟩
abbrev uMD (g1 g2 g3:Option (Nat×Nat)) (md:Int) (a b:Nat):List D:=[iD md,.gs g1 a,.gs g2 b,.gs g3 b]
abbrev uMW (g1 g2 g3:Option (Nat×Nat)) (I R:List Int) (C:List (List Ins)):Heap:=shp g1 3 1 (I.map iD) (shp g2 3 1 (R.map iD) (shp g3 41 1 (C.map Zey) []))
theorem ZnN {g1 g2 g3:Option (Nat×Nat)} {I R:List Int} {C:List (List Ins)} {H:Heap} {md:Int} {ds:List D} {a b:Nat} (hI:I.length=a) (hR:R.length=b) (hC:C.length=b) (h1:gOk g1 a) (h2:gOk g2 b) (h3:gOk g3 b) (hm: ∀x,x∈uMW g1 g2 g3 I R C→x∈H):
  Fz H (.tup (.agg (unC ⟨md,I,R,C⟩)::ds)) (.tup (.agg (uMD g1 g2 g3 md a b)::ds)):=by
 subst hI;subst hR
 have z1:=ZhL (e:=3) (s:=I) (H:=H) h1 fun b c e=>hm _ (by subst e;exact ZaH)
 have z2:=ZhL (e:=3) (s:=R) (g:=g2) (H:=H) h2 fun b c e=>hm _ (ZfM (by subst e;exact ZaH))
 have z3:=ZgP (e:=41) (H:=H) (g:=g3) (n:=R.length) (l:=C.map Zey) (rows:=Zaj C) (by rw[w'r,hC]) h3 (fun b c e=>hm _ (ZfM (ZfM (by subst e;exact ZaH)))) (Zjl C)
 exact⟨_,rfl,y'f ⟨_,rfl,y'f (Fz.refl _ _) (y'f z1 (y'f z2 (y'f z3 Zak)))⟩ (FzL.refl _ _)⟩
theorem Zjf {P:Program} (T:Tab P) {E:Nat→D} {H:Heap} {a t u:Tmp} {ty:TypeId} {Φ:D→Heap→Prop} {H':Heap} {b n:Nat} {ty':TypeId} {l:List D} (ha:E a= .is (.pointer (some ⟨b,0,none⟩))) (hb:y'V H b=some (.cells ty' n l))
  (hk:(T.get ty).known=true) (hz:(T.get ty).size=l.length) (hag:(T.get ty).agg=true) (hs:H'.Sublist H) (h:Φ (.tup [.agg l,E t,E u]) H'):x'r T [.cell a ty,.tmp t,.tmp u] Φ .ret ⟨E,H⟩:=by
 unfold x'r
 exact⟨[.agg l,E t,E u],H',⟨b,ty',n,l,_,ha,x'o hb,hk,hz,by rw[hag],_,rfl,_,rfl,rfl⟩,hs,h⟩
theorem ZpN (p:Pg) (hp:v'm p):Pure Tryz.prog 15 [.agg (pgC p)] (.tup [.agg (unC (mkU p)),iD (y'3 p).1,iD (y'3 p).2]):=by
 have hl1:=hp.locs
 have hl2:=hp.ths
 have c1:=ZnA p hp
 have c2:=ZcK p hp
 refine Fun.fz ?_
 refine Fun.of T [.cell 2 32,.tmp 3,.tmp 4] Tryz.func15 rfl Tryz.ntmps15 Tryz.results15 rfl (by kernel_rfl) ?_
 by_cases h0:(y'3 p).1=0
 case neg=>
  have f0:((y'3 p).1 != 0)=true:=bne_iff_ne.2 h0
  rw[show mkU p=⟨0,[],[],[]⟩ by rw[mkU,if_neg h0]]
  repeat' first|refine vb (t:=26) rfl rfl rfl rfl ?_|refine mq2 @f0 c1 ?_|refine mqn fun bq hbq=>?_|fail
  refine Zjf T rfl (by(try simp (disch:=omega) only[hget_ne,hget_eq]);rfl) rfl rfl rfl (z'a _) ?_
  exact⟨_,rfl,y'f ⟨_,rfl,y'f (Fz.refl _ _) (y'f x'I (y'f x'I (y'f x'I Zak)))⟩ (FzL.refl _ _)⟩
 have f0:((y'3 p).1 != 0)=false:=bne_eq_false_iff_eq.2 h0
 have hB:=ZbW h0
 rw[show mkU p=⟨p.md,p.locs.map (·.n),p.ths.map (fun t=>(t.regs.length:Int)),p.ths.map fun t=>thI t.body t.regs (lcN p)⟩ by rw[mkU,if_pos h0]]
 repeat' first|refine vb (t:=26) rfl rfl rfl rfl ?_|refine mq2 @f0 c1 ?_|refine mqn fun bq hbq=>?_|fail
 rename_i b2 _
 have hnb: ¬bq=b2:=hbq
 refine VC.loop {x:Nat×Option (Nat×Nat)//x.1≤p.locs.length∧gOk x.2 x.1} (fun x=>⟨z'0 [(1,.pt (pgC p)),(2,ptB b2),(7,ptB bq),(8,iD (x.1.1:Nat))],(bq,.cells 32 4 (uMD x.1.2 none none p.md x.1.1 0))::(b2,.cells 32 4 [iD 0,.gs none 0,.gs none 0,.gs none 0])::uMW x.1.2 none none ((p.locs.take x.1.1).map (·.n)) [] []⟩) (fun x=>p.locs.length-x.1.1) ⟨(0,none),by dsimp only;exact⟨z'm _,rfl⟩⟩ ?_ ?_
 ·refine z'O rfl ?_
  simp[sub,upd]
 rintro⟨⟨k,g⟩,hk,hg⟩
 dsimp only at hk hg⊢
 rcases z'g k p.locs.length with hlt|hge
 ·have e1:decide ((k:Int)<(p.locs.length:Int))=true:=decide_eq_true (by omega)
  have hT:(p.locs.take (k+1)).map (·.n)=(p.locs.take k).map (·.n)++[(p.locs.getD k lv0).n]:=by rw[Zae lv0 hlt,z'A];rfl
  repeat' first|refine dr (id:=8) T 9 (by kernel_rfl) ?_|apply VCg.step T rfl rfl;focus((try simp (disch:=omega) only[go_sem,Nat.reduceBEq,Nat.reduceMul,Nat.reduceLeDiff,w'U,lvR,z'b]);(first|exact rfl|refine⟨?_,rfl⟩;try omega))|refine mq1 (mqt3 @x'B @w64 @e1) ?_|refine vs T rfl fun K hK=>?_;(try simp (disch:=omega) only[go_sem,Nat.reduceBEq,Nat.reduceAdd,Nat.reduceLeDiff,x'B,w64,e1]);(first|refine⟨_,_,_,_,(by repeat (first|exact Sp.here|apply Sp.cons)),?_,(by exact⟨rfl,rfl⟩),⟨by decide,?_⟩,fun g' hg'=>hK _ _ ?_⟩<;>clear hK K)|fail
  ·simp;omega
  ·omega
  ·refine⟨⟨(k+1,g'),by dsimp only;exact⟨by omega,hg'⟩⟩,z'O ?_ ?_,by dsimp only;omega⟩
   ·dsimp only
    rw[hT]
    simp only[uMW,z'A,z'p,y'a]
   ·simp[sub,upd]
 obtain rfl:k=p.locs.length:=by omega
 have e1:decide ((p.locs.length:Int)<(p.locs.length:Int))=false:=decide_eq_false (by omega)
 rw[y'w]
 repeat' first|refine mq1 (mqt2 @x'B @e1) ?_|fail
 refine VC.loop {x:Nat×Option (Nat×Nat)×Option (Nat×Nat)//x.1≤p.ths.length∧gOk x.2.1 x.1∧gOk x.2.2 x.1} (fun x=>⟨z'0 [(1,.pt (pgC p)),(2,ptB b2),(7,ptB bq),(9,iD (x.1.1:Nat))],(bq,.cells 32 4 (uMD g x.1.2.1 x.1.2.2 p.md p.locs.length x.1.1))::(b2,.cells 32 4 [iD 0,.gs none 0,.gs none 0,.gs none 0])::uMW g x.1.2.1 x.1.2.2 (p.locs.map (·.n)) ((p.ths.take x.1.1).map (fun t=>(t.regs.length:Int))) ((p.ths.take x.1.1).map fun t=>thI t.body t.regs (lcN p))⟩) (fun x=>p.ths.length-x.1.1) ⟨(0,none,none),by dsimp only;exact⟨z'm _,rfl,rfl⟩⟩ ?_ ?_
 ·refine z'O rfl ?_
  simp[sub,upd]
 rintro⟨⟨j,g2,g3⟩,hj,h2,h3⟩
 dsimp only at hj h2 h3⊢
 rcases z'g j p.ths.length with hlt|hge
 ·have e1:decide ((j:Int)<(p.ths.length:Int))=true:=decide_eq_true (by omega)
  have hR:(p.ths.take (j+1)).map (fun t=>(t.regs.length:Int))=(p.ths.take j).map (fun t=>(t.regs.length:Int))++[((p.ths.getD j td0).regs.length:Int)]:=by rw[Zae td0 hlt,z'A];rfl
  have hC:(p.ths.take (j+1)).map (fun t=>thI t.body t.regs (lcN p))=(p.ths.take j).map (fun t=>thI t.body t.regs (lcN p))++[thI (p.ths.getD j td0).body (p.ths.getD j td0).regs (lcN p)]:=by rw[Zae td0 hlt,z'A];rfl
  have hTd:=hp.td _ (z'8 (d:=td0) hlt)
  have c3:=Znh (p.ths.getD j td0).body hTd.2 (Zbm hB (z'8 hlt)) (p.ths.getD j td0).regs (lcN p) hTd.1 (by rw[Za1];omega)
  repeat' first|refine dr (id:=14) T 10 (by kernel_rfl) ?_|apply VCg.step T rfl rfl;focus((try simp (disch:=omega) only[go_sem,Nat.reduceBEq,Nat.reduceAdd,Nat.reduceMul,Nat.reduceLeDiff]);(first|exact rfl|refine Op1.callp rfl rfl (c2) rfl ?_;exact⟨rfl,rfl⟩|refine Op1.callp rfl rfl (c3) rfl ?_;exact⟨rfl,rfl⟩))|refine mq1 (mqt7 @w'V @y'X @tdR.eq_1 @x'h @w64 @z'b @e1) ?_|refine mqn fun bq hbq=>?_|refine .wk ?_ ?_;focus(try omega)|refine vs T rfl fun K hK=>?_;(try simp (disch:=omega) only[go_sem,Nat.reduceBEq,Nat.reduceAdd,Nat.reduceMul,Nat.reduceLeDiff,w'V,y'X,tdR,x'h,w64,z'b,e1]);(first|refine⟨_,_,_,_,(by repeat (first|exact Sp.here|apply Sp.cons|apply Sp.over)),?_,(by exact⟨rfl,rfl⟩),⟨by decide,?_⟩,fun g' hg'=>hK _ _ ?_⟩<;>clear hK K)|fail
  ·simp;omega
  ·omega
  ·simp;omega
  ·omega
  ·rename_i ga' hga'
   refine⟨⟨(j+1,_,_),by dsimp only;exact⟨by omega,hga',hg'⟩⟩,y'J ?_ ?_,by dsimp only;omega⟩
   ·dsimp only
    rw[hR,hC]
    simp only[uMW,z'A,z'p,y'a]
   ·simp[sub,upd]
 obtain rfl:j=p.ths.length:=by omega
 have e1:decide ((p.ths.length:Int)<(p.ths.length:Int))=false:=decide_eq_false (by omega)
 rw[y'w]
 repeat' first|refine mq1 (mqt2 @y'X @e1) ?_|fail
 refine Zjf T rfl (by(try simp (disch:=omega) only[hget_ne,hget_eq]);rfl) rfl rfl rfl (z'n _) ?_
 rw[show y'3 p=(0,0) from Zju h0]
 exact ZnN (z'i ..) (z'i ..) (z'i ..) hg h2 h3 fun x hx=>z'o _ (z'o _ hx)
def exL (l:List Nod):Bool:=decide (l.length≤250)&&l.all fun x=>decide (x.nm.size≤100)&&decide (x.inn.size≤100)
def ZdA (x:Sm):Bool:=decide (x.reg.size≤100)&&(decide (x.loc.size≤100)&&(exL x.e&&exL x.f))
def smL (l:List Sm):Bool:=decide (l.length≤60)&&l.all ZdA
def tdL (t:Td):Bool:=decide (t.nm.size≤100)&&(decide (t.regs.length≤20)&&(smL t.body&&t.regs.all fun s=>decide (s.size≤100)))
def pgL (p:Pg):Bool:=(decide (p.locs.length≤20)&&(decide (p.ths.length≤8)&&decide (p.cms.length≤12)))&&((p.locs.all fun v=>decide (v.nm.size≤100))&&(p.ths.all tdL&&p.cms.all fun c=>exL c.e))
theorem Zec (l:List Nod):Pure Tryz.prog 52 [y'4 l] (bD (exL l)):=by
 refine Fun.of T [.tmp 2] Tryz.func52 rfl Tryz.ntmps52 Tryz.results52 rfl (by kernel_rfl) ?_
 rcases z'g 250 l.length with h0|h0
 ·have e1:decide ((l.length:Int)>250)=true:=decide_eq_true (by omega)
  rw[show exL l=false by rw[exL,decide_eq_false (by omega)];rfl]
  repeat' first|refine mq1 (mqt2 @z'Z @e1) ?_|exact z'r T (z'a _) ⟨rfl,rfl⟩|fail
 have e1:decide ((l.length:Int)>250)=false:=decide_eq_false (by omega)
 repeat' first|refine mq1 (mqt2 @z'Z @e1) ?_|fail
 refine VC.loop {k:Nat//k≤l.length∧ ∀i,i<k→(decide ((l.getD i z'J).nm.size≤100)&&decide ((l.getD i z'J).inn.size≤100))=true} (fun p=>⟨z'0 [(0,y'4 l),(3,iD (p.1:Nat))],[]⟩) (fun p=>l.length-p.1) ⟨0,z'm _,fun i hi=>by omega⟩ ?_ ?_
 ·refine Weak.sub ?_
  simp[sub,upd]
 rintro⟨k,hk,hs⟩
 dsimp only at hk hs⊢
 have no:k<l.length→(decide ((l.getD k z'J).nm.size≤100)&&decide ((l.getD k z'J).inn.size≤100))=false→exL l=false:=fun h1 h2=>by rw[exL,w'd (p:=fun x:Nod=>decide (x.nm.size≤100)&&decide (x.inn.size≤100)) h1 h2,w'm]
 repeat' first|refine mq1 (mqt5 @y's @z'Z @nodR.eq_1 @w64 @z'b) ?_|refine .wk ?_ ?_;focus(try omega)|refine z'r T (z'a _) ?_;(try simp only[upd,Nat.reduceBEq,cond_true,cond_false,and_true])|with_reducible refine z'j (fun hc=>?_) (fun hc=>?_)<;>(try simp only[decide_eq_true_eq,decide_eq_false_iff_not,gt_iff_lt,z'x]at hc)|fail
 ·rw[no (by omega) (by rw[decide_eq_false (p:=(l.getD k z'J).nm.size≤100) (by omega)];rfl)]
 ·rw[no (by omega) (by rw[decide_eq_false (p:=(l.getD k z'J).inn.size≤100) (by omega),w'm])]
 ·rename_i h1 h2
  refine⟨⟨k+1,by omega,y'r hs (by rw[decide_eq_true (p:=(l.getD k z'J).nm.size≤100) (by omega),decide_eq_true (p:=(l.getD k z'J).inn.size≤100) (by omega)];rfl)⟩,Weak.sub ?_,by dsimp only;omega⟩
  simp[sub,upd]
 ·rw[show exL l=true by rw[exL,decide_eq_true (by omega),x'X (p:=fun x:Nod=>decide (x.nm.size≤100)&&decide (x.inn.size≤100)) (d:=z'J) (k:=k) (by omega) hs];rfl]
theorem Zna (l:List Sm):Pure Tryz.prog 51 [x'E l] (bD (smL l)):=by
 refine Fun.of T [.tmp 2] Tryz.func51 rfl Tryz.ntmps51 Tryz.results51 rfl (by kernel_rfl) ?_
 rcases z'g 60 l.length with h0|h0
 ·have e1:decide ((l.length:Int)>60)=true:=decide_eq_true (by omega)
  rw[show smL l=false by rw[smL,decide_eq_false (by omega)];rfl]
  repeat' first|refine mq1 (mqt2 @x'C @e1) ?_|exact z'r T (z'a _) ⟨rfl,rfl⟩|fail
 have e1:decide ((l.length:Int)>60)=false:=decide_eq_false (by omega)
 repeat' first|refine mq1 (mqt2 @x'C @e1) ?_|fail
 refine VC.loop {k:Nat//k≤l.length∧ ∀i,i<k→ZdA (l.getD i sm0)=true} (fun p=>⟨z'0 [(0,x'E l),(3,iD (p.1:Nat))],[]⟩) (fun p=>l.length-p.1) ⟨0,z'm _,fun i hi=>by omega⟩ ?_ ?_
 ·refine Weak.sub ?_
  simp[sub,upd]
 rintro⟨k,hk,hs⟩
 dsimp only at hk hs⊢
 have no:k<l.length→ZdA (l.getD k sm0)=false→smL l=false:=fun h1 h2=>by rw[smL,w'd h1 h2,w'm]
 have c1:=Zec (l.getD k sm0).e
 have c2:=Zec (l.getD k sm0).f
 repeat' first|refine mq2 (mqt5 @y'M @x'C @smR.eq_1 @w64 @z'b) (mqt2 c1 c2) ?_|refine .wk ?_ ?_;focus(try omega)|refine z'r T (z'a _) ?_;(try simp only[upd,Nat.reduceBEq,cond_true,cond_false,and_true])|with_reducible refine z'j (fun hc=>?_) (fun hc=>?_)<;>(try simp only[decide_eq_true_eq,decide_eq_false_iff_not,z'y,z'G,gt_iff_lt,z'x]at hc)|fail
 ·rw[no (by omega) (by rw[ZdA,decide_eq_false (p:=(l.getD k sm0).reg.size≤100) (by omega)];rfl)]
 ·rw[no (by omega) (by rw[ZdA,decide_eq_false (p:=(l.getD k sm0).loc.size≤100) (by omega)];simp)]
 ·rw[no (by omega) (by rw[ZdA,hc];simp)]
 ·rw[no (by omega) (by rw[ZdA,hc];simp)]
 ·rename_i h1 h2 h3 h4
  refine⟨⟨k+1,by omega,y'r hs (by rw[ZdA,decide_eq_true (p:=(l.getD k sm0).reg.size≤100) (by omega),decide_eq_true (p:=(l.getD k sm0).loc.size≤100) (by omega),h4,hc];rfl)⟩,Weak.sub ?_,by dsimp only;omega⟩
  simp[sub,upd]
 ·rw[show smL l=true by rw[smL,decide_eq_true (by omega),x'X (p:=ZdA) (d:=sm0) (k:=k) (by omega) hs];rfl]
theorem Zhr (p:Pg):Pure Tryz.prog 12 [.agg (pgC p)] (bD (pgL p)):=by
 refine Fun.of T [.tmp 2] Tryz.func12 rfl Tryz.ntmps12 Tryz.results12 rfl (by kernel_rfl) ?_
 cases h0:(decide (p.locs.length≤20)&&(decide (p.ths.length≤8)&&decide (p.cms.length≤12)))with
 |false=>
  rw[show pgL p=false by rw[pgL,h0];rfl]
  simp only[v'i,decide_eq_false_iff_not]at h0
  repeat' first|refine vb (t:=26) rfl rfl rfl rfl ?_|refine mq1 (mqt3 @x'B @y'X @v'b) ?_|exact z'r T (z'a _) ⟨rfl,rfl⟩|with_reducible refine z'j (fun hc=>?_) (fun hc=>?_)<;>(try simp only[decide_eq_true_eq,decide_eq_false_iff_not,gt_iff_lt,z'x]at hc)<;>(try(exfalso;omega))|fail
  all_goals(exfalso;omega)
 |true=>
 have hP:pgL p=((p.locs.all fun v=>decide (v.nm.size≤100))&&(p.ths.all tdL&&p.cms.all fun c=>exL c.e)):=by rw[pgL,h0];rfl
 rw[hP]
 simp only[z'd,decide_eq_true_eq]at h0
 obtain⟨l1,l2,l3⟩:=h0
 have f1:decide ((p.locs.length:Int)>20)=false:=decide_eq_false (by omega)
 have f2:decide ((p.ths.length:Int)>8)=false:=decide_eq_false (by omega)
 have f3:decide ((p.cms.length:Int)>12)=false:=decide_eq_false (by omega)
 repeat' first|refine vb (t:=26) rfl rfl rfl rfl ?_|refine mq1 (mqt6 @x'B @y'X @v'b @f1 @f2 @f3) ?_|fail
 refine VC.loop {k:Nat//k≤p.locs.length∧ ∀i,i<k→decide ((p.locs.getD i lv0).nm.size≤100)=true} (fun q=>⟨z'0 [(1,.pt (pgC p)),(3,iD (q.1:Nat))],[]⟩) (fun q=>p.locs.length-q.1) ⟨0,z'm _,fun i hi=>by omega⟩ ?_ ?_
 ·refine Weak.sub ?_
  simp[sub,upd]
 rintro⟨k,hk,hs⟩
 dsimp only at hk hs⊢
 repeat' first|refine mq1 (mqt5 @w'U @x'B @lvR.eq_1 @w64 @z'b) ?_|refine .wk ?_ ?_;focus(try omega)|refine z'r T (z'a _) ?_;(try simp only[upd,Nat.reduceBEq,cond_true,cond_false,and_true])|with_reducible refine z'j (fun hc=>?_) (fun hc=>?_)<;>(try simp only[decide_eq_true_eq,decide_eq_false_iff_not,gt_iff_lt,z'x]at hc)|fail
 ·rw[w'd (p:=fun v:Lv=>decide (v.nm.size≤100)) (d:=lv0) (i:=k) (by omega) (decide_eq_false (by omega))];rfl
 ·refine⟨⟨k+1,by omega,y'r hs (decide_eq_true (by omega))⟩,Weak.sub ?_,by dsimp only;omega⟩
  simp[sub,upd]
 have hA:=x'X (p:=fun v:Lv=>decide (v.nm.size≤100)) (d:=lv0) (l:=p.locs) (k:=k) (by omega) hs
 rw[hA,y'g]
 clear hs hc hk
 repeat' first
  |(refine vs T rfl fun K hK=>?_;(try simp (disch:=omega) only[go_sem,Nat.reduceBEq,Nat.reduceAdd,Nat.reduceMul,Nat.reduceSub,Nat.reduceLeDiff,Int.reduceToNat]);(first|(refine hK _ _ ?_;clear hK K)|(intro bq hbq;(try simp only[HB]at hbq);refine hK _ _ ?_;clear hK K)|(refine⟨?_,hK _ _ ?_⟩<;>clear hK K;focus(try(first|omega|exact⟨rfl,by decide⟩|exact rfl)))|(refine⟨_,?_,hK _ _ ?_⟩<;>clear hK K)|skip))
  |(refine st rfl ?_)
  |(refine sc rfl ?_)
  |(refine nl ?_)
  |(refine gs rfl rfl ?_)
  |(refine gu rfl rfl ?_)
  |(refine ov ?_)
  |(exact z'r T (z'a _) rfl)
  |(exact z'r T (z'a _) ⟨rfl,rfl⟩)
  |(refine z'r T (z'a _) ?_;(try simp only[upd,Nat.reduceBEq,cond_true,cond_false,and_true]))
  |(with_reducible refine gt ?_ ?_;focus(simp (disch:=omega) only[go_sem,Nat.reduceBEq,Nat.reduceAdd,Nat.reduceMul,Nat.reduceSub,Nat.reduceLeDiff,Int.reduceToNat];done))
  |(with_reducible refine gf ?_ ?_;focus(simp (disch:=omega) only[go_sem,Nat.reduceBEq,Nat.reduceAdd,Nat.reduceMul,Nat.reduceSub,Nat.reduceLeDiff,Int.reduceToNat];done))
  |(with_reducible refine z'j (fun hc=>?_) (fun hc=>?_)<;>(try simp only[decide_eq_true_eq,decide_eq_false_iff_not,beq_iff_eq,beq_eq_false_iff_ne,bne_iff_ne,bne_eq_false_iff_eq,ne_eq,z'y,z'G,Bool.not_eq_true,Bool.not_eq_false,ge_iff_le,gt_iff_lt,y'j,z'x,Decidable.not_not]at hc)<;>(try(exfalso;omega)))
 refine VC.loop {k:Nat//k≤p.ths.length∧ ∀i,i<k→tdL (p.ths.getD i td0)=true} (fun q=>⟨z'0 [(1,.pt (pgC p)),(4,iD (q.1:Nat))],[]⟩) (fun q=>p.ths.length-q.1) ⟨0,z'm _,fun i hi=>by omega⟩ ?_ ?_
 ·refine Weak.sub ?_
  simp[sub,upd]
 rintro⟨k,hk,hs⟩
 dsimp only at hk hs⊢
 rcases z'g k p.ths.length with hlt|hge
 ·have e1:decide ((k:Int)<(p.ths.length:Int))=true:=decide_eq_true (by omega)
  have n2:=Zna (p.ths.getD k td0).body
  have no1:tdL (p.ths.getD k td0)=false→(p.ths.all tdL&&p.cms.all fun c=>exL c.e)=false:=fun h2=>by rw[w'd hlt h2];rfl
  repeat' first|refine mq2 (mqt6 @w'V @y'X @tdR.eq_1 @x'h @z'b @e1) n2 ?_|refine mqn fun bq hbq=>?_|refine .wk ?_ ?_;focus(try omega)|refine z'r T (z'a _) ?_;(try simp only[upd,Nat.reduceBEq,cond_true,cond_false,and_true])|with_reducible refine z'j (fun hc=>?_) (fun hc=>?_)<;>(try simp only[decide_eq_true_eq,decide_eq_false_iff_not,z'y,z'G,gt_iff_lt,z'x]at hc)|fail
  ·rw[no1 (by rw[tdL,decide_eq_false (p:=(p.ths.getD k td0).nm.size≤100) (by omega)];rfl)]
  ·rw[no1 (by rw[tdL,decide_eq_false (p:=(p.ths.getD k td0).regs.length≤20) (by omega)];simp)]
  ·rw[no1 (by rw[tdL,hc];simp)]
  rename_i h1 h2
  clear n2
  refine VC.loop {j:Nat//j≤(p.ths.getD k td0).regs.length∧ ∀i,i<j→decide (((p.ths.getD k td0).regs.getD i e0).size≤100)=true} (fun q=>⟨z'0 [(1,.pt (pgC p)),(4,iD (k:Nat)),(5,ptB bq),(6,iD (q.1:Nat))],[(bq,.cells 45 4 (tdR (p.ths.getD k td0)))]⟩) (fun q=>(p.ths.getD k td0).regs.length-q.1) ⟨0,z'm _,fun i hi=>by omega⟩ ?_ ?_
  ·refine z'O rfl ?_
   simp[sub,upd]
  rintro⟨j,hj,hr⟩
  dsimp only at hj hr⊢
  rcases z'g j (p.ths.getD k td0).regs.length with hlj|hge
  ·have e2:decide ((j:Int)<((p.ths.getD k td0).regs.length:Int))=true:=decide_eq_true (by omega)
   repeat' first|refine mq1 (mqt6 @w'4 @x'h @tdR.eq_1 @w64 @z'b @e2) ?_|refine .wk ?_ ?_;focus(try omega)|refine z'r T (z'a _) ?_;(try simp only[upd,Nat.reduceBEq,cond_true,cond_false,and_true])|with_reducible refine z'j (fun hc=>?_) (fun hc=>?_)<;>(try simp only[decide_eq_true_eq,decide_eq_false_iff_not,gt_iff_lt,z'x]at hc)|fail
   ·rw[no1 (by rw[tdL,w'd (p:=fun s:ByteArray=>decide (s.size≤100)) (d:=e0) hlj (decide_eq_false (by omega))];simp)]
   ·refine⟨⟨j+1,by omega,y'r hr (decide_eq_true (by omega))⟩,z'O rfl ?_,by dsimp only;omega⟩
    simp[sub,upd, -List.getD_eq_getElem?_getD]
  have e2:decide ((j:Int)<((p.ths.getD k td0).regs.length:Int))=false:=decide_eq_false (by omega)
  have hR:=x'X (p:=fun s:ByteArray=>decide (s.size≤100)) (d:=e0) (l:=(p.ths.getD k td0).regs) (by omega) hr
  repeat' first|refine mq1 (mqt4 @x'h @tdR.eq_1 @w64 @e2) ?_|fail
  refine⟨⟨k+1,by omega,y'r hs (by rw[tdL,decide_eq_true (p:=(p.ths.getD k td0).nm.size≤100) (by omega),decide_eq_true (p:=(p.ths.getD k td0).regs.length≤20) (by omega),hc,hR];rfl)⟩,y'J rfl ?_,by dsimp only;omega⟩
  simp[sub,upd]
 have e1:decide ((k:Int)<(p.ths.length:Int))=false:=decide_eq_false (by omega)
 have hB:=x'X (p:=tdL) (d:=td0) (l:=p.ths) (by omega) hs
 rw[hB,y'g]
 clear hs
 repeat' first|refine mq1 (mqt2 @y'X @e1) ?_|fail
 refine VC.loop {k:Nat//k≤p.cms.length∧ ∀i,i<k→exL (p.cms.getD i cm0).e=true} (fun q=>⟨z'0 [(1,.pt (pgC p)),(7,iD (q.1:Nat))],[]⟩) (fun q=>p.cms.length-q.1) ⟨0,z'm _,fun i hi=>by omega⟩ ?_ ?_
 ·refine Weak.sub ?_
  simp[sub,upd]
 rintro⟨k,hk,hs⟩
 dsimp only at hk hs⊢
 have n1:=Zec (p.cms.getD k cm0).e
 repeat' first|refine mq2 (mqt5 @ZdO @v'b @cmR.eq_1 @w64 @z'b) n1 ?_|refine .wk ?_ ?_;focus(try omega)|refine z'r T (z'a _) ?_;(try simp only[upd,Nat.reduceBEq,cond_true,cond_false,and_true])|with_reducible refine z'j (fun hc=>?_) (fun hc=>?_)<;>(try simp only[decide_eq_true_eq,decide_eq_false_iff_not,z'y,z'G,z'x]at hc)|fail
 ·rw[w'd (p:=fun c:Cm=>exL c.e) (d:=cm0) (i:=k) (by omega) hc]
 ·refine⟨⟨k+1,by omega,y'r hs hc⟩,Weak.sub ?_,by dsimp only;omega⟩
  simp[sub,upd]
 ·rw[x'X (p:=fun c:Cm=>exL c.e) (d:=cm0) (k:=k) (by omega) hs]
theorem ZhP {l:List Nod} (h:exL l=true):l.length≤1000:=by
 simp only[exL,z'd,decide_eq_true_eq]at h
 omega
theorem Zop {p:Pg} (h:pgL p=true):v'm p:=by
 simp only[pgL,z'd,decide_eq_true_eq,z'l]at h
 refine⟨by omega,by omega,by omega,fun t ht=>?_,fun c hc=>ZhP (h.2.2.2 c hc)⟩
 have h1:=h.2.2.1 t ht
 simp only[tdL,smL,z'd,decide_eq_true_eq]at h1
 refine⟨by omega,by omega,fun x hx=>?_⟩
 have h2:=z'l.1 h1.2.2.1.2 x hx
 simp only[ZdA,z'd]at h2
 exact⟨ZhP h2.2.2.1,ZhP h2.2.2.2⟩
end Go.Proofs.YthlkpnjjkgmlkaaGreat
