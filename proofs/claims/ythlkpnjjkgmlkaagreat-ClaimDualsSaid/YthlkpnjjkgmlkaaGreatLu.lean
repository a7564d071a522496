/- Contracts: the reference makes a unit. No condition. -/
import Derived.Test.YthlkpnjjkgmlkaaGreatLs
namespace Go.Proofs.YthlkpnjjkgmlkaaGreat
set_option maxHeartbeats 16000000
set_option linter.unusedSimpArgs false
set_option linter.unusedVariables false
set_option maxRecDepth 20000
open Go Go.Proofs Go.Vc
attribute [local irreducible] x'v VCg VCw VCx
theorem ZuO {l:List Sm} (h:smB l=true):l.length≤200∧wh l 0 l.length=true∧NoB l∧NoR l:=by
 simp only[smB,z'f,decide_eq_true_eq]at h
 exact⟨h.1,h.2.1,Zui h.2.2.1,Zuj h.2.2.1⟩
theorem ZtO {p:Pg} (h:(w'P p).1=0):pgB p=true:=by
 unfold w'P at h
 cases hp:pgB p with
 |true=>rfl
 |false=>rw[hp,if_pos rfl]at h;cases h
theorem Zo7 {n:Nat} {g:Nat→Int×Int} (h:(Zbf n g).1=0):Zbf n g=(0,0):=Zcn (Zsv h)
theorem Zqi {p:Pg} (h:(w'P p).1=0):w'P p=(0,0):=by
 unfold w'P at h⊢
 split at h
 ·cases h
 ·rename_i h1
  split at h
  ·cases h
  ·rename_i h2
   rw[if_neg h1,if_neg h2]
   unfold Zay at h⊢
   split at h
   ·rename_i h3
    rw[if_pos h3]
    split at h
    ·rename_i h4
     rw[if_pos h4]
     exact Zo7 h
    ·rename_i h4;exact absurd h h4
   ·rename_i h3;exact absurd h h3
theorem Zur {p:Pg} (h:pgB p=true) {t:Td} (ht:t∈p.ths):smB t.body=true:=by
 simp only[pgB,z'f]at h
 have:=z'q.1 h.2.2.1 t ht
 simp only[tdB,z'f]at this
 exact this.2.1
theorem Zp5 (l:List Sm) (regs locs:List ByteArray):thI l regs locs=rwA l regs locs 0 l.length 0 0++[⟨22,0,0,[],[],false,0⟩]:=rfl
theorem ZoE (l:List Sm) (hO:OkS l) (hB:smB l=true) (regs locs:List ByteArray) (hr:regs.length≤1000) (hlc:locs.length≤1000):Pure Tryz.prog 58 [v'I l,v't regs,v't locs] (.sl false 7 (y'I (thI l regs locs))):=by
 obtain⟨b1,b2,b3,b4⟩:=ZuO hB
 have hz:=Zmg l 0 l.length
 rw[y'l]at hz
 have c1:=ZrB l hO b3 b4 regs locs hr hlc l.length 0 l.length 0 0 (Nat.sub_le _ _) (z'h _) b2 (by omega)
 have hL:=ZbR l regs locs b3 _ 0 l.length 0 0 (z'h _) (z'h _) b2
 refine ZpU ?_
 refine Fun.of T [.tmp 6] Tryz.func58 rfl Tryz.ntmps58 Tryz.results58 rfl (by kernel_rfl) ?_
 repeat' first|refine mq1 @v's ?_|refine vs T rfl fun K hK=>?_;(try simp (disch:=omega) only[go_sem,Nat.reduceBEq,Nat.reduceAdd,Nat.reduceMul,Nat.reduceLeDiff,v's]);(first|refine⟨_,_,_,_,(by repeat (exact Sp.here)),?_,(by exact⟨rfl,rfl⟩),?_,fun g' hg'=>hK _ _ ?_⟩<;>clear hK K|refine Op1.callx rfl rfl (c1) rfl (fun q hq=>?_);refine hK _ _ ?_;clear hK K)|fail
 ·exact hq.1.2
 ·omega
 ·exact z'p T (z'v _) ⟨(q.1++_,g'),⟨hq.1.app InsR.dn,by rw[Zp5,z'j];exact hg'⟩,by rw[Zp5,z'j];rfl,rfl⟩
abbrev ZqY (l:List Ins):D:= .sl false 7 (y'I l)
theorem ZkC {H:Heap}: ∀(l:List (List Ins)),FzR H 1 (w'A l) (l.map ZqY)
 |[]=>trivial
 |b::l=>⟨rfl,⟨_,_,rfl,Fz.refl _ _,trivial⟩,ZkC l⟩
abbrev uMD (g1 g2 g3:Option (Nat×Nat)) (md:Int) (a b:Nat):List D:=[iD md,.gs g1 a,.gs g2 b,.gs g3 b]
abbrev uMW (g1 g2 g3:Option (Nat×Nat)) (I R:List Int) (C:List (List Ins)):Heap:=shp g1 3 1 (I.map iD) (shp g2 3 1 (R.map iD) (shp g3 41 1 (C.map ZqY) []))
theorem ZtY {g1 g2 g3:Option (Nat×Nat)} {I R:List Int} {C:List (List Ins)} {H:Heap} {md:Int} {ds:List D} {a b:Nat} (hI:I.length=a) (hR:R.length=b) (hC:C.length=b) (h1:gOk g1 a) (h2:gOk g2 b) (h3:gOk g3 b) (hm: ∀x,x∈uMW g1 g2 g3 I R C→x∈H):
  Fz H (.tup (.agg (unC ⟨md,I,R,C⟩)::ds)) (.tup (.agg (uMD g1 g2 g3 md a b)::ds)):=by
 subst hI;subst hR
 have z1:=w'H (e:=3) (s:=I) (H:=H) h1 fun b c e=>hm _ (by subst e;exact x'J)
 have z2:=w'H (e:=3) (s:=R) (g:=g2) (H:=H) h2 fun b c e=>hm _ (w'w (by subst e;exact x'J))
 have z3:=ZcB (e:=41) (H:=H) (g:=g3) (n:=R.length) (l:=C.map ZqY) (rows:=w'A C) (by rw[z'V,hC]) h3 (fun b c e=>hm _ (w'w (w'w (by subst e;exact x'J)))) (ZkC C)
 exact⟨_,rfl,z'u ⟨_,rfl,z'u (Fz.refl _ _) (z'u z1 (z'u z2 (z'u z3 x'9)))⟩ (FzL.refl _ _)⟩
theorem Zsb {P:Program} (T:Tab P) {E:Nat→D} {H:Heap} {a t u:Tmp} {ty:TypeId} {Φ:D→Heap→Prop} {H':Heap} {b n:Nat} {ty':TypeId} {l:List D} (ha:E a= .is (.pointer (some ⟨b,0,none⟩))) (hb:w'v H b=some (.cells ty' n l))
  (hk:(T.get ty).known=true) (hz:(T.get ty).size=l.length) (hag:(T.get ty).agg=true) (hs:H'.Sublist H) (h:Φ (.tup [.agg l,E t,E u]) H'):x'v T [.cell a ty,.tmp t,.tmp u] Φ .ret ⟨E,H⟩:=by
 unfold x'v
 exact⟨[.agg l,E t,E u],H',⟨b,ty',n,l,_,ha,x'Q hb,hk,hz,by rw[hag],_,rfl,_,rfl,rfl⟩,hs,h⟩
theorem Zq3 (p:Pg) (hp:Zeg p):Pure Tryz.prog 15 [.agg (pgC p)] (.tup [.agg (unC (mkU p)),iD (w'P p).1,iD (w'P p).2]):=by
 have hl1:=hp.locs
 have hl2:=hp.ths
 have c1:=ZoX p hp
 have c2:=ZdJ p hp
 refine Fun.fz ?_
 refine Fun.of T [.cell 2 32,.tmp 3,.tmp 4] Tryz.func15 rfl Tryz.ntmps15 Tryz.results15 rfl (by kernel_rfl) ?_
 by_cases h0:(w'P p).1=0
 case neg=>
  have f0:((w'P p).1 != 0)=true:=bne_iff_ne.2 h0
  rw[show mkU p=⟨0,[],[],[]⟩ by rw[mkU,if_neg h0]]
  repeat' first|refine vb (t:=26) rfl rfl rfl rfl ?_|refine mq2 @f0 c1 ?_|refine mqn fun bq hbq=>?_|fail
  refine Zsb T rfl (by(try simp (disch:=omega) only[hget_ne,hget_eq]);rfl) rfl rfl rfl (z'a _) ?_
  exact⟨_,rfl,z'u ⟨_,rfl,z'u (Fz.refl _ _) (z'u z'1 (z'u z'1 (z'u z'1 x'9)))⟩ (FzL.refl _ _)⟩
 have f0:((w'P p).1 != 0)=false:=bne_eq_false_iff_eq.2 h0
 have hB:=ZtO h0
 rw[show mkU p=⟨p.md,p.locs.map (·.n),p.ths.map (fun t=>(t.regs.length:Int)),p.ths.map fun t=>thI t.body t.regs (lcN p)⟩ by rw[mkU,if_pos h0]]
 repeat' first|refine vb (t:=26) rfl rfl rfl rfl ?_|refine mq2 @f0 c1 ?_|refine mqn fun bq hbq=>?_|fail
 rename_i b2 _
 have hnb: ¬bq=b2:=hbq
 refine VC.loop {x:Nat×Option (Nat×Nat)//x.1≤p.locs.length∧gOk x.2 x.1} (fun x=>⟨z'T [(1,.pt (pgC p)),(2,ptB b2),(7,ptB bq),(8,iD (x.1.1:Nat))],(bq,.cells 32 4 (uMD x.1.2 none none p.md x.1.1 0))::(b2,.cells 32 4 [iD 0,.gs none 0,.gs none 0,.gs none 0])::uMW x.1.2 none none ((p.locs.take x.1.1).map (·.n)) [] []⟩) (fun x=>p.locs.length-x.1.1) ⟨(0,none),by dsimp only;exact⟨z'A _,rfl⟩⟩ ?_ ?_
 ·refine z'Q rfl ?_
  simp[sub,upd]
 rintro⟨⟨k,g⟩,hk,hg⟩
 dsimp only at hk hg⊢
 rcases z'i k p.locs.length with hlt|hge
 ·have e1:decide ((k:Int)<(p.locs.length:Int))=true:=decide_eq_true (by omega)
  have hT:(p.locs.take (k+1)).map (·.n)=(p.locs.take k).map (·.n)++[(p.locs.getD k lv0).n]:=by rw[Zde lv0 hlt,z'E];rfl
  repeat' first|refine dr (id:=8) T 9 (by kernel_rfl) ?_|apply VCg.step T rfl rfl;focus((try simp (disch:=omega) only[go_sem,Nat.reduceBEq,Nat.reduceMul,Nat.reduceLeDiff,ZeJ,lvR,z'e]);(first|exact rfl|refine⟨?_,rfl⟩;try omega))|refine mq1 (x'i @v'o @w64 @e1) ?_|refine vs T rfl fun K hK=>?_;(try simp (disch:=omega) only[go_sem,Nat.reduceBEq,Nat.reduceAdd,Nat.reduceLeDiff,v'o,w64,e1]);(first|refine⟨_,_,_,_,(by repeat (first|exact Sp.here|apply Sp.cons)),?_,(by exact⟨rfl,rfl⟩),⟨by decide,?_⟩,fun g' hg'=>hK _ _ ?_⟩<;>clear hK K)|fail
  ·simp;omega
  ·omega
  ·refine⟨⟨(k+1,g'),by dsimp only;exact⟨by omega,hg'⟩⟩,z'Q ?_ ?_,by dsimp only;omega⟩
   ·dsimp only
    rw[hT]
    simp only[uMW,z'E,z's,y'Q]
   ·simp[sub,upd]
 obtain rfl:k=p.locs.length:=by omega
 have e1:decide ((p.locs.length:Int)<(p.locs.length:Int))=false:=decide_eq_false (by omega)
 rw[y'g]
 repeat' first|refine mq1 (z'X @v'o @e1) ?_|fail
 refine VC.loop {x:Nat×Option (Nat×Nat)×Option (Nat×Nat)//x.1≤p.ths.length∧gOk x.2.1 x.1∧gOk x.2.2 x.1} (fun x=>⟨z'T [(1,.pt (pgC p)),(2,ptB b2),(7,ptB bq),(9,iD (x.1.1:Nat))],(bq,.cells 32 4 (uMD g x.1.2.1 x.1.2.2 p.md p.locs.length x.1.1))::(b2,.cells 32 4 [iD 0,.gs none 0,.gs none 0,.gs none 0])::uMW g x.1.2.1 x.1.2.2 (p.locs.map (·.n)) ((p.ths.take x.1.1).map (fun t=>(t.regs.length:Int))) ((p.ths.take x.1.1).map fun t=>thI t.body t.regs (lcN p))⟩) (fun x=>p.ths.length-x.1.1) ⟨(0,none,none),by dsimp only;exact⟨z'A _,rfl,rfl⟩⟩ ?_ ?_
 ·refine z'Q rfl ?_
  simp[sub,upd]
 rintro⟨⟨j,g2,g3⟩,hj,h2,h3⟩
 dsimp only at hj h2 h3⊢
 rcases z'i j p.ths.length with hlt|hge
 ·have e1:decide ((j:Int)<(p.ths.length:Int))=true:=decide_eq_true (by omega)
  have hR:(p.ths.take (j+1)).map (fun t=>(t.regs.length:Int))=(p.ths.take j).map (fun t=>(t.regs.length:Int))++[((p.ths.getD j td0).regs.length:Int)]:=by rw[Zde td0 hlt,z'E];rfl
  have hC:(p.ths.take (j+1)).map (fun t=>thI t.body t.regs (lcN p))=(p.ths.take j).map (fun t=>thI t.body t.regs (lcN p))++[thI (p.ths.getD j td0).body (p.ths.getD j td0).regs (lcN p)]:=by rw[Zde td0 hlt,z'E];rfl
  have hTd:=hp.td _ (x'p (d:=td0) hlt)
  have c3:=ZoE (p.ths.getD j td0).body hTd.2 (Zur hB (x'p hlt)) (p.ths.getD j td0).regs (lcN p) hTd.1 (by rw[ZeM];omega)
  repeat' first|refine dr (id:=14) T 10 (by kernel_rfl) ?_|apply VCg.step T rfl rfl;focus((try simp (disch:=omega) only[go_sem,Nat.reduceBEq,Nat.reduceAdd,Nat.reduceMul,Nat.reduceLeDiff]);(first|exact rfl|refine Op1.callp rfl rfl (c2) rfl ?_;exact⟨rfl,rfl⟩|refine Op1.callp rfl rfl (c3) rfl ?_;exact⟨rfl,rfl⟩))|refine mq1 (v'p @ZcT @w'D @tdR.eq_1 @w'W @w64 @z'e @e1) ?_|refine mqn fun bq hbq=>?_|refine .wk ?_ ?_;focus(try omega)|refine vs T rfl fun K hK=>?_;(try simp (disch:=omega) only[go_sem,Nat.reduceBEq,Nat.reduceAdd,Nat.reduceMul,Nat.reduceLeDiff,ZcT,w'D,tdR,w'W,w64,z'e,e1]);(first|refine⟨_,_,_,_,(by repeat (first|exact Sp.here|apply Sp.cons|apply Sp.over)),?_,(by exact⟨rfl,rfl⟩),⟨by decide,?_⟩,fun g' hg'=>hK _ _ ?_⟩<;>clear hK K)|fail
  ·simp;omega
  ·omega
  ·simp;omega
  ·omega
  ·rename_i ga' hga'
   refine⟨⟨(j+1,_,_),by dsimp only;exact⟨by omega,hga',hg'⟩⟩,y'U ?_ ?_,by dsimp only;omega⟩
   ·dsimp only
    rw[hR,hC]
    simp only[uMW,z'E,z's,y'Q]
   ·simp[sub,upd]
 obtain rfl:j=p.ths.length:=by omega
 have e1:decide ((p.ths.length:Int)<(p.ths.length:Int))=false:=decide_eq_false (by omega)
 rw[y'g]
 repeat' first|refine mq1 (z'X @w'D @e1) ?_|fail
 refine Zsb T rfl (by(try simp (disch:=omega) only[hget_ne,hget_eq]);rfl) rfl rfl rfl (z'v _) ?_
 rw[show w'P p=(0,0) from Zqi h0]
 exact ZtY (z'm ..) (z'm ..) (z'm ..) hg h2 h3 fun x hx=>z'd _ (z'd _ hx)
def exL (l:List Nod):Bool:=decide (l.length≤250)&&l.all fun x=>decide (x.nm.size≤100)&&decide (x.inn.size≤100)
def Zet (x:Sm):Bool:=decide (x.reg.size≤100)&&(decide (x.loc.size≤100)&&(exL x.e&&exL x.f))
def smL (l:List Sm):Bool:=decide (l.length≤60)&&l.all Zet
def tdL (t:Td):Bool:=decide (t.nm.size≤100)&&(decide (t.regs.length≤20)&&(smL t.body&&t.regs.all fun s=>decide (s.size≤100)))
def pgL (p:Pg):Bool:=(decide (p.locs.length≤20)&&(decide (p.ths.length≤8)&&decide (p.cms.length≤12)))&&((p.locs.all fun v=>decide (v.nm.size≤100))&&(p.ths.all tdL&&p.cms.all fun c=>exL c.e))
theorem Ze7 (l:List Nod):Pure Tryz.prog 52 [w'5 l] (bD (exL l)):=by
 refine Fun.of T [.tmp 2] Tryz.func52 rfl Tryz.ntmps52 Tryz.results52 rfl (by kernel_rfl) ?_
 rcases z'i 250 l.length with h0|h0
 ·have e1:decide ((l.length:Int)>250)=true:=decide_eq_true (by omega)
  rw[show exL l=false by rw[exL,decide_eq_false (by omega)];rfl]
  repeat' first|refine mq1 (z'X @y'K @e1) ?_|exact z'p T (z'a _) ⟨rfl,rfl⟩|fail
 have e1:decide ((l.length:Int)>250)=false:=decide_eq_false (by omega)
 repeat' first|refine mq1 (z'X @y'K @e1) ?_|fail
 refine VC.loop {k:Nat//k≤l.length∧ ∀i,i<k→(decide ((l.getD i y'e).nm.size≤100)&&decide ((l.getD i y'e).inn.size≤100))=true} (fun p=>⟨z'T [(0,w'5 l),(3,iD (p.1:Nat))],[]⟩) (fun p=>l.length-p.1) ⟨0,z'A _,fun i hi=>by omega⟩ ?_ ?_
 ·refine Weak.sub ?_
  simp[sub,upd]
 rintro⟨k,hk,hs⟩
 dsimp only at hk hs⊢
 have no:k<l.length→(decide ((l.getD k y'e).nm.size≤100)&&decide ((l.getD k y'e).inn.size≤100))=false→exL l=false:=fun h1 h2=>by rw[exL,v'D (p:=fun x:Nod=>decide (x.nm.size≤100)&&decide (x.inn.size≤100)) h1 h2,w'G]
 repeat' first|refine mq1 (y'Z @w'R @y'K @nodR.eq_1 @w64 @z'e) ?_|refine .wk ?_ ?_;focus(try omega)|refine z'p T (z'a _) ?_;(try simp only[upd,Nat.reduceBEq,cond_true,cond_false,and_true])|with_reducible refine z'n (fun hc=>?_) (fun hc=>?_)<;>(try simp only[decide_eq_true_eq,decide_eq_false_iff_not,gt_iff_lt,z'w]at hc)|fail
 ·rw[no (by omega) (by rw[decide_eq_false (p:=(l.getD k y'e).nm.size≤100) (by omega)];rfl)]
 ·rw[no (by omega) (by rw[decide_eq_false (p:=(l.getD k y'e).inn.size≤100) (by omega),w'G])]
 ·rename_i h1 h2
  refine⟨⟨k+1,by omega,y's hs (by rw[decide_eq_true (p:=(l.getD k y'e).nm.size≤100) (by omega),decide_eq_true (p:=(l.getD k y'e).inn.size≤100) (by omega)];rfl)⟩,Weak.sub ?_,by dsimp only;omega⟩
  simp[sub,upd]
 ·rw[show exL l=true by rw[exL,decide_eq_true (by omega),w'3 (p:=fun x:Nod=>decide (x.nm.size≤100)&&decide (x.inn.size≤100)) (d:=y'e) (k:=k) (by omega) hs];rfl]
theorem Zox (l:List Sm):Pure Tryz.prog 51 [v'I l] (bD (smL l)):=by
 refine Fun.of T [.tmp 2] Tryz.func51 rfl Tryz.ntmps51 Tryz.results51 rfl (by kernel_rfl) ?_
 rcases z'i 60 l.length with h0|h0
 ·have e1:decide ((l.length:Int)>60)=true:=decide_eq_true (by omega)
  rw[show smL l=false by rw[smL,decide_eq_false (by omega)];rfl]
  repeat' first|refine mq1 (z'X @v's @e1) ?_|exact z'p T (z'a _) ⟨rfl,rfl⟩|fail
 have e1:decide ((l.length:Int)>60)=false:=decide_eq_false (by omega)
 repeat' first|refine mq1 (z'X @v's @e1) ?_|fail
 refine VC.loop {k:Nat//k≤l.length∧ ∀i,i<k→Zet (l.getD i sm0)=true} (fun p=>⟨z'T [(0,v'I l),(3,iD (p.1:Nat))],[]⟩) (fun p=>l.length-p.1) ⟨0,z'A _,fun i hi=>by omega⟩ ?_ ?_
 ·refine Weak.sub ?_
  simp[sub,upd]
 rintro⟨k,hk,hs⟩
 dsimp only at hk hs⊢
 have no:k<l.length→Zet (l.getD k sm0)=false→smL l=false:=fun h1 h2=>by rw[smL,v'D h1 h2,w'G]
 have c1:=Ze7 (l.getD k sm0).e
 have c2:=Ze7 (l.getD k sm0).f
 repeat' first|refine mq2 (y'Z @x'T @v's @smR.eq_1 @w64 @z'e) (z'X c1 c2) ?_|refine .wk ?_ ?_;focus(try omega)|refine z'p T (z'a _) ?_;(try simp only[upd,Nat.reduceBEq,cond_true,cond_false,and_true])|with_reducible refine z'n (fun hc=>?_) (fun hc=>?_)<;>(try simp only[decide_eq_true_eq,decide_eq_false_iff_not,z'x,z'B,gt_iff_lt,z'w]at hc)|fail
 ·rw[no (by omega) (by rw[Zet,decide_eq_false (p:=(l.getD k sm0).reg.size≤100) (by omega)];rfl)]
 ·rw[no (by omega) (by rw[Zet,decide_eq_false (p:=(l.getD k sm0).loc.size≤100) (by omega)];simp)]
 ·rw[no (by omega) (by rw[Zet,hc];simp)]
 ·rw[no (by omega) (by rw[Zet,hc];simp)]
 ·rename_i h1 h2 h3 h4
  refine⟨⟨k+1,by omega,y's hs (by rw[Zet,decide_eq_true (p:=(l.getD k sm0).reg.size≤100) (by omega),decide_eq_true (p:=(l.getD k sm0).loc.size≤100) (by omega),h4,hc];rfl)⟩,Weak.sub ?_,by dsimp only;omega⟩
  simp[sub,upd]
 ·rw[show smL l=true by rw[smL,decide_eq_true (by omega),w'3 (p:=Zet) (d:=sm0) (k:=k) (by omega) hs];rfl]
theorem Zon (p:Pg):Pure Tryz.prog 12 [.agg (pgC p)] (bD (pgL p)):=by
 refine Fun.of T [.tmp 2] Tryz.func12 rfl Tryz.ntmps12 Tryz.results12 rfl (by kernel_rfl) ?_
 cases h0:(decide (p.locs.length≤20)&&(decide (p.ths.length≤8)&&decide (p.cms.length≤12)))with
 |false=>
  rw[show pgL p=false by rw[pgL,h0];rfl]
  simp only[v'd,decide_eq_false_iff_not]at h0
  repeat' first|refine vb (t:=26) rfl rfl rfl rfl ?_|refine mq1 (x'i @v'o @w'D @Zbw) ?_|exact z'p T (z'a _) ⟨rfl,rfl⟩|with_reducible refine z'n (fun hc=>?_) (fun hc=>?_)<;>(try simp only[decide_eq_true_eq,decide_eq_false_iff_not,gt_iff_lt,z'w]at hc)<;>(try(exfalso;omega))|fail
  all_goals(exfalso;omega)
 |true=>
 have hP:pgL p=((p.locs.all fun v=>decide (v.nm.size≤100))&&(p.ths.all tdL&&p.cms.all fun c=>exL c.e)):=by rw[pgL,h0];rfl
 rw[hP]
 simp only[z'f,decide_eq_true_eq]at h0
 obtain⟨l1,l2,l3⟩:=h0
 have f1:decide ((p.locs.length:Int)>20)=false:=decide_eq_false (by omega)
 have f2:decide ((p.ths.length:Int)>8)=false:=decide_eq_false (by omega)
 have f3:decide ((p.cms.length:Int)>12)=false:=decide_eq_false (by omega)
 repeat' first|refine vb (t:=26) rfl rfl rfl rfl ?_|refine mq1 (x'V @v'o @w'D @Zbw @f1 @f2 @f3) ?_|fail
 refine VC.loop {k:Nat//k≤p.locs.length∧ ∀i,i<k→decide ((p.locs.getD i lv0).nm.size≤100)=true} (fun q=>⟨z'T [(1,.pt (pgC p)),(3,iD (q.1:Nat))],[]⟩) (fun q=>p.locs.length-q.1) ⟨0,z'A _,fun i hi=>by omega⟩ ?_ ?_
 ·refine Weak.sub ?_
  simp[sub,upd]
 rintro⟨k,hk,hs⟩
 dsimp only at hk hs⊢
 repeat' first|refine mq1 (y'Z @ZeJ @v'o @lvR.eq_1 @w64 @z'e) ?_|refine .wk ?_ ?_;focus(try omega)|refine z'p T (z'a _) ?_;(try simp only[upd,Nat.reduceBEq,cond_true,cond_false,and_true])|with_reducible refine z'n (fun hc=>?_) (fun hc=>?_)<;>(try simp only[decide_eq_true_eq,decide_eq_false_iff_not,gt_iff_lt,z'w]at hc)|fail
 ·rw[v'D (p:=fun v:Lv=>decide (v.nm.size≤100)) (d:=lv0) (i:=k) (by omega) (decide_eq_false (by omega))];rfl
 ·refine⟨⟨k+1,by omega,y's hs (decide_eq_true (by omega))⟩,Weak.sub ?_,by dsimp only;omega⟩
  simp[sub,upd]
 have hA:=w'3 (p:=fun v:Lv=>decide (v.nm.size≤100)) (d:=lv0) (l:=p.locs) (k:=k) (by omega) hs
 rw[hA,y'Y]
 clear hs hc hk
 repeat' first
  |(refine vs T rfl fun K hK=>?_;(try simp (disch:=omega) only[go_sem,Nat.reduceBEq,Nat.reduceAdd,Nat.reduceMul,Nat.reduceSub,Nat.reduceLeDiff,Int.reduceToNat]);(first|(refine hK _ _ ?_;clear hK K)|(intro bq hbq;(try simp only[HB]at hbq);refine hK _ _ ?_;clear hK K)|(refine⟨?_,hK _ _ ?_⟩<;>clear hK K;focus(try(first|omega|exact⟨rfl,by decide⟩|exact rfl)))|(refine⟨_,?_,hK _ _ ?_⟩<;>clear hK K)|skip))
  |(refine st rfl ?_)
  |(refine sc rfl ?_)
  |(refine nl ?_)
  |(refine gs rfl rfl ?_)
  |(refine gu rfl rfl ?_)
  |(refine ov ?_)
  |(exact z'p T (z'a _) rfl)
  |(exact z'p T (z'a _) ⟨rfl,rfl⟩)
  |(refine z'p T (z'a _) ?_;(try simp only[upd,Nat.reduceBEq,cond_true,cond_false,and_true]))
  |(with_reducible refine gt ?_ ?_;focus(simp (disch:=omega) only[go_sem,Nat.reduceBEq,Nat.reduceAdd,Nat.reduceMul,Nat.reduceSub,Nat.reduceLeDiff,Int.reduceToNat];done))
  |(with_reducible refine gf ?_ ?_;focus(simp (disch:=omega) only[go_sem,Nat.reduceBEq,Nat.reduceAdd,Nat.reduceMul,Nat.reduceSub,Nat.reduceLeDiff,Int.reduceToNat];done))
  |(with_reducible refine z'n (fun hc=>?_) (fun hc=>?_)<;>(try simp only[decide_eq_true_eq,decide_eq_false_iff_not,beq_iff_eq,beq_eq_false_iff_ne,bne_iff_ne,bne_eq_false_iff_eq,ne_eq,z'x,z'B,Bool.not_eq_true,Bool.not_eq_false,ge_iff_le,gt_iff_lt,y'b,z'w,Decidable.not_not]at hc)<;>(try(exfalso;omega)))
 refine VC.loop {k:Nat//k≤p.ths.length∧ ∀i,i<k→tdL (p.ths.getD i td0)=true} (fun q=>⟨z'T [(1,.pt (pgC p)),(4,iD (q.1:Nat))],[]⟩) (fun q=>p.ths.length-q.1) ⟨0,z'A _,fun i hi=>by omega⟩ ?_ ?_
 ·refine Weak.sub ?_
  simp[sub,upd]
 rintro⟨k,hk,hs⟩
 dsimp only at hk hs⊢
 rcases z'i k p.ths.length with hlt|hge
 ·have e1:decide ((k:Int)<(p.ths.length:Int))=true:=decide_eq_true (by omega)
  have n2:=Zox (p.ths.getD k td0).body
  have no1:tdL (p.ths.getD k td0)=false→(p.ths.all tdL&&p.cms.all fun c=>exL c.e)=false:=fun h2=>by rw[v'D hlt h2];rfl
  repeat' first|refine mq2 (x'V @ZcT @w'D @tdR.eq_1 @w'W @z'e @e1) n2 ?_|refine mqn fun bq hbq=>?_|refine .wk ?_ ?_;focus(try omega)|refine z'p T (z'a _) ?_;(try simp only[upd,Nat.reduceBEq,cond_true,cond_false,and_true])|with_reducible refine z'n (fun hc=>?_) (fun hc=>?_)<;>(try simp only[decide_eq_true_eq,decide_eq_false_iff_not,z'x,z'B,gt_iff_lt,z'w]at hc)|fail
  ·rw[no1 (by rw[tdL,decide_eq_false (p:=(p.ths.getD k td0).nm.size≤100) (by omega)];rfl)]
  ·rw[no1 (by rw[tdL,decide_eq_false (p:=(p.ths.getD k td0).regs.length≤20) (by omega)];simp)]
  ·rw[no1 (by rw[tdL,hc];simp)]
  rename_i h1 h2
  clear n2
  refine VC.loop {j:Nat//j≤(p.ths.getD k td0).regs.length∧ ∀i,i<j→decide (((p.ths.getD k td0).regs.getD i e0).size≤100)=true} (fun q=>⟨z'T [(1,.pt (pgC p)),(4,iD (k:Nat)),(5,ptB bq),(6,iD (q.1:Nat))],[(bq,.cells 45 4 (tdR (p.ths.getD k td0)))]⟩) (fun q=>(p.ths.getD k td0).regs.length-q.1) ⟨0,z'A _,fun i hi=>by omega⟩ ?_ ?_
  ·refine z'Q rfl ?_
   simp[sub,upd]
  rintro⟨j,hj,hr⟩
  dsimp only at hj hr⊢
  rcases z'i j (p.ths.getD k td0).regs.length with hlj|hge
  ·have e2:decide ((j:Int)<((p.ths.getD k td0).regs.length:Int))=true:=decide_eq_true (by omega)
   repeat' first|refine mq1 (x'V @ZeK @w'W @tdR.eq_1 @w64 @z'e @e2) ?_|refine .wk ?_ ?_;focus(try omega)|refine z'p T (z'a _) ?_;(try simp only[upd,Nat.reduceBEq,cond_true,cond_false,and_true])|with_reducible refine z'n (fun hc=>?_) (fun hc=>?_)<;>(try simp only[decide_eq_true_eq,decide_eq_false_iff_not,gt_iff_lt,z'w]at hc)|fail
   ·rw[no1 (by rw[tdL,v'D (p:=fun s:ByteArray=>decide (s.size≤100)) (d:=e0) hlj (decide_eq_false (by omega))];simp)]
   ·refine⟨⟨j+1,by omega,y's hr (decide_eq_true (by omega))⟩,z'Q rfl ?_,by dsimp only;omega⟩
    simp[sub,upd, -List.getD_eq_getElem?_getD]
  have e2:decide ((j:Int)<((p.ths.getD k td0).regs.length:Int))=false:=decide_eq_false (by omega)
  have hR:=w'3 (p:=fun s:ByteArray=>decide (s.size≤100)) (d:=e0) (l:=(p.ths.getD k td0).regs) (by omega) hr
  repeat' first|refine mq1 (x'f @w'W @tdR.eq_1 @w64 @e2) ?_|fail
  refine⟨⟨k+1,by omega,y's hs (by rw[tdL,decide_eq_true (p:=(p.ths.getD k td0).nm.size≤100) (by omega),decide_eq_true (p:=(p.ths.getD k td0).regs.length≤20) (by omega),hc,hR];rfl)⟩,y'U rfl ?_,by dsimp only;omega⟩
  simp[sub,upd]
 have e1:decide ((k:Int)<(p.ths.length:Int))=false:=decide_eq_false (by omega)
 have hB:=w'3 (p:=tdL) (d:=td0) (l:=p.ths) (by omega) hs
 rw[hB,y'Y]
 clear hs
 repeat' first|refine mq1 (z'X @w'D @e1) ?_|fail
 refine VC.loop {k:Nat//k≤p.cms.length∧ ∀i,i<k→exL (p.cms.getD i cm0).e=true} (fun q=>⟨z'T [(1,.pt (pgC p)),(7,iD (q.1:Nat))],[]⟩) (fun q=>p.cms.length-q.1) ⟨0,z'A _,fun i hi=>by omega⟩ ?_ ?_
 ·refine Weak.sub ?_
  simp[sub,upd]
 rintro⟨k,hk,hs⟩
 dsimp only at hk hs⊢
 have n1:=Ze7 (p.cms.getD k cm0).e
 repeat' first|refine mq2 (y'Z @Zim @Zbw @cmR.eq_1 @w64 @z'e) n1 ?_|refine .wk ?_ ?_;focus(try omega)|refine z'p T (z'a _) ?_;(try simp only[upd,Nat.reduceBEq,cond_true,cond_false,and_true])|with_reducible refine z'n (fun hc=>?_) (fun hc=>?_)<;>(try simp only[decide_eq_true_eq,decide_eq_false_iff_not,z'x,z'B,z'w]at hc)|fail
 ·rw[v'D (p:=fun c:Cm=>exL c.e) (d:=cm0) (i:=k) (by omega) hc]
 ·refine⟨⟨k+1,by omega,y's hs hc⟩,Weak.sub ?_,by dsimp only;omega⟩
  simp[sub,upd]
 ·rw[w'3 (p:=fun c:Cm=>exL c.e) (d:=cm0) (k:=k) (by omega) hs]
theorem ZiM {l:List Nod} (h:exL l=true):l.length≤1000:=by
 simp only[exL,z'f,decide_eq_true_eq]at h
 omega
theorem Zus {p:Pg} (h:pgL p=true):Zeg p:=by
 simp only[pgL,z'f,decide_eq_true_eq,z'q]at h
 refine⟨by omega,by omega,by omega,fun t ht=>?_,fun c hc=>ZiM (h.2.2.2 c hc)⟩
 have h1:=h.2.2.1 t ht
 simp only[tdL,smL,z'f,decide_eq_true_eq]at h1
 refine⟨by omega,by omega,fun x hx=>?_⟩
 have h2:=z'q.1 h1.2.2.1.2 x hx
 simp only[Zet,z'f]at h2
 exact⟨ZiM h2.2.2.1,ZiM h2.2.2.2⟩
end Go.Proofs.YthlkpnjjkgmlkaaGreat
