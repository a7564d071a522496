/- The statement of ClaimDuals. No condition. -/
import Derived.Test.YthlkpnjjkgmlkaaGreatMm
import Derived.Test.YthlkpnjjkgmlkaaGreatLc
import Derived.Test.YthlkpnjjkgmlkaaGreatMn
import Derived.Test.YthlkpnjjkgmlkaaGreatYp
namespace Go.Proofs.YthlkpnjjkgmlkaaGreat
set_option maxHeartbeats 16000000
set_option linter.unusedSimpArgs false
set_option linter.unusedVariables false
set_option maxRecDepth 20000
open Go Go.Proofs Go.Vc
theorem ZjK: ∀(l r:List Opc) (n m:Int),w'i (l++r) n m=(match w'i l n m with|some p=>w'i r p.1 p.2|none=>none)
 |[],r,n,m=>rfl
 |x::l,r,n,m=>by
  rw[w'E,Zb1,Zb1]
  cases y'v x.1 n with
  |none=>rfl
  |some k=>exact ZjK l r k _
def Zaw (l:List Opc):List Opc:=l++[(5,0,0)]
theorem ZoY {l:List Opc} {rs:List Int} {own locs:Int} (h:y'G l rs own locs=true):y'G (Zaw l) rs own locs=true:=by
 simp only[y'G,z'f]at h⊢
 obtain⟨h1,h2⟩:=h
 refine⟨by rw[Zaw,List.all_append,h1];rfl,?_⟩
 rw[Zaw,ZjK]
 cases hl:w'i l 0 0 with
 |none=>rw[hl]at h2;cases h2
 |some p=>
  rw[hl]at h2
  obtain⟨n,m⟩:=p
  have:n=1:=by simpa[oneL]using h2
  subst this
  rfl
theorem Ztw {md:Int} (hm:2≤md) {own mem:List Int} {all:List (List Int)} {l:List Opc} (h:w'1 l md own all mem=true):(ZdO md own all mem l []).length=1:=by
 obtain⟨s,hs⟩:=ZpX hm h l.length (z'h _)
 have hr:=hs.run
 obtain⟨most,hk⟩:=hs.ok
 rw[List.drop_length]at hr hk
 rw[←hr]
 have:(s.length:Int)=1:=by simpa[w'i,oneL]using hk
 show s.length=1
 omega
theorem Zmn {l:List Opc} {md:Int} {own mem:List Int} {all:List (List Int)} (h:w'1 l md own all mem=true):w'1 (Zaw l) md own all mem=true:=by
 simp only[w'1,z'f]at h⊢
 exact⟨h.1,ZoY h.2⟩
theorem ZrR {l:List Opc} {md:Int} (hm:2≤md) {own mem:List Int} {all:List (List Int)} (h:w'1 l md own all mem=true):Zcc (Zaw l) md own all mem=tI (Zcc l md own all mem == 0):=by
 have h1:=Ztw hm h
 unfold Zcc
 rw[h,Zmn h]
 simp only
 have e:ZdO md own all mem (Zaw l) []=w'c md own all mem (ZdO md own all mem l []) (5,0,0):=by
  simp only[ZdO,Zaw,List.foldl_append,List.foldl_cons,List.foldl_nil]
 rw[e]
 generalize ZdO md own all mem l []=s at h1
 match s,h1 with
 |[v],_=>rfl
theorem Ztn {u:Un} {c:Cf} {m r:Int} (h:Rt u c m r):x'y c.regs=u.regs:=by
 have hl:=h.lens
 refine List.ext_getElem (by rw[x'y,z'm];exact hl.2.1) fun i h1 h2=>?_
 obtain⟨x,row,b,p,ha⟩:=h.at (i:=i) (by omega)
 obtain⟨rw_,n,_,hn,_,hr,_⟩:=ha.kind
 have e1:u.regs[i]=n:=z'O ((z'c h2).symm.trans hn)
 have hi:i<c.regs.length:=by omega
 have e2:c.regs[i]=row:=z'O ((z'c hi).symm.trans ha.thr.reg)
 simp only[x'y,List.getElem_map]
 rw[e1,e2];exact hr
theorem Ztu {u:Un} {c:Cf} {m r:Int} (h:Rt u c m r):(c.regs.all fun r=>y'O r u.md)=true:=by
 rw[z'q]
 intro row hrow
 obtain⟨i,hi⟩:=y'k hrow
 have hl:=h.lens
 have hlt:=(z'b.1 hi).1
 have ht:=h.thr (t:=i) (by omega)
 have hro:c.regs.getD i []=row:=by rw[z'g,hi];rfl
 simp only[Zgq,z'f,decide_eq_true_eq,hro]at ht
 first|exact ht.1.2|exact ht.2|exact ht.1.1.2
theorem ZtH {u:Un} {c:Cf} {m r:Int} (h:Rt u c m r) {l:List Opc} (hl:y'G l u.regs 0 u.init.length=true):w'1 l u.md [] c.regs c.mem=true:=by
 have hL:=h.lens
 have hu:=h.uhead
 have hr:=Ztn h
 simp only[w'1,z'f,decide_eq_true_eq]
 refine⟨⟨⟨⟨⟨hu.1.1,hu.1.2⟩,rfl⟩,hL.2.2.2.2⟩,Ztu h⟩,?_⟩
 rw[hr,hL.2.2.2.1];exact hl
theorem ZsJ {u:Un} {c:Cf} {m r:Int} (h:Rt u c m r) {l:List Opc} (hl:y'G l u.regs 0 u.init.length=true):hoB u (Zaw l) c= !hoB u l c:=by
 have hv:=ZtH h hl
 have hu:=h.uhead
 rw[hoB,hoB,hv,Zmn hv,ZrR hu.1.1 hv,y'Y,y'Y]
 simp only[bne]
 cases Zcc l u.md [] c.regs c.mem == 0<;>rfl
theorem ZnV {p q:Cf→Bool} {C:List Cf} (h: ∀c,c∈C→p c=q c):x'n p C=x'n q C:=by
 have:C.findIdx? p=C.findIdx? q:=by
  induction C with
  |nil=>rfl
  |cons c C ih=>
   rw[List.findIdx?_cons,List.findIdx?_cons,h c (z'z ..),ih fun x hx=>h x (z'd _ hx)]
 unfold x'n
 rw[this]
theorem Zjz {p:Cf→Bool} {C:List Cf}:x'n p C<0↔ ∀c,c∈C→p c=false:=by
 unfold x'n
 cases h:C.findIdx? p with
 |none=>exact⟨fun _=>List.findIdx?_eq_none_iff.1 h,fun _=>by decide⟩
 |some i=>
  refine⟨fun hn=>by simp only at hn;omega,fun hn=>?_⟩
  rw[List.findIdx?_eq_none_iff.2 hn]at h;cases h
theorem ZnS {u:Un} {C:List Cf} {m r:Int} (hC: ∀c,c∈C→Rt u c m r) {l:List Opc} (hl:y'G l u.regs 0 u.init.length=true):x'n (soB u (Zaw l) true true) C=x'n (soB u l true false) C:=by
 refine ZnV fun c hc=>?_
 rw[soB,soB,ZsJ (hC c hc) hl]
 cases hoB u l c<;>rfl
theorem ZnQ {u:Un} {C:List Cf} {l:List Opc} (h:x'n (soB u l false false) C<0):x'n (soB u l true false) C<0:=by
 rw[Zjz]at h⊢
 intro c hc
 have:=h c hc
 simp only[soB,z'W,Bool.true_or,v'C]at this
 rw[soB,this,v'V]
def plN (p:Cf→Bool) (C:List Cf) (k:Nat):List Int:=((List.range k).filter fun i=>p (C.getD i default)).map fun(i:Nat)=>(i:Int)
theorem Zrl (p:Cf→Bool) (C:List Cf) (k:Nat):plN p C (k+1)=plN p C k++(match p (C.getD k default)with|true=>[(k:Int)]|false=>[]):=by
 unfold plN
 rw[y'p,z'6,z'E]
 congr 1
 rw[x'1,List.filter_nil]
 cases p (C.getD k default)<;>rfl
theorem Ztb (p:Cf→Bool) (C:List Cf) (k:Nat):(plN p C k).length≤k:=by
 unfold plN
 rw[z'm]
 exact z'7 (List.length_filter_le _ _) (by rw[List.length_range];exact z'h _)
theorem Ztc {p:Cf→Bool} {C:List Cf} (h:plN p C C.length=[]): ∀c,c∈C→p c=false:=by
 intro c hc
 obtain⟨i,hi⟩:=y'k hc
 have hlt:=(z'b.1 hi).1
 have e:C.getD i default=c:=by rw[z'g,hi];rfl
 unfold plN at h
 rw[List.map_eq_nil_iff,List.filter_eq_nil_iff]at h
 have:=h i (z'U.2 hlt)
 rw[e]at this
 exact Bool.eq_false_iff.2 this
theorem ZnR {u:Un} {C:List Cf} {l:List Opc} {so:Bool} (h:plN (w'h u) C C.length=[]):x'n (soB u l true so) C<0:=by
 rw[Zjz]
 intro c hc
 rw[soB,Ztc h c hc,z'P,Bool.false_or,w'G]
theorem Zs6 (u:Un) (C:List Cf) (P B:List Int) (l:List Opc):w'j u C P B 1 l=⟨!decide (0≤x'n (soB u l true false) C),decide (0≤x'n (soB u l true false) C),if 0≤x'n (soB u l true false) C then toI C.length P B (x'n (soB u l true false) C)else[]⟩:=by
 unfold w'j
 rw[if_neg (by decide)]
 simp only[show decide ((1:Int)≠3)=true from rfl,show decide ((1:Int)=2)=false from rfl]
 congr 1
 cases decide (0≤x'n (soB u l true false) C)<;>rfl
theorem Zs7 (u:Un) (C:List Cf) (P B:List Int) (l:List Opc):w'j u C P B 2 l=⟨decide (0≤x'n (soB u l true true) C),decide (0≤x'n (soB u l true true) C),if 0≤x'n (soB u l true true) C then toI C.length P B (x'n (soB u l true true) C)else[]⟩:=by
 unfold w'j
 rw[if_neg (by decide)]
 rw[show decide ((2:Int)≠3)=true from rfl,show decide ((2:Int)=2)=true from rfl]
 congr 1
 cases decide (0≤x'n (soB u l true true) C)<;>rfl
theorem Zs8 (u:Un) (C:List Cf) (P B:List Int) (l:List Opc):(w'j u C P B 3 l).holds= !decide (0≤x'n (soB u l false false) C):=by
 unfold w'j
 rw[if_neg (by decide)]
 simp only[show decide ((3:Int)≠3)=false from rfl,show decide ((3:Int)=2)=false from rfl]
 cases decide (0≤x'n (soB u l false false) C)<;>rfl
theorem Zu8 {u:Un} {C:List Cf} {P B:List Int} {m r:Int} (hC: ∀c,c∈C→Rt u c m r) {l:List Opc} (hl:y'G l u.regs 0 u.init.length=true):
  (w'j u C P B 1 l).holds= !(w'j u C P B 2 (Zaw l)).holds∧(w'j u C P B 1 l).path=(w'j u C P B 2 (Zaw l)).path∧((w'j u C P B 3 l).holds=true→(w'j u C P B 1 l).holds=true)∧(plN (w'h u) C C.length=[]→(w'j u C P B 1 l).holds=true):=by
 rw[Zs6,Zs7,Zs8,ZnS hC hl]
 refine⟨rfl,rfl,fun h=>?_,fun h=>?_⟩
 ·have h':x'n (soB u l false false) C<0:=by simpa using h
  have:=ZnQ h'
  simpa using this
 ·have:=ZnR (l:=l) (so:=false) h
  simpa using this
attribute [local irreducible] x'v VCg VCw VCx
theorem Zl0 (u:Un) (hu:OkU u) (C:List Cf) (g:Cs) (P B:List Int) (hl:C.length≤1000000) (hC: ∀c,c∈C→OkC c):Pure Tryz.prog 39 [.agg (unC u),.agg (spC C g P B)] (y'r (plN (w'h u) C C.length)):=by
 refine Fun.fz ?_
 refine Fun.of T [.tmp 4] Tryz.func39 rfl Tryz.ntmps39 Tryz.results39 rfl (by kernel_rfl) ?_
 repeat' first|refine vb (t:=57) rfl rfl rfl rfl ?_|refine vb (t:=32) rfl rfl rfl rfl ?_|refine mq0 ?_|fail
 refine VC.loop {x:Nat×G//x.1≤C.length∧gOk x.2 (plN (w'h u) C x.1).length} (fun x=>⟨z'T [(2,.pt (unC u)),(3,.pt (spC C g P B)),(5,.gs x.1.2 (plN (w'h u) C x.1.1).length),(6,iD (x.1.1:Nat))],shp x.1.2 3 1 ((plN (w'h u) C x.1.1).map iD) []⟩) (fun x=>C.length-x.1.1) ⟨(0,none),z'A _,rfl⟩ ?_ ?_
 ·refine Weak.sub ?_
  simp[sub,upd,plN]
 rintro⟨⟨k,x⟩,hk,hx⟩
 dsimp only at hk hx⊢
 rcases z'i k C.length with hlt|hge
 case inr=>
  obtain rfl:k=C.length:=by omega
  repeat' first|refine mq1 @w'd ?_|with_reducible refine z'n (fun hc=>?_) (fun hc=>?_)<;>(try simp only[decide_eq_true_eq,decide_eq_false_iff_not,z'w]at hc)<;>(try(exfalso;omega))|fail
  exact z'p T (z'v _) (w'H (e:=3) hx fun b c e=>by subst e;exact x'J)
 have hO:=hC _ (x'p (d:=(default:Cf)) hlt)
 have cf:=Zj0 u (C.getD k default) (by have:=hu.cod;omega) (by have:=hO.bufs;omega)
 have hlen:=Ztb (w'h u) C k
 have hs:=Zrl (w'h u) C k
 cases hp:w'h u (C.getD k default)
 all_goals
  rw[hp]at hs cf
  simp only at hs
  repeat' first|refine dr (id:=5) T 6 (by kernel_rfl) ?_|apply VCg.step T rfl rfl;focus((try simp (disch:=omega) only[go_sem,Nat.reduceBEq,Nat.reduceAdd,Nat.reduceLeDiff,Zf6]);(first|exact rfl|refine⟨?_,rfl⟩;try omega))|refine mq2 (z'X @w'd @w64) cf ?_|refine vs T rfl fun K hK=>?_;(try simp (disch:=omega) only[go_sem,Nat.reduceBEq,Nat.reduceMul,Nat.reduceLeDiff,w'd,w64]);(first|refine⟨_,_,_,_,(by repeat (exact Sp.here)),?_,(by exact⟨rfl,rfl⟩),⟨by decide,?_⟩,fun g' hg'=>hK _ _ ?_⟩<;>clear hK K)|with_reducible refine z'n (fun hc=>?_) (fun hc=>?_)<;>(try simp only[decide_eq_true_eq,decide_eq_false_iff_not,z'w]at hc)<;>(try(exfalso;omega))|fail
 ·refine⟨⟨(k+1,x),hlt,by rw[hs,z'I];exact hx⟩,z'Q ?_ ?_,by dsimp only;omega⟩
  ·dsimp only
   rw[hs,z'I]
  ·simp[sub,upd,hs]
 ·rw[z'm,y'd]
 ·omega
 ·refine⟨⟨(k+1,g'),hlt,by rw[hs,z'j];exact hg'⟩,z'Q ?_ ?_,by dsimp only;omega⟩
  ·dsimp only
   rw[hs,z'E]
   rfl
  ·simp[sub,upd,hs]
theorem ZkF {env:Nat→D} {b n t:Nat} {e:TypeId} {l:List D} {H H':Heap} (he:env t= .is (.pointer (some {block:=b,off:=0}))) (hm:(b,HC.cells e n l)∈H) (hn:b∉H'.blocks) (hs:H'.Sublist H):Weak ⟨env,H⟩ ⟨upd env t (.pt l),H'⟩:=by
 refine Weak.fz (H1:=[(b,HC.cells e n l)]) ?_ (fun b' c h=>?_) hs
 ·rw[he]
  exact .inr ⟨b,0,e,n,l,rfl,y'F.2 rfl,by simpa using FzC.refl _ l []⟩
 ·cases y'F.1 h
  exact⟨hm,hn⟩
theorem Pick.whole: ∀(H:Heap),Pick H H []
 |[]=> .nil
 |_::H=> .take (Pick.whole H)
theorem ZoD {l:List Int} {k:Nat} (h:k<l.length):l.take (k+1)=l.take k++[l.getD k 0]:=by
 rw[x'U,z'g,z'c h]
 rfl
theorem Zkh (p:Pg) (m r b:Int) (l:List Opc):Pure Tryz.prog 9 [.agg (Zqh p m r b),z'S l] (bD true):=by
 have k0:=Zio
 have c0:=ZjM p m r b
 refine Fun.fz ?_
 refine Fun.of T [.tmp 4] Tryz.func9 rfl Tryz.ntmps9 Tryz.results9 rfl (by kernel_rfl) ?_
 cases hI:Zc2 p m r b&&decide (l.length≤100)with
 |false=>
  obtain⟨C,g,P,B,hsp⟩:=ZlG p m r b
  rw[hsp]at c0
  simp only[v'd,decide_eq_false_iff_not]at hI
  repeat' first|refine vb (t:=52) rfl rfl rfl rfl ?_|refine mq2 @z'C (z'X c0 k0) ?_|refine mqn fun bq hbq=>?_|exact z'p T (z'a _) rfl|with_reducible refine z'n (fun hc=>?_) (fun hc=>?_)<;>(try simp only[decide_eq_true_eq,decide_eq_false_iff_not,z'x,z'B,gt_iff_lt,z'w]at hc)|fail
  exfalso
  rcases hI with h|h
  ·have hm:Zc2 p m r b=true:=by assumption
   rw[h]at hm;cases hm
  ·omega
 |true=>
 simp only[z'f,decide_eq_true_eq]at hI
 obtain⟨h1,h2⟩:=hI
 obtain⟨S,e1,e2,hU,hu,hA,hS,hT,hR,hb,_⟩:=Zpz h1
 rw[h1,e1,e2]at c0
 have hC: ∀c,c∈S.cf→OkC c:=fun c hc=>(hR c hc).okC
 have f1:decide ((l.length:Int)>100)=false:=decide_eq_false (by omega)
 have hlr:(mkU p).regs.length≤4:=by
  have:=hU;simp only[x'd,v'8,z'f,decide_eq_true_eq]at this
  exact this.1.1.2
 repeat' first|refine vb (t:=52) rfl rfl rfl rfl ?_|refine mq2 (z'X @z'C @f1) c0 ?_|refine mqn fun bq hbq=>?_|fail
 rename_i bu hbu
 generalize hU':mkU p=u at*
 have hcell: ∀k,k≤u.regs.length→(u.regs.take k).length=k:=fun k hk=>by rw[z'L];omega
 refine VC.weak (Weak.trans (ZkF (t:=5) (b:=bu) (n:=4) (e:=32) (l:=unC u) (H':=[(bq,.cells 57 6 (spA S))]) rfl (by simp) (by simpa[Heap.blocks]using fun e=>hbq e.symm) (by simp)) (ZkF (t:=6) (b:=bq) (n:=6) (e:=57) (l:=spA S) (H':=[]) rfl (by simp) (by simp[Heap.blocks]) (by simp))) ?_
 refine VC.loop {x:Nat×G//x.1≤u.regs.length∧gOk x.2 x.1} (fun x=>⟨z'T [(1,z'S l),(5,.pt (unC u)),(6,.pt (spA S)),(8,.gs x.1.2 x.1.1),(9,iD (x.1.1:Nat))],shp x.1.2 3 1 ((u.regs.take x.1.1).map iD) []⟩) (fun x=>u.regs.length-x.1.1) ⟨(0,none),z'A _,rfl⟩ ?_ ?_
 ·refine Weak.sub ?_
  simp[sub,upd]
 rintro⟨⟨k,x⟩,hk,hx⟩
 dsimp only at hk hx⊢
 rcases z'i k u.regs.length with hlt|hge
 case inl=>
  have hck:=hcell k hk
  have e3:decide ((k:Int)<(u.regs.length:Int))=true:=decide_eq_true (by omega)
  repeat' first|refine mq1 (x'V @x'F @w64 @z'e @e3 @unC.eq_1 @z'o) ?_|refine .wk ?_ ?_;focus(try omega)|refine vs T rfl fun K hK=>?_;(try simp (disch:=omega) only[go_sem,Nat.reduceBEq,Nat.reduceMul,Nat.reduceLeDiff,x'F,w64,z'e,e3,unC,z'o]);(first|refine⟨_,_,_,_,(by repeat (exact Sp.here)),?_,(by exact⟨rfl,rfl⟩),⟨by decide,?_⟩,fun g' hg'=>hK _ _ ?_⟩<;>clear hK K)|fail
  ·rw[z'm,hck,y'd]
  ·omega
  refine⟨⟨(k+1,g'),hlt,hg'⟩,z'Q ?_ ?_,by dsimp only;omega⟩
  ·dsimp only
   rw[ZoD hlt,z'E]
   rfl
  ·simp[sub,upd]
 obtain rfl:k=u.regs.length:=by omega
 rw[y'g]
 refine VC.weak (Weak.fzs (t:=8) (g:=x) (e:=3) (esz:=1) (rows:=iRs u.regs) (X:=[]) (by rw[Zfs]) (by rw[z'o];rfl) (ZeI _)) ?_
 have e4:decide ((u.regs.length:Int)<(u.regs.length:Int))=false:=decide_eq_false (by omega)
 have c6:=y'7 l (by omega) u.regs (by omega) 0 u.init.length
 have hn:(Zaw l).length=l.length+1:=by rw[Zaw,z'j];rfl
 have d1:=Zfy u hu S.cf (ZdA S) S.pa S.ag hT hC l (by omega) 1
 have d2:=Zfy u hu S.cf (ZdA S) S.pa S.ag hT hC (Zaw l) (by omega) 2
 have d3:=Zfy u hu S.cf (ZdA S) S.pa S.ag hT hC l (by omega) 3
 have c8:=Zl0 u hu S.cf (ZdA S) S.pa S.ag hT.len hC
 have hlp:=ZjS (u:=u) hT 2 (Zaw l)
 cases hcd:y'G l u.regs 0 u.init.length with
 |false=>
  rw[hcd]at c6
  clear d1 d2 d3 c8
  repeat' first|refine mq2 (x'i @unC.eq_1 @e4 @z'o) (z'X c6 k0) ?_|exact z'p T (z'a _) rfl|fail
 |true=>
 rw[hcd]at c6
 obtain⟨x1,x2,x3,x4⟩:=Zu8 (P:=S.pa) (B:=S.ag) hR hcd
 generalize w'j u S.cf S.pa S.ag 1 l=R1 at*
 generalize w'j u S.cf S.pa S.ag 2 (Zaw l)=R2 at*
 generalize w'j u S.cf S.pa S.ag 3 l=R3 at*
 generalize plN (w'h u) S.cf S.cf.length=F at*
 obtain⟨a1,b1,p1⟩:=R1
 obtain⟨a2,b2,p2⟩:=R2
 obtain⟨a3,b3,p3⟩:=R3
 dsimp only at x1 x2 x3 x4 hlp
 subst x1 x2
 have d7:=Zhd p1 hlp
 have hfz: ∀g':G,gOk g' (l.length+1)→FzL (shp g' 90 3 ((w'l l).flatten++[iD 5,iD 0,iD 0]) []) [.agg (unC u),.agg (spC S.cf (ZdA S) S.pa S.ag),iD 2,z'S (Zaw l)] [.agg (unC u),.agg (spC S.cf (ZdA S) S.pa S.ag),iD 2,.gs g' (l.length+1)]:=by
  intro g' hg'
  refine z'u (Fz.refl _ _) (z'u (Fz.refl _ _) (z'u (Fz.refl _ _) (z'u ?_ x'9)))
  have e:(w'l l).flatten++[iD 5,iD 0,iD 0]=(w'l (Zaw l)).flatten:=by simp[w'l,Zaw,opR]
  rw[e]
  exact ZaB hg' (by rw[z'C,hn]) (ZaS (f:=opR) (fun _=>rfl) _)
 cases a2
 ·repeat' first|refine mq2 (y'Z @unC.eq_1 @e4 @z'o @z'C @rsR.eq_1) (x'V c6 k0 d1 d3 d7 c8) ?_|refine mqn fun bq hbq=>?_|refine vs T rfl fun K hK=>?_;(try simp (disch:=omega) only[go_sem,Nat.reduceBEq,Nat.reduceAdd,Nat.reduceMul,Nat.reduceLeDiff,unC,e4,z'o,z'C,rsR,z'P,z'W]);(first|refine⟨_,_,_,_,(by repeat (first|exact Sp.here|exact Sp.nil)),?_,(by exact⟨rfl,rfl⟩),?_,fun g' hg'=>hK _ _ ?_⟩<;>clear hK K|refine Op1.callV rfl rfl (Fun.lendF d2 (hfz _ hg')) rfl (by repeat (first|apply Pick.skip|exact Pick.whole _)) ?_;refine hK _ _ ?_;clear hK K;(try simp only[y'i]))|refine gu rfl rfl ?_|exact z'p T (z'a _) rfl|with_reducible refine z'n (fun hc=>?_) (fun hc=>?_)<;>(try simp only[beq_iff_eq,beq_eq_false_iff_ne,ne_eq]at hc)|fail
  all_goals first|rfl|omega|exact v'E (f:=opR) (fun _=>rfl) l
 ·cases a3 with
  |true=>exact absurd (x3 rfl) Bool.false_ne_true
  |false=>
  cases F with
  |nil=>exact absurd (x4 rfl) Bool.false_ne_true
  |cons f F=>
  have f9:decide (((f::F).length:Int)=0)=false:=decide_eq_false (by rw[z'r];omega)
  repeat' first|refine mq2 (y'Z @unC.eq_1 @e4 @z'o @z'C @rsR.eq_1) (x'V c6 k0 d1 d3 d7 c8) ?_|refine mqn fun bq hbq=>?_|refine vs T rfl fun K hK=>?_;(try simp (disch:=omega) only[go_sem,Nat.reduceBEq,Nat.reduceAdd,Nat.reduceMul,Nat.reduceLeDiff,unC,e4,z'o,z'C,rsR,z'P]);(first|refine⟨_,_,_,_,(by repeat (first|exact Sp.here|exact Sp.nil)),?_,(by exact⟨rfl,rfl⟩),?_,fun g' hg'=>hK _ _ ?_⟩<;>clear hK K|refine Op1.callV rfl rfl (Fun.lendF d2 (hfz _ hg')) rfl (by repeat (first|apply Pick.skip|exact Pick.whole _)) ?_;refine hK _ _ ?_;clear hK K;(try simp only[y'i]))|refine gu rfl rfl ?_|exact z'p T (z'a _) rfl|fail
  all_goals first|rfl|omega|exact v'E (f:=opR) (fun _=>rfl) l
end Go.Proofs.YthlkpnjjkgmlkaaGreat
namespace Go.Proofs.YthlkpnjjkgmlkaaGreat
set_option linter.unusedSimpArgs false
set_option linter.unusedVariables false
open Go Go.Proofs Go.Vc Go.ChangeShapes Go.WideShapes Go.ChangeAt Go.RowKit Go.Joins
theorem Zg1 (Ds:List D) (h:ShA [.many ZeA,.one (.sl [.int .i64,.int .i64,.int .i64])] Ds):Pure Tryz.prog 9 Ds (bD true):=by
 obtain⟨_,_,rfl,h1,_,_,rfl,h2,h3⟩:=h
 rw[ShA]at h3;subst h3
 obtain⟨p,m,r,b,rfl⟩:=ZhT h1
 obtain⟨l,rfl⟩:=Zp0 h2
 exact Zkh p m r b l
theorem Zhn {a b:Bool} (h:a=true) (k:b=true):(a&&b)=true:=by subst h;subst k;rfl
theorem x'z {a b:Bool} (h:(a&&b)=true):a=true∧b=true:=by cases a<;>cases b<;>first|exact⟨rfl,rfl⟩|cases h
theorem ZdF:(laidOutB Tryz.pinned.checked.prog&&mapsRowed Tryz.pinned.checked.prog)=true:=by kernel_rfl
theorem ZbA:((Rows.claimDualsRow.inPlace == Tryz.pinned.checked.prog.inPlace 9)&&(Rows.claimDualsRow.unfollowed == Tryz.pinned.checked.prog.unfollowed 9)&&(Rows.claimDualsRow.recurses == Tryz.pinned.checked.prog.recurses 9))=true:=by kernel_rfl
theorem ZgX:(Rows.claimDualsRow.named == Tryz.pinned.checked.prog.varsNamed 9)=true:=by kernel_rfl
theorem Zc5:(Rows.claimDualsRow.plainKeys == Tryz.pinned.checked.prog.plainKeys&&Tryz.pinned.checked.prog.stopsHeard)=true:=by kernel_rfl
theorem ZgV:Tryz.pinned.checked.prog.mayEnter=true:=by kernel_rfl
theorem ZdH:((Rows.claimDualsRow.lifted == Tryz.pinned.checked.prog.liftsFinal)&&(Tryz.pinned.checked.prog.make == some Rows.claimDualsRow.make))=true:=by kernel_rfl
set_option maxRecDepth 100000 in
theorem ZgZ:joinedFacts Tryz.pinned.checked.prog 9 Tryz.f9 Rows.claimDualsSpec Rows.claimDualsRow=true:=by
 unfold joinedFacts
 repeat' with_reducible refine Zhn ?_ ?_
 all_goals first
  |with_reducible exact(x'z ZdF).1|with_reducible exact(x'z ZdF).2
  |with_reducible exact(x'z (x'z ZbA).1).1|with_reducible exact(x'z (x'z ZbA).1).2|with_reducible exact(x'z ZbA).2
  |with_reducible exact ZgX|with_reducible exact(x'z Zc5).1|with_reducible exact(x'z Zc5).2|with_reducible exact ZgV
  |with_reducible exact(x'z ZdH).1|with_reducible exact(x'z ZdH).2
  |kernel_rfl
set_option maxRecDepth 100000 in
theorem Zg3 (os:Os) (started:os.Started) (H:Type) (enc:TypeId×Value→H):
  ReturnsInHanded {} Tryz.checked os 9 .any (Rows.claimDualsSpec.pre6 enc Tryz.prog Tryz.f9 Rows.claimDualsRow.domain false) (Rows.claimDualsSpec.post enc Tryz.prog Tryz.f9 false true false false):=by
 refine returnsInHanded_of_change (C:=Tryz.checked) Zuq started (by kernel_rfl) Tryz.func9
  (ChangeSpec.witness6 (enc:=enc) (C:=Tryz.checked) false ⟨#[], #[.agg #[.int .i64 0,.slice none 0 0,.slice none 0 0,.slice none 0 0,.int .i64 0,.int .i64 0,.int .i64 0],.slice none 0 0],[]⟩ 12 (by kernel_rfl) (by kernel_rfl) (by kernel_rfl) (by kernel_rfl)) ?_
 intro W base args ds gs before hval0 hW hcnd _
 have hval: ∀(j:Nat) t v,Tryz.f9.params[j]?=some t→args[j]?=some v→Value.okWide Tryz.prog W .any base t v:=hval0
 have hW':=hW
 obtain⟨p,q,hA0,hV,rfl,hfz,hnd⟩:=hW
 have hA:DataW.TrodAll enc Tryz.prog W 0 (fun _=>true) true Tryz.f9.params.toList args.toList ds p:=hA0
 obtain⟨rfl,rfl⟩:=trodVars_none hV
 obtain⟨Ds,hS,hR⟩:=Zgf (L:=live [] (fun _=>False)) (fun b hb=>hb.elim id (fun h=>by cases h)) _ _ _ _ [.many ZeA,.one (.sl [.int .i64,.int .i64,.int .i64])] hA
  (fun j t v h1 h2=>hval j t v (by simpa using h1) (by simpa using h2)) (by kernel_rfl)
 obtain⟨d0,d1,rfl⟩:=Zp2 (Zev _ _ _ _ hA)
 simp only[z'I]at hW'
 have hlt: ∀x∈p,x.block<W.heap.size:=fun x hx=>by simpa using hW'.lt x hx
 refine(Zju (Zg1 Ds hS) W args.toList hR).mono fun e W' ⟨he,hw⟩=>?_
 subst he
 exact⟨_,rfl,_,_,_,[],p,[],hW',trodAll_mk1 (shut_bool Tryz.underlying4 _),Zgo (by kernel_rfl) hw _ _ _ _ (by kernel_rfl) hA hlt,rfl,hw.frame _,fun h=>by cases h⟩
theorem ClaimDuals_holds:Rows.ClaimDualsSaid:=
 OpenClaim.holds_of_wide 9 Tryz.f9 rfl rfl rfl rfl rfl rfl rfl ⟨rfl,rfl,rfl,rfl,rfl⟩ rfl rfl rfl rfl rfl (by kernel_rfl) Tryz.func9 ZgZ
  (of_decide_eq_true (by kernel_rfl)) (by unfold Func.isWrapper;first|(rw[if_pos (by decide+kernel)];kernel_rfl)|(rw[if_neg (by decide+kernel)];exact⟨rfl,rfl⟩))
  (fun os started H enc _=>Zg3 os started H enc)
end Go.Proofs.YthlkpnjjkgmlkaaGreat
