/- Contracts: what a space ends with. No condition. -/
import Derived.Test.YthlkpnjjkgmlkaaGreatXe
import Derived.Test.YthlkpnjjkgmlkaaGreatYd
import Derived.Test.YthlkpnjjkgmlkaaGreatZr
import Derived.Test.YthlkpnjjkgmlkaaGreatNc
import Derived.Test.YthlkpnjjkgmlkaaGreatNe
namespace Go.Proofs.YthlkpnjjkgmlkaaGreat
set_option maxHeartbeats 16000000
set_option linter.unusedSimpArgs false
set_option linter.unusedVariables false
set_option maxRecDepth 20000
open Go Go.Proofs Go.Vc
attribute [local irreducible] x'r VCg VCw VCx
def zpC (c:Cf):Cf:={c with pc:=List.replicate c.pc.length 0}
theorem OkC.zp {c:Cf} (h:OkC c):OkC (zpC c):=⟨by rw[zpC,List.length_replicate];exact h.pc,h.mem,h.regs,h.row,h.bufs,h.buf⟩
theorem OC.ok.zp {q:OC} {c:Cf} (h:q.ok c):q.ok (zpC c):=⟨by rw[zpC,List.length_replicate];exact h.pc,h.gr,h.mem,h.bufs,h.rows,h.row⟩
theorem OpS.permR {P:Program} {o:Oper} {E:Operand→D} {H:Heap} {Φ Ψ:D→Heap→Prop} (h:OpS P o E H Φ) (hk: ∀d H',Φ d H'→ ∃H'',H'.Perm H''∧Ψ d H''):OpS P o E H Ψ:=by
 intro w L0 ε hi hx
 have:=h w L0 ε hi hx
 refine this.mono ?_
 rintro v w' ⟨d,H',h1,h2,h3,h4⟩
 obtain⟨H'',hp,hψ⟩:=hk d H' h1
 exact⟨d,H'',hψ,by rw[v'1 hp];exact h2,h3.perm hp,h4.perm (.refl _) hp⟩
theorem OpS.callE {P:Program} {o:Oper} {E:Operand→D} {f:FuncId} {xf:Operand} {az:Array Operand} {tys:Array TypeId} {args:List D} {H Hp Hr:Heap} {fr:Bool} {d0:D}
  (ho:o.op= .call ⟨.value xf,az,tys⟩) (hE:E xf= .is (.func (.func f) #[] #[])) (h:Fun P f args Hp fr (fun d H'=>d=d0∧H'=Hp)) (ha:az.toList.map E=args) (hp:H.Perm (Hp++Hr)):OpS P o E H (fun d H'=>d=d0∧H'=H):=by
 refine OpS.permR (Φ:=fun d H'=>d=d0∧H'=Hp++Hr) (Op1.toS ?_) fun d H' h=>?_
 ·refine Op1.callG (caps:= #[]) (Hp:=Hp) (Hr:=Hr) ho hE ?_ h hp fun d H' h=>?_
  ·simp only[Array.toList_empty,y'a,z'u];exact ha
  ·obtain⟨rfl,rfl⟩:=h;exact⟨rfl,rfl⟩
 ·obtain⟨rfl,rfl⟩:=h
  exact⟨H,hp.symm,rfl,rfl⟩
def ZdD (regs:List ByteArray):Prop:= ∀l:List Nod,OkE l→ ∃q:Bool,Pure Tryz.prog 242 [y'4 l,x't regs] (.tup [y'0 (cdT l regs),bD q])
theorem ZcZ (b:Nat) (y:Yl) (hc:ZdD y.regs) (g:G) (r:List Ins) (e:List Nod) (he:OkE e):Fun Tryz.prog 172 [ptB b,y'4 e] (yH b y g r []) false (fun d H'=>d=y'0 (cdT e y.regs)∧H'=yH b y g r []):=by
 obtain⟨q,c1⟩:=hc e he
 refine Fun.of T [.tmp 4] Tryz.func172 rfl Tryz.ntmps172 Tryz.results172 rfl (by kernel_rfl) ?_
 repeat' first|refine mq3 c1 ?_|fail
 exact z'r T (z'n _) ⟨rfl,rfl⟩
theorem Zgx (l:List ByteArray) (hl:l.length≤1000000) (s:ByteArray):Pure Tryz.prog 128 [x't l,sD s] (iD (ixF l s)):=by
 refine Fun.of T [.tmp 4] Tryz.func128 rfl Tryz.ntmps128 Tryz.results128 rfl (by kernel_rfl) ?_
 repeat' first|refine mq1 @x'h ?_|fail
 refine VC.loop {k:Nat//k≤l.length∧ ∀i,i<k→l.getD i e0≠s} (fun p=>⟨z'0 [(1,sD s),(7,x't l),(8,iD (l.length:Nat)),(9,iD (p.1:Nat))],[]⟩) (fun p=>l.length-p.1) ⟨0,by omega,fun i hi=>by omega⟩ ?_ ?_
 ·refine Weak.sub ?_
  simp[sub,upd]
 rintro⟨k,hk,hs⟩
 dsimp only at hk hs⊢
 rcases z'g k l.length with hlt|hge
 ·by_cases hx:l.getD k e0=s
  ·rw[ZlK hlt hs hx]
   repeat' first|refine mq1 (mqt3 @w'4 @z'b @hx) ?_|refine .wk ?_ ?_;focus(try omega)|exact z'r T (z'a _) ⟨rfl,rfl⟩|with_reducible refine z'j (fun hc=>?_) (fun hc=>?_)<;>(try simp only[decide_eq_true_eq,decide_eq_false_iff_not,z'x]at hc)<;>(try(exfalso;omega))|fail
  ·repeat' first|refine mq1 (mqt3 @w'4 @w64 @z'b) ?_|refine .wk ?_ ?_;focus(try omega)|with_reducible refine z'j (fun hc=>?_) (fun hc=>?_)<;>(try simp only[decide_eq_true_eq,decide_eq_false_iff_not,z'x]at hc)<;>(try(exfalso;omega))|fail
   ·exact absurd hc hx
   ·refine⟨⟨k+1,by omega,fun i hi=>?_⟩,Weak.sub ?_,by simp only[];omega⟩
    ·rcases z'g i k with h'|h'
     ·exact hs i h'
     ·obtain rfl:i=k:=by omega
      exact hx
    ·simp[sub,upd]
 ·obtain rfl:k=l.length:=by omega
  rw[Zn8 hs]
  repeat' first|refine mq0 ?_|exact z'r T (z'a _) ⟨rfl,rfl⟩|with_reducible refine z'j (fun hc=>?_) (fun hc=>?_)<;>(try simp only[decide_eq_true_eq,decide_eq_false_iff_not,z'x]at hc)<;>(try(exfalso;omega))|fail
theorem ZoU (b:Nat) (y:Yl) (hcd:ZdD y.regs) (hyr:y.regs.length≤1000) (hyl:y.locs.length≤1000) (g:G) (r:List Ins) (hr:r.length≤100000) (x:Sm) (hx:OkE x.e∧OkE x.f):Fun Tryz.prog 175 [ptB b,.agg (smR x)] (yH b y g r []) false
  (fun d H'=> ∃g':G,gOk g' (r.length+1)∧d= .tup []∧H'=yH b y g' (r++[w'1 y.regs y.locs x]) []):=by
 have c1:=ZcZ b y hcd g r x.e hx.1
 have c2:=ZcZ b y hcd g r x.f hx.2
 have c3:=Zgx y.regs (by omega) x.reg
 have c4:=Zgx y.locs (by omega) x.loc
 refine Fun.of T [] Tryz.func175 rfl Tryz.ntmps175 Tryz.results175 rfl (by kernel_rfl) ?_
 repeat' first|refine vb (t:=50) rfl rfl rfl rfl ?_|refine VCg.stepS T rfl rfl (OpS.callE rfl rfl c1 rfl (by rw[z'u])) ?_|refine VCg.stepS T rfl rfl (OpS.callE rfl rfl c2 rfl (by rw[z'u])) ?_|refine dr (id:=3) T 6 (by kernel_rfl) ?_|refine dr (id:=5) T 6 (by kernel_rfl) ?_|refine VC.drawS (id:=1) (by kernel_rfl) ?_|refine VCd.tail (f:=14) (by kernel_rfl) ?_;(try simp only[y'p,y'e])|refine VCd.group T (s:=0) 14 14 rfl rfl (by kernel_rfl) (by kernel_rfl) (by kernel_rfl) ?_;(try simp only[y'e,Nat.reduceSub])|refine gn ?_|refine VCg.nil T ?_;simp only[x'2,WB,Nat.reduceAdd,T104];try(refine fun(bq:Nat) hbq=>?_;(try simp only[HB]at hbq))|apply VCg.step T rfl rfl;focus((try simp (disch:=omega) only[go_sem,Nat.reduceBEq,Nat.reduceAdd,smR]);(exact rfl))|refine VCg.alloc T rfl rfl rfl rfl rfl ?_|refine vs T rfl fun K hK=>?_;(try simp (disch:=omega) only[go_sem,Nat.reduceBEq,Nat.reduceAdd,Nat.reduceLeDiff,smR]);(first|refine hK _ _ ?_;clear hK K|refine Op1.callp rfl rfl (c3) rfl ?_;refine hK _ _ ?_;clear hK K|refine Op1.callp rfl rfl (c4) rfl ?_;refine hK _ _ ?_;clear hK K|skip)|refine st rfl ?_|refine sc rfl ?_|refine nl ?_|refine ov ?_|with_reducible refine z'j (fun hc=>?_) (fun hc=>?_)
 all_goals
  rename_i h1
  have hI: ∀(a c:Int),(if isE x.reg=true then 0 else ixF y.regs x.reg)=a→(if isE x.loc=true then 0 else ixF y.locs x.loc)=c→insR (w'1 y.regs y.locs x)=[iD x.kind,iD a,iD c,y'0 (cdT x.e y.regs),y'0 (cdT x.f y.regs),bD x.ne,iD 0]:=fun a c h1 h2=>by rw[←h1, ←h2];rfl
  simp only[z'y,z'G,decide_eq_true_eq,decide_eq_false_iff_not]at h1 hc
  refine Op1.cally (Hp:=yH b y g r []) (Hr:=[_]) rfl rfl (ZfY b y g r (w'1 y.regs y.locs x) hr) ?_ (List.perm_append_comm (l₁:=[_]) (l₂:=yH b y g r [])) (fun q hq=>?_)
  ·first
    |(rw[hI (ixF y.regs x.reg) (ixF y.locs x.loc) (by simp[isE,h1]) (by simp[isE,hc])];rfl)
    |(rw[hI 0 (ixF y.locs x.loc) (by simp[isE,h1]) (by simp[isE,hc])];rfl)
    |(rw[hI (ixF y.regs x.reg) 0 (by simp[isE,h1]) (by simp[isE,hc])];rfl)
    |(rw[hI 0 0 (by simp[isE,h1]) (by simp[isE,hc])];rfl)
  ·refine hK _ _ ?_
   clear hK K
   repeat' refine nl ?_
   refine ZcN T rfl ?_ ⟨q,hq,rfl,rfl⟩
   exact List.sublist_append_left _ _
abbrev lvD:Option Lw→D
 |none=> .is (.func (.func 62) #[] #[])
 |some v=> .is (.func (.func 243) #[] #[.pointer (some ⟨v.b8,0,none⟩),.pointer (some ⟨v.b4,0,none⟩)])
def lvX (b:Nat):Option Lw→Heap→Heap
 |none,X=>X
 |some v,X=>lwH b v X
def ResLv (bk:List Nat):Option Lw→Option Lw→Prop
 |none,none=>bk=[]
 |some v,some w=>w.b8=v.b8∧w.b4=v.b4∧gOk w.ge w.hs.length∧ ∃zs:List (Nat×Nat),zs.length=bk.length∧w.hs=v.hs++zs.zip bk
 |_,_=>False
theorem ResLv.nil {lv:Option Lw} (h: ∀v,lv=some v→gOk v.ge v.hs.length):ResLv [] lv lv:=by
 cases lv with
 |none=>rfl
 |some v=>exact⟨rfl,rfl,h v rfl,[],rfl,by simp⟩
theorem ResLv.app {a b:List Nat} {u v w:Option Lw} (h:ResLv a u v) (k:ResLv b v w):ResLv (a++b) u w:=by
 cases u with
 |none=>cases v with
  |none=>cases w with
   |none=>simp only[ResLv]at h k⊢;rw[h,k];rfl
   |some w=>exact k.elim
  |some v=>exact h.elim
 |some u=>cases v with
  |none=>exact h.elim
  |some v=>cases w with
   |none=>exact k.elim
   |some w=>
    obtain⟨h1,h2,h3,zs,h4,h5⟩:=h
    obtain⟨k1,k2,k3,ys,k4,k5⟩:=k
    refine⟨k1.trans h1,k2.trans h2,k3,zs++ys,by rw[z'e,z'e,h4,k4],?_⟩
    rw[k5,h5,z'M,List.zip_append h4]
structure YOk (y:Yl):Prop where
 len:y.l.length≤1000
 okS:OkS y.l
 noB:NoB y.l
 regs:y.regs.length≤1000
 locs:y.locs.length≤1000
 code:ZdD y.regs
def LvB (lv:Option Lw) (n:Nat):Prop:= ∀v,lv=some v→gOk v.ge v.hs.length∧v.hs.length+n≤100000
def Zi4 (y:Yl) (n:Nat):Prop:= ∀(b0 a b:Nat) (lv:Option Lw) (g:G) (r:List Ins),b-a≤n→b≤y.l.length→wh y.l a b=true→gOk g r.length→r.length+szF y.l a b≤40000→LvB lv (szF y.l a b)→(lv=none→bkA y.l a b r.length=[])→
 Fun Tryz.prog 61 [ptB b0,iD (a:Nat),iD (b:Nat),lvD lv] (yH b0 y g r (lvX b0 lv [])) false
  (fun d H'=> ∃x:G×Option Lw,(gOk x.1 (r++rwA y.l y.regs y.locs a b r.length 0).length∧ResLv (bkA y.l a b r.length) lv x.2)∧d= .tup []∧H'=yH b0 y x.1 (r++rwA y.l y.regs y.locs a b r.length 0) (lvX b0 x.2 []))
theorem Zqg {e:TypeId} {esz:Nat} {l:List D} {X:Heap}:shp none e esz l X=X:=rfl
theorem Zr0 {g:G} {e:TypeId} {esz:Nat} {l:List D} {X:Heap}:X.Sublist (shp g e esz l X):=by
 cases g with
 |none=>exact z'n _
 |some p=>exact z'I _ _
theorem Zsq {b:Nat} (n:Int):FzL [] [ptB b,.agg (insR (jpI n))] [ptB b,.agg [iD 20,iD 0,iD 0,.gs none 0,.gs none 0,bD false,iD n]]:=
 y'f (Fz.refl _ _) (y'f ⟨_,rfl,y'f (Fz.refl _ _) (y'f (Fz.refl _ _) (y'f (Fz.refl _ _) (y'f x'I (y'f x'I (FzL.refl _ _)))))⟩ Zak)
theorem Zk5 (y:Yl) (hy:YOk y) (n:Nat) (hP:Zi4 y n) (b0 a m:Nat) (to:Int) (g:G) (r:List Ins) (hn:m-a≤n) (hm:m≤y.l.length) (hw:wh y.l a m=true) (hg:gOk g r.length) (hr:r.length+szF y.l a m≤40000):
  Fun Tryz.prog 174 [ptB b0,iD (a:Nat),iD (m:Nat),iD to] (yH b0 y g r []) false
   (fun d H'=> ∃g':G,gOk g' (r.length+szF y.l a m+1)∧d= .tup []∧H'=yH b0 y g' (r++(rwA y.l y.regs y.locs a m r.length ((r.length+szF y.l a m+1:Nat):Int)++[jpI to])) []):=by
 refine Fun.of T [] Tryz.func174 rfl Tryz.ntmps174 Tryz.results174 rfl (by kernel_rfl) ?_
 repeat' first|refine vs T rfl fun K hK=>?_;(try simp (disch:=omega) only[go_sem,Nat.reduceBEq,Nat.reduceAdd]);(first|refine hK _ _ ?_;clear hK K|intro bq hbq;(try simp only[HB]at hbq);refine hK _ _ ?_;clear hK K|skip)|refine st rfl ?_|refine nl ?_
 rename_i b4 hb4
 refine w'h (cs:=[.tmp 8,.tmp 4]) (us:=[.pointer (some ⟨bq,0,none⟩),.pointer (some ⟨b4,0,none⟩)]) rfl rfl ?_
 refine hK _ _ ?_
 clear hK K
 repeat' first|refine vs T rfl fun K hK=>?_;(try simp (disch:=omega) only[go_sem])|fail
 refine Op1.cally (Hp:=yH b0 y g r (lvX b0 (some ⟨bq,b4,none,[]⟩) [])) (Hr:=[]) rfl rfl (hP b0 a m (some ⟨bq,b4,none,[]⟩) g r hn hm hw hg (by omega) (fun v h=>by cases h;exact⟨rfl,by show 0+_≤_;omega⟩) (fun h=>by cases h)) rfl (by
  show List.Perm ((bq,HC.cells 265 1 [.gs none 0])::(b4,.cells 110 1 [ptB b0])::yH b0 y g r []) _
  exact y'n fun a=>by simp only[lvX,lwH,hsH,hsC,Zqg,yH,y'y,y'c,y'i,y'k,y'a,z'V];omega) (fun x hx=>?_)
 obtain⟨g1,lv⟩:=x
 obtain⟨hg1,hR⟩:=hx
 dsimp only at hg1 hR⊢
 cases lv with
 |none=>exact hR.elim
 |some v=>
 obtain⟨v8,v4,ge,hs⟩:=v
 obtain⟨e8,e4,hge,zs,hz,eh⟩:=hR
 dsimp only at e8 e4 hge hz eh⊢
 rw[y'h]at eh
 subst e8 e4 eh
 have hl:=x'q y.l y.regs y.locs hy.noB _ a m r.length 0 (z'c _) hm hw
 generalize hR0:rwA y.l y.regs y.locs a m r.length 0=R0 at*
 generalize hbk:bkA y.l a m r.length=bk at*
 refine hK _ _ ?_
 clear hK K
 refine vo ?_
 refine VCo.weak (Weak.perm (H':=lwH b0 ⟨v8,v4,ge,zs.zip bk⟩ (yH b0 y g1 (r++R0) [])) (y'n fun a=>by simp only[lvX,lwH,yH,y'y,y'F,y'c,y'i,y'k];omega)) ?_
 refine ov ?_
 simp only[lwH]
 repeat' first|refine vs T rfl fun K hK=>?_;(try simp (disch:=omega) only[go_sem,Nat.reduceBEq,Nat.reduceAdd]);(first|refine hK _ _ ?_;clear hK K|skip)|refine st rfl ?_|refine nl ?_
 have hzl:(zs.zip bk).length=bk.length:=by rw[List.length_zip];omega
 have hrl:(r++R0).length=r.length+szF y.l a m:=by rw[z'e,hl]
 refine Op1.cally (Hp:=yH b0 y g1 (r++R0) []) (Hr:=(v8,.cells 265 1 [.gs ge (zs.zip bk).length])::(v4,.cells 110 1 [ptB b0])::shp ge 1 1 (hsC (zs.zip bk)) (hsH b0 (zs.zip bk) [])) rfl rfl (Fun.argsH (ZfY b0 y g1 (r++R0) (jpI to) (by omega)) (Zsq to)) rfl (y'n fun a=>by simp only[yH,y'y,y'F,y'c,y'i,y'k];omega) (fun g2 hg2=>?_)
 refine hK _ _ ?_
 clear hK K
 refine vo ?_
 refine VCo.weak (Weak.perm (H':=(v8,.cells 265 1 [.gs ge (zs.zip bk).length])::(v4,.cells 110 1 [ptB b0])::shp ge 1 1 (hsC (zs.zip bk)) (hsH b0 (zs.zip bk) (yH b0 y g2 (r++R0++[jpI to]) []))) (y'n fun a=>by simp only[yH,y'y,y'F,y'c,y'i,y'k];omega)) ?_
 refine ov ?_
 repeat' first|refine mq0 ?_|fail
 have hbl:=fun k (hk:k∈bk)=>ZgS y.l _ a m (z'c _) hw r.length k (hbk▸hk)
 have hbn:bk.length≤szF y.l a m:=hbk▸ZaP y.l _ a m (z'c _) hw r.length
 generalize hhs:zs.zip bk=hs at*
 have hsb:hs.map (·.2)=bk:=by rw[←hhs];exact List.map_snd_zip (by omega)
 have hR2:(r++R0++[jpI to]).length=r.length+szF y.l a m+1:=by rw[z'e,hrl];rfl
 generalize hR2':r++R0++[jpI to]=R2 at*
 refine VC.loop {j:Nat//j≤hs.length} (fun j=>⟨z'0 [(20,.gs ge hs.length),(21,iD (hs.length:Nat)),(22,iD (j.1:Nat))],shp ge 1 1 (hsC hs) (hsH b0 (hs.drop j.1) (yH b0 y g2 (w'9 R2 (bk.take j.1) ((R2.length:Nat):Int)) []))⟩) (fun j=>hs.length-j.1) ⟨0,z'm _⟩ ?_ ?_
 ·refine Weak.subH ((z'I _ _).trans (z'I _ _)) ?_
  simp[sub,upd]
 rintro⟨j,hj⟩
 dsimp only at hj⊢
 rcases z'g j hs.length with hlt|hge
 ·obtain⟨z,hzj⟩: ∃z,hs[j]?=some z:=⟨_,z'k hlt⟩
  have hdr:hs.drop j=z::hs.drop (j+1):=by
   rw[x'4 hlt]
   rw[z'k hlt]at hzj
   rw[z'W hzj]
  have hbj:bk[j]?=some z.2:=by rw[←hsb,z'K,hzj];rfl
  have hkb:=hbl z.2 (z'E hbj)
  have hcl:(hsC hs)[j]?=some (clD z.1):=by rw[hsC,z'K,hzj];rfl
  have hcl1:(hsC hs)[j*1]?=some (clD z.1):=by rw[w'z];exact hcl
  have hrow:=ZhF ((R2.length:Nat):Int) (bk.take j) R2
  rcases ge with _|⟨be,ce⟩
  ·have:hs.length=0:=hge
   omega
  rw[hdr]
  simp only[hsH,shp]
  repeat' first|refine vs T rfl fun K hK=>?_;(try simp (disch:=omega) only[go_sem,Nat.reduceBEq,hcl1]);(first|refine hK _ _ ?_;clear hK K|refine⟨?_,hK _ _ ?_⟩<;>clear hK K;focus(try omega)|skip)|refine st rfl ?_|refine sc rfl ?_|refine nl ?_|with_reducible refine z'j (fun hc=>?_) (fun hc=>?_)<;>(try simp only[decide_eq_true_eq,decide_eq_false_iff_not,z'x]at hc)<;>(try(exfalso;omega))
  refine Op1.callG (Hp:=hoH b0 z.1 z.2 (yH b0 y g2 (w'9 R2 (bk.take j) ((R2.length:Nat):Int)) [])) (Hr:=(be,.cells 1 (ce*1) (hsC hs))::hsH b0 (hs.drop (j+1)) []) rfl rfl rfl (ZcF b0 y g2 _ z.1 z.2 (by rw[hrow,hR2, ←hrl];exact hg2) (by rw[hrow];omega) (by rw[hrow];omega)) (y'n fun a=>by simp only[hoH,yH,y'y,y'F,y'c,y'i,y'k];omega) (fun d H' h=>?_)
  obtain⟨rfl,rfl⟩:=h
  refine hK _ _ ?_
  clear hK K
  repeat' first|refine mq1 @w64 ?_|fail
  refine⟨⟨j+1,by omega⟩,Weak.trans (Weak.perm (H':=shp (some (be,ce)) 1 1 (hsC hs) (hsH b0 (hs.drop (j+1)) (yH b0 y g2 (w'9 R2 (bk.take (j+1)) ((R2.length:Nat):Int)) []))) ?_) (z'O rfl ?_),by dsimp only;omega⟩
  ·rw[Zlf hbj,hrow]
   exact y'n fun a=>by simp only[shp,yH,y'y,y'F,y'c,y'i,y'k];omega
  ·simp[sub,upd]
 ·obtain rfl:j=hs.length:=by omega
  repeat' first|refine mq0 ?_|with_reducible refine z'j (fun hc=>?_) (fun hc=>?_)<;>(try simp only[decide_eq_true_eq,decide_eq_false_iff_not,z'x]at hc)<;>(try(exfalso;omega))|fail
  have hd:hs.drop hs.length=[]:=List.drop_length
  have htk:bk.take hs.length=bk:=x'p (by omega)
  rw[hd,htk]
  refine ZcN T (H':=yH b0 y g2 (w'9 R2 bk ((R2.length:Nat):Int)) []) rfl ?_ ⟨g2,by rw[←hrl];exact hg2,rfl,?_⟩
  ·exact Zr0
  ·have:=ZfR y.regs y.locs hy.noB ((r.length+szF y.l a m+1:Nat):Int) _ a m (z'c _) hm hw r [jpI to]
   rw[hR0,hbk]at this
   rw[hR2, ←hR2',z'M,this]
end Go.Proofs.YthlkpnjjkgmlkaaGreat
