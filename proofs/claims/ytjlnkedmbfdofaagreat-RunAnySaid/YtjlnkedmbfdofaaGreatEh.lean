/- Calls at fixed data, reckoned out: code. No condition. -/
import Derived.Test.YtjlnkedmbfdofaaGreatEg
import Derived.Test.YtjlnkedmbfdofaaGreatEn
import Derived.Test.YtjlnkedmbfdofaaGreatEp
import Derived.ScopeJumps
namespace Go.Vc
set_option linter.unusedSimpArgs false
set_option linter.unusedVariables false
open Go
def Zoc (t:Tmp) (m:Nat) (l:List Oper):Bool:=(l.take m).any fun o=>o.op.operands.toList.any fun x=>match x with| .tmp k=>Nat.beq k t|_=>false
abbrev Nw:=Tmp×G×Vh×Nat
noncomputable def v'T {P:Program} (T:Tab P) (ow:Nat→G→Bool) (w:Gw) (n:Nat) (ops:Array Oper) (V:Vh):Nat→List Oper→Env→Nat→Option (Env×List Nw×Nat)
 |0,_,env,nx=>some (env,[],nx)
 |_+1,[],_,_=>none
 |m+1,o::l,env,nx=>match v'V n ops o env with
  |0=>none
  |1=>match gFr T ow w env V nx o.op with
   |some (true,g,_,_)=>Zav n o.dst g env fun env=>v'T T ow w n ops V m l env nx
   |some (false,g,V1,nx1)=>match o.dst with
    |some t=>match Zoc t m l with
     |true=>match gFz V1 8 g with
      |some g'=>match gNo g' with
       |true=>Zav n (some t) g' env fun env=>v'T T ow w n ops V m l env nx
       |false=>none
      |none=>none
     |false=>match Nat.blt t n with
      |true=>Zet env t .any fun env=>match v'T T ow w n ops V m l env nx1 with
       |some (env,nws,nx2)=>some (env,(t,g,V1,nx1)::nws,nx2)
       |none=>none
      |false=>none
    |none=>none
   |none=>none
  |_=>Zav n o.dst (.val undef) env fun env=>v'T T ow w n ops V m l env nx
def Zj5 (n:Nat) (lo:Nat→Prop) (nx0:Nat):Nat→List Nw→Nat→Prop
 |a,[],b=>a≤b
 |a,(t,g,V1,k)::r,b=>t<n∧(a≤k∧VOk (loK lo nx0 a) k V1∧Bel (loK lo nx0 a) k g)∧Zj5 n lo nx0 k r b
def nwI (nx0:Nat) (σ:Nm) (x:Nw):Tmp×NewI:=(x.1,.own (nwP nx0 σ x.2.1 x.2.2.1))
theorem v'U {P:Program} {ow:Nat→G→Bool} (T:Tab P) (hN:NamesOk P) {w:Gw} (hw:x'w P w) {lo:Nat→Prop} {n nx0:Nat} {ops:Array Oper} {V:Vh} (hV:VOk lo nx0 V): ∀(m:Nat) (l:List Oper) (env:Env) (nx:Nat) (env':Env) (nws:List Nw) (nx':Nat),
  v'T T ow w n ops V m l env nx=some (env',nws,nx')→ELen n env→BelE lo nx0 env→nx0≤nx→(ELen n env'∧BelE lo nx0 env'∧Zj5 n lo nx0 nx nws nx')∧
   ∀(σ:Nm) (K:(Nat→D)→List (Tmp×NewI)→Prop) (news:List (Tmp×NewI)),(Vn σ V).blocks.Nodup→K (cE σ env') (news++nws.map (nwI nx0 σ))→VCg T ops (Vn σ V) K m l (cE σ env) news
 |0,l,env,nx,env',nws,nx',h,hl,he,hle=>by
  simp only[v'T,z'q,Prod.mk.injEq]at h
  obtain⟨rfl,rfl,rfl⟩:=h
  exact⟨⟨hl,he,z'c _⟩,fun σ K news hn hk=>by rw[y'o,z'x]at hk;exact hk⟩
 |m+1,[],env,nx,env',nws,nx',h,_,_,_=>by cases h
 |m+1,o::l,env,nx,env',nws,nx',h,hl,he,hle=>by
  unfold v'T at h
  have at1: ∀σ (t:Nat),cE σ env t=(eAt env t).d σ:=fun σ t=>Zbv σ
  split at h
  ·cases h
  ·rename_i hg
   have gd: ∀σ,o.guard=none∨ ∃j want g,o.guard=some (j,want)∧z'v ops j=some g∧cE σ env g= .is (.bool want):=fun σ=>by
    rcases ZbH hg with hgu|⟨j,want,t,hgu,hj,_,hat⟩
    ·exact .inl hgu
    ·exact .inr ⟨j,want,t,hgu,hj,by rw[at1,hat];rfl⟩
   split at h
   ·rename_i g V1 nx1 hfr
    obtain⟨b1,b2⟩:=Zbl T hN hw hle hV he hfr
    obtain⟨hd,h⟩:=w'G h
    obtain⟨c1,c2⟩:=v'U T hN hw hV m l _ nx env' nws nx' h (w'a hl) (x'9 he b1) hle
    refine⟨c1,fun σ K news hn hk=>⟨.det (g.d σ),⟨gd σ,b2 σ hn⟩,?_⟩⟩
    rw[x'h,z'x]
    have:=c2 σ K news hn hk
    rw[w'V hd hl]at this
    exact this
   ·rename_i g V1 nx1 hfr
    obtain⟨b1,b2⟩:=Zbl T hN hw hle hV he hfr
    split at h
    ·rename_i t ht
     split at h
     ·split at h
      ·rename_i g' hz
       split at h
       ·rename_i hno
        obtain⟨hd,h⟩:=w'G h
        obtain⟨c1,c2⟩:=v'U T hN hw hV m l _ nx env' nws nx' h (w'a hl) (x'9 he fun σ τ _=>x'a hno σ τ) hle
        refine⟨c1,fun σ K news hn hk=>⟨.det (g'.d σ),⟨gd σ,OpS.freezeN (b2 σ hn) ?_⟩,?_⟩⟩
        ·rintro d H' ⟨Hk,⟨τ,_,rfl,rfl⟩,rfl⟩ hnd
         refine⟨_,rfl,?_⟩
         rw[x'a hno σ τ]
         rw[Heap.blocks,z'y]at hnd
         exact v'g (List.Nodup.sublist (List.sublist_append_left _ _) hnd) 8 _ _ hz
        ·rw[x'h,z'x,ht]
         have:=c2 σ K news hn hk
         rw[w'V hd hl]at this
         exact this
       ·cases h
      ·cases h
     split at h
     ·rename_i hb
      have hb:=z'i hb
      rw[ZcO]at h
      split at h
      ·rename_i env2 nws2 nx2 hfront
       cases h
       obtain⟨c1,c2⟩:=v'U T hN hw hV m l _ nx1 env' nws2 nx' hfront (Zar hl _ _) (Zbz he t Bel.any) (z'E hle b1.1)
       refine⟨⟨c1.1,c1.2.1,hb,b1,c1.2.2⟩,fun σ K news hn hk=>⟨.new (.own (nwP nx0 σ g V1)),⟨gd σ,⟨t,ht⟩,b2 σ hn⟩,?_⟩⟩
       rw[ht]
       have:=c2 σ K (news++[(t,.own (nwP nx0 σ g V1))]) hn (by rw[y'r];exact hk)
       rw[ZfU σ _ hl hb]at this
       exact this
      ·cases h
     ·cases h
    ·cases h
   ·cases h
  ·rename_i hg0 hg1
   obtain⟨hd,h⟩:=w'G h
   obtain⟨c1,c2⟩:=v'U T hN hw hV m l _ nx env' nws nx' h (w'a hl) (x'9 he Bel.val) hle
   obtain⟨j,want,t,hgu,hj,hbl,hat⟩:=Za7 (fun e=>hg0 (by rw[e])) (fun e=>hg1 (by rw[e]))
   refine⟨c1,fun σ K news hn hk=>⟨.skip,⟨j,want,t,hgu,hj,?_⟩,?_⟩⟩
   ·rcases hat with hat|hat
    ·exact .inl (by rw[at1,hat];rfl)
    ·exact .inr (by rw[at1,hat];rfl)
   ·rw[w'S,z'x]
    have:=c2 σ K news hn hk
    rw[w'V hd hl]at this
    exact this
noncomputable def ZfC {R:Type}:List Nw→Env→Vh→(Env→Vh→R)→R
 |[],env,V,k=>k env V
 |(t,g,V1,_)::r,env,V,k=>gPl g fun g=>Zet env t g fun env=>ZfC r env (V1++V) k
theorem Zgh {lo:Nat→Prop} {n nx0:Nat} {σ:Nm} {K:(Nat→D)→Heap→Prop}: ∀(nws:List Nw) (a b:Nat) (env:Env) (V:Vh) (s':Gs),Zj5 n lo nx0 a nws b→nx0≤a→ELen n env→BelE lo a env→VOk lo a V→(∀i,a≤i→lo i)→
  (ZfC nws env V fun env V=>Gs.mk env V b)=s'→(GOk lo n s'∧s'.nx=b∧a≤b)∧ ∀σ1:Nm,(∀i,i<nx0→σ1 i=σ i)→(∀σ':Nm,(∀i,i<nx0→σ' i=σ i)→K (cE σ' s'.env) (Vn σ' s'.V))→Za4 (nws.map (nwI nx0 σ)) (cE σ1 env) (Vn σ1 V) K
 |[],a,b,env,V,s',hok,hle,hl,he,hV,hup,h=>by
  subst h
  exact⟨⟨⟨hl,fun i hi=>hup i (z'E hok hi),he.mono hok,hV.mono hok⟩,rfl,hok⟩,fun σ1 hag hk=>hk σ1 hag⟩
 |(t,g,V1,k)::r,a,b,env,V,s',hok,hle,hl,he,hV,hup,h=>by
  obtain⟨ht,⟨h1,h2,h3⟩,h4⟩:=hok
  simp only[ZfC,Zco,ZcO]at h
  have lok: ∀i,i<k→loK lo nx0 a i→lo i:=fun i _ hi=>by
   rcases hi with hi|hi
   ·exact hi.1
   ·exact hup i hi
  have hg':Bel lo k g:=h3.mono lok (z'c _)
  have hV1:VOk lo k V1:=fun x c hm=>by
   obtain⟨q1,q2,q3⟩:=h2 x c hm
   exact⟨lok x q2 q1,q2,fun y hy=>(q3 y hy).mono lok (z'c _)⟩
  have hVV:VOk lo k (V1++V):=fun x c hm=>by
   rcases y'j.1 hm with hm|hm
   ·exact hV1 x c hm
   ·exact hV.mono h1 x c hm
  obtain⟨⟨c1,c2,c3⟩,c4⟩:=Zgh r k b (v'x env t g) (V1++V) s' h4 (z'E hle h1) (Zar hl _ _) (Zbz (he.mono h1) t hg') hVV (fun i hi=>hup i (z'E h1 hi)) h
  refine⟨⟨c1,c2,z'E h1 c3⟩,fun σ1 hag hk=>?_⟩
  rintro d Hk ⟨τ,hτ,rfl,rfl⟩ _
  let σ2:Nm:=fun i=>bif Nat.blt i a then σ1 i else τ i
  have e1: ∀i,i<a→σ2 i=σ1 i:=fun i hi=>by
   have:Nat.blt i a=true:=Nat.ble_eq▸hi
   simp only[σ2,this,cond_true]
  have e2: ∀i,loK lo nx0 a i→i<k→σ2 i=τ i:=fun i hi _=>by
   rcases hi with hi|hi
   ·rw[e1 i (z'm hi.2 hle),hag i hi.2,hτ i hi.2]
   ·have:Nat.blt i a=false:=by
     rw[←Bool.not_eq_true];intro hb;have:=z'i hb;omega
    simp only[σ2,this,cond_false]
  have:=c4 σ2 (fun i hi=>(e1 i (z'm hi hle)).trans (hag i hi)) hk
  rw[ZfU σ2 g hl ht,ZfL,x'3 h2 (τ:=τ) e2,h3 σ2 τ e2,x'3 hV (τ:=σ1) fun i _ hi=>e1 i hi,ZfT he (τ:=σ1) fun i _ hi=>e1 i hi]at this
  exact this
def ZiU (ops:Array Oper) (i:Nat):Nat→Nat→Option Nat
 |0,_=>none
 |m+1,e=>match ZfI ops i e with|true=>some e|false=>ZiU ops i m (e+1)
def Zib (ops:Array Oper) (i:Nat):Nat→Nat→Option Nat
 |0,_=>none
 |m+1,e=>match w'B ops i e with|true=>some e|false=>Zib ops i m (e+1)
theorem Zh1 {ops:Array Oper} {i:Nat}: ∀{m e f:Nat},ZiU ops i m e=some f→ZfI ops i f=true∧e≤f∧f<e+m
 |0,_,_,h=>by cases h
 |m+1,e,f,h=>by
  unfold ZiU at h
  split at h
  ·rename_i hs;cases h;exact⟨hs,z'c _,by omega⟩
  ·obtain⟨q1,q2,q3⟩:=Zh1 h;exact⟨q1,by omega,by omega⟩
theorem Zho {ops:Array Oper} {i:Nat}: ∀{m e f:Nat},Zib ops i m e=some f→w'B ops i f=true∧e≤f∧f<e+m
 |0,_,_,h=>by cases h
 |m+1,e,f,h=>by
  unfold Zib at h
  split at h
  ·rename_i hs;cases h;exact⟨hs,z'c _,by omega⟩
  ·obtain⟨q1,q2,q3⟩:=Zho h;exact⟨q1,by omega,by omega⟩
def v'8 (ops:Array Oper) (i:Nat) (o:Oper):Bool:=match o.guard with|none=>w'B ops i (i+1)|some _=>false
noncomputable def ZbO {P:Program} (T:Tab P) (ow:Nat→G→Bool) (w:Gw) (n:Nat) (ops:Array Oper):Nat→Nat→List Oper→Gs→Option Gs
 |0,_,_,_=>none
 |_+1,i,[],s=>match Nat.beq i ops.size with|true=>some s|false=>none
 |m+1,i,o::r,s=>match v'8 ops i o with
  |true=>match Zd8 T ow w n o s with
   |some s'=>ZbO T ow w n ops m (i+1) r s'
   |none=>none
  |false=>match (match ZiU ops i (ops.size-i) (i+1)with
    |some e=>match v'T T ow w n ops s.V (e-i) (o::r) s.env s.nx with
     |some (env,nws,nx)=>some (e,ZfC nws env s.V fun env V=>Gs.mk env V nx)
     |none=>none
    |none=>none)with
   |some (e,s')=>ZbO T ow w n ops m e ((o::r).drop (e-i)) s'
   |none=>match Zib ops i (ops.size-i) (i+1)with
    |some e=>match Zd1 T ow w n ops s.V s.nx (e-i) i (o::r) s.env with
     |some (_,env,V1)=>ZbO T ow w n ops m e ((o::r).drop (e-i)) ⟨env,V1,s.nx⟩
     |none=>none
    |none=>none
noncomputable def Zir {P:Program} (T:Tab P) (ow:Nat→G→Bool) (w:Gw) (n:Nat) (ops:Array Oper) (s:Gs):Option Gs:=match x'I ops ops.size&&ops.toList.all (y'B n)with
 |true=>ZbO T ow w n ops (ops.size+1) 0 ops.toList s
 |false=>none
theorem VC.nodup' {P:Program} {n:Nat} {c:Code} {s:St} {Q:Exit→St→Prop} (h:s.heap.blocks.Nodup→VC P n c s Q):VC P n c s Q:=fun x a w hn hs=>h hs.inv.nodup x a w hn hs
theorem VCd.nodup' {P:Program} {n:Nat} {ops:Array Oper} {j:Nat} {s:St} {Q:Exit→St→Prop} (h:s.heap.blocks.Nodup→VCd P n ops j s Q):VCd P n ops j s Q:=fun x a w l hn hs=>h hs.inv.nodup x a w l hn hs
def Zoe (P:Program) (lo:Nat→Prop) (n id:Nat) (ops:Array Oper) (s s':Gs):Prop:=
 (s.nx≤s'.nx∧GOk lo n s')∧ ∀(σ:Nm) (Q:Exit→St→Prop),(∀σ':Nm,(∀i,i<s.nx→σ' i=σ i)→Q .normal (s'.st σ'))→VC P n (.region id ops true) (s.st σ) Q
theorem ZbP {P:Program} {ow:Nat→G→Bool} (T:Tab P) (hN:NamesOk P) {w:Gw} (hw:x'w P w) {lo:Nat→Prop} {n:Nat} {ops:Array Oper} (hB:x'I ops ops.size=true) (hd:ops.toList.all (y'B n)=true): ∀(m i:Nat) (l:List Oper) (s s':Gs),
  ZbO T ow w n ops m i l s=some s'→l=ops.toList.drop i→i≤ops.size→GOk lo n s→(s.nx≤s'.nx∧GOk lo n s')∧
   ∀(σ:Nm) (Q:Exit→St→Prop),(∀c s', ¬Q (.panic c) s')→(∀σ':Nm,(∀i,i<s.nx→σ' i=σ i)→Q .normal (s'.st σ'))→VCd P n ops i (s.st σ) Q
 |0,i,l,s,s',h,_,_,_=>by cases h
 |m+1,i,[],s,s',h,hl,hi,hs=>by
  unfold ZbO at h
  split at h
  ·rename_i hb
   cases h
   have hb:=z'd hb
   subst hb
   exact⟨⟨z'c _,hs⟩,fun σ Q _ hq=>VCd.done (hq σ fun _ _=>rfl)⟩
  ·cases h
 |m+1,i,o::r,s,s',h,hl,hi,hs=>by
  have hlt:i<ops.size:=by
   rcases z't i ops.size with h'|h'
   ·exact h'
   ·rw[x'G (by simpa using h')]at hl;cases hl
  have hio:ops[i]?=some o:=by
   have:=congrArg (fun l=>l[0]?) hl
   simpa using this.symm
  have hdrop: ∀e,i≤e→(o::r).drop (e-i)=ops.toList.drop e:=fun e he=>by
   rw[hl,y'5];congr 1;omega
  have hback:=(x'f hB).back
  unfold ZbO at h
  split at h
  ·rename_i ho
   unfold v'8 at ho
   split at ho
   case h_2=>cases ho
   rename_i hg
   split at h
   ·rename_i s1 h1
    obtain⟨⟨a1,a2⟩,a3,a4⟩:=Zdw T hN hw h1 hs
    have hr:r=ops.toList.drop (i+1):=by
     have:=hdrop (i+1) (by omega)
     rw[show i+1-i=1 by omega]at this
     exact this
    obtain⟨⟨b1,b2⟩,b3⟩:=ZbP T hN hw hB hd m (i+1) r s1 s' h hr (by omega) a2
    refine⟨⟨z'E a1 b1,b2⟩,fun σ Q hQ hq=>VCd.nodup' fun hn=>?_⟩
    refine VCd.one hio (fun ed he hb=>hback i o hio ed he hb) ho hg a3 fun K hK=>?_
    refine a4 σ (fun st=>K st.env st.heap) hn fun σ' hag=>hK _ _ (b3 σ' Q hQ fun σ'' hag'=>hq σ'' fun j hj=>(hag' j (z'm hj a1)).trans (hag j hj))
   ·cases h
  ·split at h
   ·rename_i e s1 hse
    split at hse
    ·rename_i e' hE
     obtain⟨e1,e2,e3⟩:=Zh1 hE
     split at hse
     ·rename_i env nws nx hf
      cases hse
      obtain⟨⟨a1,a2,a3⟩,a4⟩:=v'U T hN hw hs.V _ _ _ _ _ _ _ hf hs.len hs.env (z'c _)
      have key:=fun(σ:Nm) (K:(Nat→D)→Heap→Prop)=>Zgh (σ:=σ) (K:=K) nws s.nx nx env s.V _ a3 (z'c _) a1 a2 hs.V hs.up rfl
      obtain⟨⟨b1,b2,b3⟩,_⟩:=key (fun _=>(0,0)) (fun _ _=>True)
      obtain⟨⟨c1,c2⟩,c3⟩:=ZbP T hN hw hB hd m e _ _ s' h (hdrop e (by omega)) (by omega) b1
      rw[b2]at c1
      refine⟨⟨z'E b3 c1,c2⟩,fun σ Q hQ hq=>VCd.nodup' fun hn=>?_⟩
      refine VCd.groupF T hQ e ops.size (by rw[Nat.ble_eq];omega) (by rw[Nat.ble_eq];omega) hB e1 hd ?_
      rw[←hl]
      refine a4 σ _ [] hn ?_
      rw[z'L]
      refine(key σ _).2 σ (fun _ _=>rfl) fun σ' hag=>?_
      exact c3 σ' Q hQ fun σ'' hag'=>hq σ'' fun j hj=>(hag' j (by rw[b2];omega)).trans (hag j hj)
     ·cases hse
    ·cases hse
   ·split at h
    ·rename_i e hE
     obtain⟨e1,e2,e3⟩:=Zho hE
     split at h
     ·rename_i st env V1 hg
      obtain⟨⟨⟨r1,r2,r3⟩,r4,r5⟩,r6⟩:=Zds T hN hw hs.V hs.up _ _ _ _ _ _ _ hg hs.len hs.env
      obtain⟨⟨c1,c2⟩,c3⟩:=ZbP T hN hw hB hd m e _ _ s' h (hdrop e (by omega)) (by omega) ⟨r4,hs.up,r5,r2⟩
      refine⟨⟨c1,c2⟩,fun σ Q hQ hq=>VCd.nodup' fun hn=>?_⟩
      have hbl:(Vn σ V1).blocks=(Vn σ s.V).blocks:=by rw[x'Z,x'Z,ZgH r3]
      refine VCd.groupXsG T (fun k=>z'N ops st k) (Vn σ V1) i st e ops.size hbl r1.1 (Nat.blt_eq.mpr (by omega)) (by rw[Nat.ble_eq];omega) hB e1 hd (fun _ hi=>hi) ?_
      rw[←hl]
      exact r6 σ _ hn (c3 σ Q hQ hq)
     ·cases h
    ·cases h
theorem Zkl {P:Program} {ow:Nat→G→Bool} (T:Tab P) (hN:NamesOk P) (hM:P.follows .mixedOrders=true) {w:Gw} (hw:x'w P w) {lo:Nat→Prop} {n id:Nat} {ops:Array Oper} {s s':Gs} (h:Zir T ow w n ops s=some s') (hs:GOk lo n s):Zoe P lo n id ops s s':=by
 unfold Zir at h
 split at h
 ·rename_i hB
  rw[z'b]at hB
  obtain⟨a1,a2⟩:=ZbP T hN hw hB.1 hB.2 _ 0 _ s s' h (y'T ..).symm (z'Q _) hs
  refine⟨a1,fun σ Q hq=>?_⟩
  have h1:=VC.drawS (id:=id) (l:=ops.toList) hM (a2 σ (fun x s=>x= .normal∧Q x s) (fun c s h=>by cases h.1) fun σ' hag=>⟨rfl,hq σ' hag⟩)
  intro x a w hn hs
  exact wp_mono (h1 x a w hn hs) (by rintro e a w ⟨s',h1,h2⟩;exact⟨s',h1.2,h2⟩)
 ·cases h
def JQ (P:Program) (n:Nat) (c:Code) (Q:Exit→St→Prop):Nat→Nat→St→Prop
 |0,_,_=>False
 |k+1,l,s=> ∃rest,findLabel c l=some rest∧VC P n rest s (fun e s'=>match e with| .goto l'=>JQ P n c Q k l' s'|e=>Q e s')
theorem VC.scopeJ {P:Program} {n:Nat} {Q:Exit→St→Prop} {s:St} {c:Code} (h:VC P n c s (fun e s'=>match e with| .goto l=> ∃k,JQ P n c Q k l s'|e=>Q e s')):VC P n (.scope c) s Q:=fun x a w hn hs=>by
 intro b K cs
 have hg: ∀{l rest},findLabel c l=some rest→gotoIn l (.inScope c::K)=some (.code rest:: .inScope c::K):=fun hf=>by simp[gotoIn,hf]
 have key: ∀(k l:Nat) (s:St) (a:Act) (w:World),JQ P n c Q k l s→SRel x s a w→ ∃rest,findLabel c l=some rest∧ ∃e a' w',(∃s',Q e s'∧SRel x s' a' w')∧Arrives P (lone (b.at a (.code rest:: .inScope c::K)) cs w) b K cs e a' w':=by
  intro k
  induction k with
  |zero=>intro l s a w hj;exact hj.elim
  |succ k ih=>
   intro l s a w hj hs
   obtain⟨rest,hf,hv⟩:=hj
   refine⟨rest,hf,?_⟩
   obtain⟨e,a₁,w₁,⟨s',hq,hr⟩,harr⟩:=hv x a w hn hs b (.inScope c::K) cs
   cases e with
   |normal=>exact⟨.normal,a₁,w₁,⟨s',hq,hr⟩,Steps.trans harr (.one step_inScope)⟩
   |exit id=>exact⟨.exit id,a₁,w₁,⟨s',hq,hr⟩,fun k' hk=>harr k' (by simp[exitTo,hk])⟩
   |goto l'=>
    obtain⟨rest',hf',e₂,a₂,w₂,hq₂,harr₂⟩:=ih l' s' a₁ w₁ hq hr
    exact⟨e₂,a₂,w₂,hq₂,.of_steps (harr _ (hg hf')) harr₂⟩
   |ret=>exact⟨_,a₁,w₁,⟨s',hq,hr⟩,harr⟩
   |panic ch=>exact⟨_,a₁,w₁,⟨s',hq,hr⟩,harr⟩
   |outgrown=>exact⟨_,a₁,w₁,⟨s',hq,hr⟩,harr⟩
 obtain⟨e,a₁,w₁,⟨s',hq,hr⟩,harr⟩:=h x a w hn hs b (.inScope c::K) cs
 cases e with
 |normal=>exact⟨.normal,a₁,w₁,⟨s',hq,hr⟩,.head step_scope (Steps.trans harr (.one step_inScope))⟩
 |exit id=>exact⟨.exit id,a₁,w₁,⟨s',hq,hr⟩,fun k' hk=> .head step_scope (harr k' (by simp[exitTo,hk]))⟩
 |goto l'=>
  obtain⟨k,hj⟩:=hq
  obtain⟨rest',hf',e₂,a₂,w₂,hq₂,harr₂⟩:=key k l' s' a₁ w₁ hj hr
  exact⟨e₂,a₂,w₂,hq₂,.of_steps (.head step_scope (harr _ (hg hf'))) harr₂⟩
 |ret=>exact⟨_,a₁,w₁,⟨s',hq,hr⟩,.of_steps (.one step_scope) harr⟩
 |panic ch=>exact⟨_,a₁,w₁,⟨s',hq,hr⟩,.of_steps (.one step_scope) harr⟩
 |outgrown=>exact⟨_,a₁,w₁,⟨s',hq,hr⟩,.of_steps (.one step_scope) harr⟩
noncomputable def Zgp (w:Gw) (n:Nat) (c:Code) (k:Nat):Nat→Gs→Option (Ge×Gs):=Nat.rec (fun _ _=>none) (fun _ ih l s=>match findLabel c l with
 |some rest=>match w.run n rest s with
  |some (.gt l',s')=>ih l' s'
  |r=>r
 |none=>none) k
theorem Zfb {P:Program} {w:Gw} (hw:x'w P w) {lo:Nat→Prop} {n:Nat} {c:Code}: ∀(k l:Nat) (s:Gs) (e:Ge) (s':Gs),Zgp w n c k l s=some (e,s')→GOk lo n s→
  (s.nx≤s'.nx∧GOk lo n s')∧ ∀(σ:Nm) (Q:Exit→St→Prop),(∀σ':Nm,(∀i,i<s.nx→σ' i=σ i)→Q e.x (s'.st σ'))→JQ P n c Q k l (s.st σ)
 |0,l,s,e,s',h,_=>by cases h
 |k+1,l,s,e,s',h,hs=>by
  replace h:(match findLabel c l with
   |some rest=>match w.run n rest s with
    |some (.gt l',s')=>Zgp w n c k l' s'
    |r=>r
   |none=>none)=some (e,s'):=h
  split at h
  ·rename_i rest hf
   split at h
   ·rename_i l' s1 h1
    obtain⟨⟨a1,a2⟩,a3⟩:=hw.2 lo n rest s _ _ h1 hs
    obtain⟨⟨b1,b2⟩,b3⟩:=Zfb hw k l' s1 e s' h a2
    refine⟨⟨z'E a1 b1,b2⟩,fun σ Q hq=>⟨rest,hf,a3 σ _ fun σ' hag=>?_⟩⟩
    exact b3 σ' Q fun σ'' hag'=>hq σ'' fun i hi=>(hag' i (z'm hi a1)).trans (hag i hi)
   ·rename_i hno
    obtain⟨a1,a3⟩:=hw.2 lo n rest s _ _ h hs
    refine⟨a1,fun σ Q hq=>⟨rest,hf,a3 σ _ fun σ' hag=>?_⟩⟩
    have:=hq σ' hag
    cases e with
    |gt l'=>exact absurd h (hno l' s')
    |nm=>exact this
    |ex i=>exact this
    |rt=>exact this
  ·cases h
noncomputable def ZdY {P:Program} (T:Tab P) (ow:Nat→G→Bool) (w:Gw) (n:Nat) (c:Code) (s:Gs):Option (Ge×Gs):=match c with
 | .skip=>some (.nm,s)
 | .label _=>some (.nm,s)
 | .exit i=>some (.ex i,s)
 | .ret=>some (.rt,s)
 | .region _ ops false=>match ZiD T ow w n ops ops.toList s with|some s'=>some (.nm,s')|none=>none
 | .region _ ops true=>match Zir T ow w n ops s with|some s'=>some (.nm,s')|none=>none
 | .seq a b=>match w.run n a s with
  |some (.nm,s')=>w.run n b s'
  |r=>r
 | .cond c x y=>match gX s.env c with
  |some (.bool true)=>w.run n x s
  |some (.bool false)=>w.run n y s
  |_=>none
 | .block id c=>match w.run n c s with
  |some (.ex i,s')=>match Nat.beq i id with|true=>some (.nm,s')|false=>some (.ex i,s')
  |r=>r
 | .loop c=>match w.run n c s with
  |some (.nm,s')=>w.run n (.loop c) s'
  |r=>r
 | .scope c=>match w.run n c s with
  |some (.gt l,s')=>Zgp w n c 10000 l s'
  |r=>r
 | .goto l=>some (.gt l,s)
 |_=>none
noncomputable def w'W {P:Program} (T:Tab P) (ow:Nat→G→Bool) (tab:Nat→List G→Option G) (fuel:Nat):Gw:=⟨tab,Nat.rec (fun _ _ _=>none) (fun _ ih=>ZdY T ow ⟨tab,ih⟩) fuel⟩
noncomputable abbrev gRun {P:Program} (T:Tab P) (ow:Nat→G→Bool) (fuel:Nat):Gw:=w'W T ow (fun _ _=>none) fuel
theorem Zcr {P:Program} (T:Tab P) (ow:Nat→G→Bool) (tab:Nat→List G→Option G) (k:Nat) (n:Nat) (c:Code) (s:Gs):(w'W T ow tab (k+1)).run n c s=ZdY T ow (w'W T ow tab k) n c s:=rfl
structure Rnd {P:Program} (T:Tab P) (ow:Nat→G→Bool) (tab:Nat→List G→Option G) (lo:Nat→Prop) (n:Nat) (c:Code) (σ0:Nm) (nx0:Nat) (e:Ge) (s':Gs) where
 k:Nat
 s:Gs
 σ:Nm
 run:(w'W T ow tab k).run n (.loop c) s=some (e,s')
 ok:GOk lo n s
 le:nx0≤s.nx
 ag: ∀i,i<nx0→σ i=σ0 i
theorem Zdv {P:Program} (T:Tab P) (ow:Nat→G→Bool) {tab:Nat→List G→Option G} (hT:TabOk P tab) (hN:NamesOk P) (hM:P.follows .mixedOrders=true): ∀fuel:Nat,x'w P (w'W T ow tab fuel):=by
 intro fuel
 refine⟨hT,?_⟩
 induction fuel using Nat.strongRecOn with
 |_ fuel ih=>
  cases fuel with
  |zero=>intro lo n c s e s' h;cases h
  |succ k=>
   have hw:x'w P (w'W T ow tab k):=⟨hT,ih k (Nat.lt_succ_self _)⟩
   intro lo n c s e s' h hs
   rw[Zcr]at h
   unfold ZdY at h
   split at h
   ·cases h;exact⟨⟨z'c _,hs⟩,fun σ Q hq=>VC.skip (hq σ fun _ _=>rfl)⟩
   ·cases h;exact⟨⟨z'c _,hs⟩,fun σ Q hq=>VC.label (hq σ fun _ _=>rfl)⟩
   ·cases h;exact⟨⟨z'c _,hs⟩,fun σ Q hq=>VC.exit (hq σ fun _ _=>rfl)⟩
   ·cases h;exact⟨⟨z'c _,hs⟩,fun σ Q hq=>VC.ret (hq σ fun _ _=>rfl)⟩
   ·split at h
    ·rename_i s1 h1
     cases h
     obtain⟨a1,a2⟩:=ZeE T hN hw h1 hs
     exact⟨a1,fun σ Q hq=>VC.region (l:=_) (a2 σ Q hq)⟩
    ·cases h
   ·split at h
    ·rename_i s1 h1
     cases h
     exact Zkl T hN hM hw h1 hs
    ·cases h
   ·rename_i a b
    split at h
    ·rename_i s1 h1
     obtain⟨⟨a1,a2⟩,a3⟩:=hw.2 lo n a s _ _ h1 hs
     obtain⟨⟨b1,b2⟩,b3⟩:=hw.2 lo n b s1 _ _ h a2
     refine⟨⟨z'E a1 b1,b2⟩,fun σ Q hq=>VC.seq' (a3 σ _ fun σ' hag=>?_)⟩
     exact b3 σ' Q fun σ'' hag'=>hq σ'' fun i hi=>(hag' i (z'm hi a1)).trans (hag i hi)
    ·rename_i hno
     obtain⟨a1,a2⟩:=hw.2 lo n a s _ _ h hs
     refine⟨a1,fun σ Q hq=>VC.seq' (a2 σ _ fun σ' hag=>?_)⟩
     have:=hq σ' hag
     cases e with
     |nm=>exact absurd h (hno s')
     |gt l=>exact this
     |ex i=>exact this
     |rt=>exact this
   ·rename_i c x y
    split at h
    ·rename_i hx
     obtain⟨a1,a2⟩:=hw.2 lo n x s _ _ h hs
     exact⟨a1,fun σ Q hq=>VC.cond (t:=true) (z'u hx σ) (a2 σ Q hq)⟩
    ·rename_i hx
     obtain⟨a1,a2⟩:=hw.2 lo n y s _ _ h hs
     exact⟨a1,fun σ Q hq=>VC.cond (t:=false) (z'u hx σ) (a2 σ Q hq)⟩
    ·cases h
   ·rename_i id c
    split at h
    ·rename_i i s1 h1
     obtain⟨a1,a2⟩:=hw.2 lo n c s _ _ h1 hs
     split at h
     ·rename_i hb
      cases h
      have hb:=z'd hb
      subst hb
      refine⟨a1,fun σ Q hq=>VC.block (a2 σ _ fun σ' hag=>?_)⟩
      simp only[Ge.x,Zbe,beq_self_eq_true,cond_true]
      exact hq σ' hag
     ·rename_i hb
      cases h
      refine⟨a1,fun σ Q hq=>VC.block (a2 σ _ fun σ' hag=>?_)⟩
      have:(i == id)=false:=by
       rw[beq_eq_false_iff_ne];rintro rfl;rw[y'8]at hb;cases hb
      simp only[Ge.x,Zbe,this,cond_false]
      exact hq σ' hag
    ·rename_i hno
     obtain⟨a1,a2⟩:=hw.2 lo n c s _ _ h hs
     refine⟨a1,fun σ Q hq=>VC.block (a2 σ _ fun σ' hag=>?_)⟩
     have:=hq σ' hag
     cases e with
     |nm=>exact this
     |gt l=>exact this
     |ex i=>exact absurd h (hno i s')
     |rt=>exact this
   ·rename_i c
    have hloop:(w'W T ow tab (k+1)).run n (.loop c) s=some (e,s'):=h
    have mono: ∀(j:Nat) (s:Gs),j≤k+1→(w'W T ow tab j).run n (.loop c) s=some (e,s')→GOk lo n s→s.nx≤s'.nx∧GOk lo n s':=by
     intro j
     induction j with
     |zero=>intro s _ h;cases h
     |succ j ihj=>
      intro s hj h hs
      rw[Zcr]at h
      simp only[ZdY]at h
      split at h
      ·rename_i s1 h1
       obtain⟨⟨a1,a2⟩,_⟩:=ih j (by omega) lo n c s _ _ h1 hs
       obtain⟨b1,b2⟩:=ihj s1 (by omega) h a2
       exact⟨z'E a1 b1,b2⟩
      ·exact(ih j (by omega) lo n c s _ _ h hs).1
    refine⟨mono (k+1) s (z'c _) hloop hs,fun σ Q hq=>?_⟩
    refine VC.loop {r:Rnd T ow tab lo n c σ s.nx e s'//r.k≤k+1} (fun r=>r.1.s.st r.1.σ) (fun r=>r.1.k) ⟨⟨k+1,s,σ,hloop,hs,z'c _,fun _ _=>rfl⟩,z'c _⟩ (fun x a w hs=>hs) ?_
    rintro⟨⟨j,s2,σ2,hrun,hok,hle,hag⟩,hj⟩
    dsimp only at hj⊢
    cases j with
    |zero=>cases hrun
    |succ j=>
     rw[Zcr]at hrun
     simp only[ZdY]at hrun
     split at hrun
     ·rename_i s3 h3
      obtain⟨⟨a1,a2⟩,a3⟩:=ih j (by omega) lo n c s2 _ _ h3 hok
      refine a3 σ2 _ fun σ3 hag3=>?_
      refine⟨⟨⟨j,s3,σ3,hrun,a2,z'E hle a1,fun i hi=>(hag3 i (z'm hi hle)).trans (hag i hi)⟩,z'E (Nat.le_succ _) hj⟩,fun x a w hs=>hs,Nat.lt_succ_self _⟩
     ·rename_i hno
      obtain⟨⟨a1,a2⟩,a3⟩:=ih j (by omega) lo n c s2 _ _ hrun hok
      refine a3 σ2 _ fun σ3 hag3=>?_
      have:=hq σ3 fun i hi=>(hag3 i (z'm hi hle)).trans (hag i hi)
      cases e with
      |nm=>exact absurd hrun (hno s')
      |gt l=>exact this
      |ex i=>exact this
      |rt=>exact this
   ·rename_i c
    split at h
    ·rename_i l s1 h1
     obtain⟨⟨a1,a2⟩,a3⟩:=hw.2 lo n c s _ _ h1 hs
     obtain⟨⟨b1,b2⟩,b3⟩:=Zfb hw _ l s1 e s' h a2
     refine⟨⟨z'E a1 b1,b2⟩,fun σ Q hq=>VC.scopeJ (a3 σ _ fun σ' hag=>?_)⟩
     exact⟨_,b3 σ' Q fun σ'' hag'=>hq σ'' fun i hi=>(hag' i (z'm hi a1)).trans (hag i hi)⟩
    ·rename_i hno
     obtain⟨a1,a2⟩:=hw.2 lo n c s _ _ h hs
     refine⟨a1,fun σ Q hq=>VC.scopeJ (a2 σ _ fun σ' hag=>?_)⟩
     have:=hq σ' hag
     cases e with
     |gt l=>exact absurd h (hno l s')
     |nm=>exact this
     |ex i=>exact this
     |rt=>exact this
   ·cases h
    exact⟨⟨z'c _,hs⟩,fun σ Q hq=>VC.goto (hq σ fun _ _=>rfl)⟩
   ·cases h
noncomputable def Zf4 {P:Program} (T:Tab P) (w:Gw) (f:Nat) (args:List G):Option G:=match ZaS T w f args [] 0 with
 |some (g,V,_)=>match gFz V 8 g with
  |some g'=>match gNo g' with|true=>some g'|false=>none
  |none=>none
 |none=>none
theorem Fun.nodup {P:Program} {f:FuncId} {args:List D} {H:Heap} {fr:Bool} {Φ:D→Heap→Prop} (h:Fun P f args H fr Φ):Fun P f args H fr (fun d H'=>Φ d H'∧H'.blocks.Nodup):=
 ⟨h.1,fun w L0 vs hi hr=>(h.2 w L0 vs hi hr).mono fun e w' ⟨v,he,d,H',h1,h2,h3,h4⟩=>⟨v,he,d,H',⟨h1,h3.nodup⟩,h2,h3,h4⟩⟩
theorem Fun.reckonT {P:Program} (T:Tab P) (ow:Nat→G→Bool) {tab:Nat→List G→Option G} (hT:TabOk P tab) (hN:NamesOk P) (hM:P.follows .mixedOrders=true) {f:Nat} {args:List G} {g:G} (fuel:Nat) (h:Zf4 T (w'W T ow tab fuel) f args=some g) (ha:args.all gNo=true)
  {ads:List D} {d:D} (e1:args.map (G.d fun _=>(0,0))=ads) (e2:g.d (fun _=>(0,0))=d):Pure P f ads d:=by
 subst e1;subst e2
 unfold Zf4 at h
 split at h
 ·rename_i g0 V nx hc
  split at h
  ·rename_i g' hz
   split at h
   ·rename_i hno
    cases h
    obtain⟨_,h2⟩:=w'2 T hN (Zdv T ow hT hN hM fuel) (lo:=fun _=>True) hc (fun _ _=>trivial) (fun x hx σ τ _=>x'a (z'h.1 ha x hx) σ τ) VOk.nil
    refine Fun.fz ((h2 fun _=>(0,0)).nodup.mono ?_)
    rintro d H' ⟨⟨σ',_,rfl,rfl⟩,hn⟩
    rw[x'a hno _ σ']
    exact v'g hn 8 _ _ hz
   ·cases h
  ·cases h
 ·cases h
theorem Fun.reckonF {P:Program} (T:Tab P) (ow:Nat→G→Bool) (hN:NamesOk P) (hM:P.follows .mixedOrders=true) {f:Nat} {args:List G} {g:G} (fuel:Nat) (h:Zf4 T (gRun T ow fuel) f args=some g) (ha:args.all gNo=true)
  {ads:List D} {d:D} (e1:args.map (G.d fun _=>(0,0))=ads) (e2:g.d (fun _=>(0,0))=d):Pure P f ads d:=Fun.reckonT T ow TabOk.none hN hM fuel h ha e1 e2
end Go.Vc
