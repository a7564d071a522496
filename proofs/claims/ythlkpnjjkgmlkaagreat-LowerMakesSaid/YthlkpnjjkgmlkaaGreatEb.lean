/- Calls at fixed data, reckoned out: the data, and what operations make of values. No condition. -/
import Derived.Test.YthlkpnjjkgmlkaaGreatK2
namespace Go.Vc
set_option linter.unusedSimpArgs false
set_option linter.unusedVariables false
open Go
inductive G where
 |int (k:IntKind) (n:Int)
 |bool (b:Bool)
 |str (l:List UInt8)
 |ptr (b o:Nat)
 |val (v:Value)
 |sl (full:Bool) (esz:Nat) (rows:List (List G))
 |pt (row:List G)
 |own (b n:Nat)
 |nils
 |off (b o n c:Nat)
 |agg (l:List G)
 |tup (l:List G)
 |ifc (t:TypeId) (g:G)
 |fn (f:FuncId) (cs:List G)
 |mp (b:Nat)
 |any
abbrev Nm:=Nat→Nat×Nat
def x'R (l:List UInt8):ByteArray:=⟨l.toArray⟩
def G.v (σ:Nm):G→Value
 | .int k n=> .int k n
 | .bool b=> .bool b
 | .str l=> .string (x'R l)
 | .ptr b o=> .pointer (some ⟨(σ b).1,o,none⟩)
 | .val v=>v
 |_=> .nilFunc
def G.isV:G→Bool
 | .int .. | .bool _| .str _| .ptr .. | .val _=>true
 |_=>false
mutual
def G.d (σ:Nm):G→D
 | .int k n=> .is (.int k n)
 | .bool b=> .is (.bool b)
 | .str l=> .is (.string (x'R l))
 | .ptr b o=> .is (.pointer (some ⟨(σ b).1,o,none⟩))
 | .val v=> .is v
 | .sl f e rows=> .sl f e (G.dr σ rows)
 | .pt row=> .pt (G.dl σ row)
 | .own b n=> .gs (some (σ b)) n
 | .nils=> .gs none 0
 | .off b o n c=> .os (σ b).1 o n ((σ b).2-c)
 | .agg l=> .agg (G.dl σ l)
 | .tup l=> .tup (G.dl σ l)
 | .ifc t g=> .ifc t (G.d σ g)
 | .fn f cs=> .is (.func (.func f) #[] (cs.map (G.v σ)).toArray)
 | .mp b=> .is (.map (some (σ b).1))
 | .any=> .any
def G.dl (σ:Nm):List G→List D
 |[]=>[]
 |g::r=>G.d σ g::G.dl σ r
def G.dr (σ:Nm):List (List G)→List (List D)
 |[]=>[]
 |g::r=>G.dl σ g::G.dr σ r
end
theorem G.dl_eq (σ:Nm): ∀l,G.dl σ l=l.map (G.d σ)
 |[]=>rfl
 |g::r=>by rw[G.dl,G.dl_eq σ r];rfl
theorem G.dr_eq (σ:Nm): ∀l,G.dr σ l=l.map (·.map (G.d σ))
 |[]=>rfl
 |g::r=>by rw[G.dr,G.dr_eq σ r,G.dl_eq];rfl
theorem G.isV_d {σ:Nm} {g:G} (h:g.isV=true):g.d σ= .is (g.v σ):=by cases g<;>first|rfl|cases h
def Bel (lo:Nat→Prop) (hi:Nat) (g:G):Prop:= ∀σ τ:Nm,(∀i,lo i→i<hi→σ i=τ i)→g.d σ=g.d τ
theorem Bel.mono {lo lo':Nat→Prop} {hi hi':Nat} {g:G} (h:Bel lo hi g) (h1: ∀i,i<hi→lo i→lo' i) (h2:hi≤hi'):Bel lo' hi' g:=fun σ τ k=>h σ τ fun i a b=>k i (h1 i b a) (z'N b h2)
abbrev BelL (lo:Nat→Prop) (hi:Nat) (l:List G):Prop:= ∀g,g∈l→Bel lo hi g
abbrev BelR (lo:Nat→Prop) (hi:Nat) (l:List (List G)):Prop:= ∀r,r∈l→BelL lo hi r
section
variable {lo : Nat → Prop} {hi : Nat}
theorem Bel.int {k:IntKind} {n:Int}:Bel lo hi (.int k n):=fun _ _ _=>rfl
theorem Bel.bool {b:Bool}:Bel lo hi (.bool b):=fun _ _ _=>rfl
theorem Bel.str {l:List UInt8}:Bel lo hi (.str l):=fun _ _ _=>rfl
theorem Bel.val {v:Value}:Bel lo hi (.val v):=fun _ _ _=>rfl
theorem Bel.nils:Bel lo hi .nils:=fun _ _ _=>rfl
theorem Bel.any:Bel lo hi .any:=fun _ _ _=>rfl
theorem Bel.ptr {b o:Nat} (h:lo b) (h':b<hi):Bel lo hi (.ptr b o):=fun σ τ k=>by simp only[G.d,k b h h']
theorem Bel.own {b n:Nat} (h:lo b) (h':b<hi):Bel lo hi (.own b n):=fun σ τ k=>by simp only[G.d,k b h h']
theorem Bel.mp {b:Nat} (h:lo b) (h':b<hi):Bel lo hi (.mp b):=fun σ τ k=>by simp only[G.d,k b h h']
theorem Bel.ptr_o {b o o':Nat} (h:Bel lo hi (.ptr b o)):Bel lo hi (.ptr b o'):=fun σ τ k=>by
 have:=h σ τ k
 simp only[G.d,D.is.injEq,Value.pointer.injEq,z'L,Addr.mk.injEq,and_true]at this⊢
 exact this
theorem Bel.own_ptr {b n o:Nat} (h:Bel lo hi (.own b n)):Bel lo hi (.ptr b o):=fun σ τ k=>by
 have:=h σ τ k
 simp only[G.d,D.gs.injEq,z'L,and_true]at this
 simp only[G.d,this]
theorem Bel.own_n {b n n':Nat} (h:Bel lo hi (.own b n)):Bel lo hi (.own b n'):=fun σ τ k=>by
 have:=h σ τ k
 simp only[G.d,D.gs.injEq,z'L,and_true]at this⊢
 exact this
theorem Bel.own_off {b n o n' c:Nat} (h:Bel lo hi (.own b n)):Bel lo hi (.off b o n' c):=fun σ τ k=>by
 have:=h σ τ k
 simp only[G.d,D.gs.injEq,z'L,and_true]at this
 simp only[G.d,this]
theorem BelL.dl {l:List G} (h:BelL lo hi l) {σ τ:Nm} (k: ∀i,lo i→i<hi→σ i=τ i):G.dl σ l=G.dl τ l:=by
 rw[G.dl_eq,G.dl_eq];exact y'N fun g hg=>h g hg σ τ k
theorem BelR.dr {l:List (List G)} (h:BelR lo hi l) {σ τ:Nm} (k: ∀i,lo i→i<hi→σ i=τ i):G.dr σ l=G.dr τ l:=by
 rw[G.dr_eq,G.dr_eq];exact y'N fun r hr=>y'N fun g hg=>h r hr g hg σ τ k
theorem Bel.agg {l:List G} (h:BelL lo hi l):Bel lo hi (.agg l):=fun σ τ k=>by simp only[G.d,h.dl k]
theorem Bel.tup {l:List G} (h:BelL lo hi l):Bel lo hi (.tup l):=fun σ τ k=>by simp only[G.d,h.dl k]
theorem Bel.pt {l:List G} (h:BelL lo hi l):Bel lo hi (.pt l):=fun σ τ k=>by simp only[G.d,h.dl k]
theorem Bel.sl {f:Bool} {e:Nat} {l:List (List G)} (h:BelR lo hi l):Bel lo hi (.sl f e l):=fun σ τ k=>by simp only[G.d,h.dr k]
theorem Bel.ifc {t:TypeId} {g:G} (h:Bel lo hi g):Bel lo hi (.ifc t g):=fun σ τ k=>by simp only[G.d,h σ τ k]
theorem v'd {α β:Type} {f g:α→β}: ∀{l:List α},l.map f=l.map g→ ∀x,x∈l→f x=g x
 |[],_,x,h=>by cases h
 |a::l,h,x,hx=>by
  simp only[z'p,v'F]at h
  rcases z'v.1 hx with rfl|hx
  ·exact h.1
  ·exact v'd h.2 x hx
theorem Bel.agg_l {l:List G} (h:Bel lo hi (.agg l)):BelL lo hi l:=fun g hg σ τ k=>by
 have:=h σ τ k
 simp only[G.d,D.agg.injEq,G.dl_eq]at this
 exact v'd this g hg
theorem Bel.tup_l {l:List G} (h:Bel lo hi (.tup l)):BelL lo hi l:=fun g hg σ τ k=>by
 have:=h σ τ k
 simp only[G.d,D.tup.injEq,G.dl_eq]at this
 exact v'd this g hg
theorem Bel.pt_l {l:List G} (h:Bel lo hi (.pt l)):BelL lo hi l:=fun g hg σ τ k=>by
 have:=h σ τ k
 simp only[G.d,D.pt.injEq,G.dl_eq]at this
 exact v'd this g hg
theorem Bel.sl_r {f:Bool} {e:Nat} {l:List (List G)} (h:Bel lo hi (.sl f e l)):BelR lo hi l:=fun r hr g hg σ τ k=>by
 have:=h σ τ k
 simp only[G.d,D.sl.injEq,G.dr_eq,true_and]at this
 exact v'd (v'd this r hr) g hg
theorem Bel.fn {f:FuncId} {cs:List G} (hv:cs.all G.isV=true) (h:BelL lo hi cs):Bel lo hi (.fn f cs):=fun σ τ k=>by
 simp only[G.d]
 have:cs.map (G.v σ)=cs.map (G.v τ):=y'N fun g hg=>by
  have h1:=h g hg σ τ k
  have h2:=z'l.1 hv g hg
  rw[G.isV_d h2,G.isV_d h2]at h1
  exact D.is.inj h1
 rw[this]
theorem BelL.take {l:List G} (h:BelL lo hi l) (n:Nat):BelL lo hi (l.take n):=fun g hg=>h g (v's hg)
theorem BelL.drop {l:List G} (h:BelL lo hi l) (n:Nat):BelL lo hi (l.drop n):=fun g hg=>h g (List.mem_of_mem_drop hg)
theorem BelL.app {l m:List G} (h:BelL lo hi l) (k:BelL lo hi m):BelL lo hi (l++m):=fun g hg=>(z'X.1 hg).elim (h g) (k g)
theorem BelL.set {l:List G} (h:BelL lo hi l) (n:Nat) {g:G} (k:Bel lo hi g):BelL lo hi (l.set n g):=fun x hx=>by
 rcases List.mem_or_eq_of_mem_set hx with h1|h1
 ·exact h x h1
 ·exact h1▸k
theorem BelL.at {l:List G} (h:BelL lo hi l) {n:Nat} {g:G} (k:l[n]?=some g):Bel lo hi g:=h g (z'E k)
end
noncomputable def gAt {α:Type} (d:α) (l:List α):Nat→α:=List.rec (fun _=>d) (fun x _ ih n=>Nat.rec x (fun m _=>ih m) n) l
theorem ZgZ {α:Type} (d:α): ∀(l:List α) (n:Nat),gAt d l n=l.getD n d
 |[],n=>by simp[gAt]
 |x::l,0=>rfl
 |x::l,n+1=>by
  show gAt d l n=_
  rw[ZgZ d l n];simp
noncomputable def gIx {α:Type} (l:List α):Nat→Option α:=List.rec (fun _=>none) (fun x _ ih n=>Nat.rec (some x) (fun m _=>ih m) n) l
theorem w'T {α:Type}: ∀(l:List α) (n:Nat),gIx l n=l[n]?
 |[],n=>by simp[gIx]
 |x::l,0=>rfl
 |x::l,n+1=>by
  show gIx l n=_
  rw[w'T l n];simp
noncomputable def Zj9 {α R:Type} (l:List α):Nat→α→(List α→R)→R:=List.rec (fun _ _ k=>k []) (fun x xs ih n a k=>Nat.rec (k (a::xs)) (fun m _=>ih m a fun r=>k (x::r)) n) l
theorem Zh4 {α R:Type}: ∀(l:List α) (n:Nat) (a:α) (k:List α→R),Zj9 l n a k=k (l.set n a)
 |[],n,a,k=>by simp[Zj9]
 |x::l,0,a,k=>rfl
 |x::l,n+1,a,k=>by
  show Zj9 l n a (fun r=>k (x::r))=_
  rw[Zh4 l n a];simp
noncomputable def v'z {α R:Type} (l:List α):(List α→R)→R:=List.rec (fun k=>k []) (fun x _ ih k=>ih fun r=>k (x::r)) l
theorem x'S {α R:Type}: ∀(l:List α) (k:List α→R),v'z l k=k l
 |[],k=>rfl
 |x::l,k=>by
  show v'z l (fun r=>k (x::r))=_
  rw[x'S l]
noncomputable def ZbC {R:Type} (n:Nat) (k:Nat→R):R:=Nat.rec (k 0) (fun m _=>k (Nat.succ m)) n
theorem ZfD {R:Type} (n:Nat) (k:Nat→R):ZbC n k=k n:=by cases n<;>rfl
noncomputable def Zpj {R:Type} (n:Int) (k:Int→R):R:=match n with| .ofNat m=>ZbC m fun m=>k (.ofNat m)| .negSucc m=>ZbC m fun m=>k (.negSucc m)
theorem Zre {R:Type} (n:Int) (k:Int→R):Zpj n k=k n:=by cases n<;>simp only[Zpj,ZfD]
noncomputable def gPl {R:Type} (g:G) (k:G→R):R:=match g with
 | .int i n=>Zpj n fun n=>k (.int i n)
 | .bool true=>k (.bool true)
 | .bool false=>k (.bool false)
 | .str l=>v'z l fun l=>k (.str l)
 | .ptr b o=>ZbC b fun b=>ZbC o fun o=>k (.ptr b o)
 | .own b n=>ZbC b fun b=>ZbC n fun n=>k (.own b n)
 | .off b o n c=>ZbC b fun b=>ZbC o fun o=>ZbC n fun n=>ZbC c fun c=>k (.off b o n c)
 | .agg l=>v'z l fun l=>k (.agg l)
 | .tup l=>v'z l fun l=>k (.tup l)
 | .pt l=>v'z l fun l=>k (.pt l)
 | .sl f e r=>v'z r fun r=>k (.sl f e r)
 |g=>k g
theorem ZeZ {R:Type} (g:G) (k:G→R):gPl g k=k g:=by
 cases g with
 |bool b=>cases b<;>rfl
 |_=>simp only[gPl,Zre,ZfD,x'S]
abbrev Env:=List (List G)
noncomputable def eAt (env:Env) (t:Nat):G:=gAt .any (gAt [] env (Nat.div t 8)) (Nat.mod t 8)
def Zby (env:Env) (t:Nat) (g:G):Env:=env.set (Nat.div t 8) ((env.getD (Nat.div t 8) []).set (Nat.mod t 8) g)
noncomputable def ZhO {R:Type} (env:Env) (t:Nat) (g:G) (k:Env→R):R:=Zj9 (gAt [] env (Nat.div t 8)) (Nat.mod t 8) g fun c=>Zj9 env (Nat.div t 8) c k
theorem Zfw {R:Type} (env:Env) (t:Nat) (g:G) (k:Env→R):ZhO env t g k=k (Zby env t g):=by unfold ZhO Zby;rw[Zh4,Zh4,ZgZ]
def ELen (n:Nat) (env:Env):Prop:=(∀c,c∈env→c.length=8)∧n≤8*env.length
def BelE (lo:Nat→Prop) (hi:Nat) (env:Env):Prop:= ∀c,c∈env→BelL lo hi c
theorem Zd8 (env:Env) (t:Nat):eAt env t=(env.getD (Nat.div t 8) []).getD (Nat.mod t 8) .any:=by unfold eAt;rw[ZgZ,ZgZ]
theorem ZhN {lo:Nat→Prop} {hi:Nat} {env:Env} (h:BelE lo hi env) (t:Nat):Bel lo hi (eAt env t):=by
 rw[Zd8,z'f,z'f]
 cases h1:env[Nat.div t 8]? with
 |none=>rw[Option.getD_none,List.getElem?_nil,Option.getD_none];exact Bel.any
 |some c=>
  rw[z'B]
  cases h2:c[Nat.mod t 8]? with
  |none=>exact Bel.any
  |some g=>exact(h c (z'E h1)).at h2
theorem Zd9 {lo:Nat→Prop} {hi:Nat} {env:Env} (h:BelE lo hi env) (t:Nat) {g:G} (k:Bel lo hi g):BelE lo hi (Zby env t g):=fun c hc=>by
 unfold Zby at hc
 rcases List.mem_or_eq_of_mem_set hc with hc|rfl
 ·exact h c hc
 ·rw[z'f]
  cases h1:env[Nat.div t 8]? with
  |none=>exact fun x hx=>by cases hx
  |some c=>exact(h c (z'E h1)).set _ k
theorem ELen.lt {n t:Nat} {env:Env} (h:ELen n env) (ht:t<n):Nat.div t 8<env.length:=by
 have:=h.2
 show t/8<env.length
 omega
theorem Zcy {n:Nat} {env:Env} (h:ELen n env) (t:Nat) (g:G):ELen n (Zby env t g):=by
 refine⟨fun c hc=>?_,by unfold Zby;rw[x'6];exact h.2⟩
 unfold Zby at hc
 by_cases hl:Nat.div t 8<env.length
 ·rcases List.mem_or_eq_of_mem_set hc with hc|rfl
  ·exact h.1 c hc
  ·rw[x'6,z'f,z'k hl,z'B]
   exact h.1 _ (List.getElem_mem hl)
 ·rw[List.set_eq_of_length_le (by omega)]at hc
  exact h.1 c hc
theorem Zls {n t:Nat} {env:Env} (h:ELen n env) (ht:t<n) (g:G) (u:Nat):eAt (Zby env t g) u=if t=u then g else eAt env u:=by
 have hl:=h.lt ht
 have h8:(env.getD (Nat.div t 8) []).length=8:=by
  rw[z'f,z'k hl,z'B]
  exact h.1 _ (List.getElem_mem hl)
 have hm:Nat.mod t 8<8:=Nat.mod_lt _ (by omega)
 rw[Zd8,Zd8]
 unfold Zby
 by_cases e:Nat.div t 8=Nat.div u 8
 ·rw[←e]
  rw[show(env.set (Nat.div t 8) ((env.getD (Nat.div t 8) []).set (Nat.mod t 8) g)).getD (Nat.div t 8) []=(env.getD (Nat.div t 8) []).set (Nat.mod t 8) g by
   rw[z'f,List.getElem?_set_self (by omega),z'B]]
  by_cases e2:Nat.mod t 8=Nat.mod u 8
  ·have:t=u:=by
    have e':t/8=u/8:=e
    have e2':t % 8=u % 8:=e2
    omega
   rw[if_pos this, ←e2,z'f,List.getElem?_set_self (by omega),z'B]
  ·have: ¬t=u:=fun q=>e2 (by rw[q])
   rw[if_neg this,z'f,x'9 e2, ←List.getD_eq_getElem?_getD]
 ·have: ¬t=u:=fun q=>e (by rw[q])
  rw[if_neg this]
  congr 1
  rw[z'f,x'9 e, ←List.getD_eq_getElem?_getD]
theorem BelE.mono {lo:Nat→Prop} {hi hi':Nat} {env:Env} (h:BelE lo hi env) (k:hi≤hi'):BelE lo hi' env:=fun c hc g hg=>(h c hc g hg).mono (fun _ _ h=>h) k
def gC:Value→Option G
 | .int k n=>some (.int k n)
 | .bool b=>some (.bool b)
 | .string s=>some (.str s.data.toList)
 | .slice none 0 0=>some .nils
 | .pointer none=>some (.val (.pointer none))
 | .map none=>some (.val (.map none))
 | .nilFunc=>some (.val .nilFunc)
 | .nilIface=>some (.val .nilIface)
 |_=>none
theorem Zi7 {v:Value} {g:G} (h:gC v=some g) (σ:Nm):constD v=g.d σ:=by
 unfold gC at h
 split at h<;>first|cases h|skip
 all_goals first|rfl|skip
theorem ZnS {v:Value} {g:G} (h:gC v=some g) {lo:Nat→Prop} {hi:Nat}:Bel lo hi g:=fun σ τ _=>(Zi7 h σ).symm.trans (Zi7 h τ)
noncomputable def gX (env:Env):Operand→Option G
 | .tmp t=>some (eAt env t)
 | .const v=>gC v
 | .func f=>some (.fn f [])
 | .global _=>none
noncomputable def cE (σ:Nm) (env:Env):Nat→D:=fun t=>(eAt env t).d σ
theorem z'2 {env:Env} {x:Operand} {g:G} (h:gX env x=some g) (σ:Nm):evD (cE σ env) x=g.d σ:=by
 cases x with
 |tmp t=>simp only[gX,z'L]at h;subst h;rfl
 |const v=>exact Zi7 h σ
 |func f=>simp only[gX,z'L]at h;subst h;rfl
 |global g=>cases h
theorem x'F {env:Env} {x:Operand} {g:G} (h:gX env x=some g) {lo:Nat→Prop} {hi:Nat} (he:BelE lo hi env):Bel lo hi g:=by
 cases x with
 |tmp t=>
  simp only[gX,z'L]at h
  subst h
  exact ZhN he t
 |const v=>exact ZnS h
 |func f=>simp only[gX,z'L]at h;subst h;exact fun _ _ _=>rfl
 |global g=>cases h
def Zhc (c a b:G):Option G:=match c with
 | .bool true=>some a
 | .bool false=>some b
 |_=>none
theorem Zps {c a b g:G} (h:Zhc c a b=some g) {σ:Nm} {K:D→Prop} (hk:K (g.d σ)):cPick (c.d σ) (a.d σ) (b.d σ) K:=by
 unfold Zhc at h
 split at h<;>cases h
 ·exact hk
 ·exact hk
theorem ZnX {c a b g:G} (h:Zhc c a b=some g) {lo:Nat→Prop} {hi:Nat} (ha:Bel lo hi a) (hb:Bel lo hi b):Bel lo hi g:=by
 unfold Zhc at h
 split at h<;>cases h<;>assumption
def ZjT (op:BinOp) (k:IntKind) (x y:Int):Option G:=match op with
 | .add=>some (.int k (k.wrap (x+y)))
 | .sub=>some (.int k (k.wrap (x-y)))
 | .mul=>some (.int k (k.wrap (x*y)))
 | .quo=>match decide (y=0)with|false=>some (.int k (k.wrap (x.tdiv y)))|true=>none
 | .rem=>match decide (y=0)with|false=>some (.int k (x.tmod y))|true=>none
 | .eql=>some (.bool (x == y))
 | .neq=>some (.bool (x != y))
 | .lss=>some (.bool (decide (x<y)))
 | .leq=>some (.bool (decide (x≤y)))
 | .gtr=>some (.bool (decide (x>y)))
 | .geq=>some (.bool (decide (x≥y)))
 |_=>none
theorem Zrd {op:BinOp} {k:IntKind} {x y:Int} {g:G} (h:ZjT op k x y=some g) {σ:Nm} {K:D→Prop} (hk:K (g.d σ)):cInt op k x y K:=by
 cases op<;>simp only[ZjT]at h<;>first|(cases h;done)|(cases h;exact hk)|(split at h<;>cases h;rename_i hd;exact⟨of_decide_eq_false hd,hk⟩)
theorem Zpi {op:BinOp} {k:IntKind} {x y:Int} {g:G} (h:ZjT op k x y=some g) {lo:Nat→Prop} {hi:Nat}:Bel lo hi g:=by
 cases op<;>simp only[ZjT]at h<;>first|(cases h;done)|(cases h;exact fun _ _ _=>rfl)|(split at h<;>cases h;exact fun _ _ _=>rfl)
noncomputable def eqB (a:List UInt8):List UInt8→Bool:=List.rec (fun b=>match b with|[]=>true|_::_=>false) (fun x _ ih b=>match b with|[]=>false|y::b=>match Nat.beq x.toNat y.toNat with|true=>ih b|false=>false) a
theorem ZgV: ∀(a b:List UInt8),eqB a b=decide (a=b)
 |[],[]=>by simp[eqB]
 |[],y::b=>by simp[eqB]
 |x::a,[]=>by simp[eqB]
 |x::a,y::b=>by
  show(match Nat.beq x.toNat y.toNat with|true=>eqB a b|false=>false)=_
  rw[ZgV a b]
  by_cases h:x=y
  ·subst h
   have:Nat.beq x.toNat x.toNat=true:=w'6 _
   rw[this];simp
  ·have:Nat.beq x.toNat y.toNat=false:=by
    rw[←Bool.not_eq_true]
    intro hb
    exact h (UInt8.toNat_inj.1 (z's hb))
   rw[this];simp[h]
theorem Zqm {a b:List UInt8}:x'R a=x'R b↔a=b:=by
 constructor
 ·intro h
  have:(x'R a).data.toList=(x'R b).data.toList:=by rw[h]
  simpa[x'R]using this
 ·rintro rfl;rfl
theorem v'7 (a:List UInt8):(x'R a).size=a.length:=by simp[x'R,ByteArray.size]
theorem Zql (a b:List UInt8):x'R a++x'R b=x'R (a++b):=by
 apply ByteArray.ext
 simp[x'R]
def Zpv (op:BinOp) (x y:List UInt8):Option G:=match op with
 | .add=>match Nat.ble (x.length+y.length) 9223372036854775807 with|true=>some (.str (x++y))|false=>none
 | .lss=>some (.bool (Op.bytesLess x y))
 |_=>none
noncomputable def Zj8 (op:BinOp) (x y:List UInt8):Option G:=match op with
 | .eql=>some (.bool (eqB x y))
 | .neq=>some (.bool (!eqB x y))
 |op=>Zpv op x y
theorem Zri {op:BinOp} {x y:List UInt8} {g:G} (h:Zj8 op x y=some g) {σ:Nm} {K:D→Prop} (hk:K (g.d σ)):cStr op (x'R x) (x'R y) K:=by
 have e:decide (x'R x=x'R y)=eqB x y:=by rw[ZgV];exact decide_eq_decide.2 Zqm
 cases op<;>simp only[Zj8,Zpv]at h<;>first|(cases h;done)|skip
 case add=>
  split at h
  ·rename_i hb
   cases h
   exact⟨by rw[v'7,v'7];exact z'F hb,by rw[Zql];exact hk⟩
  ·cases h
 case eql=>cases h;simp only[cStr];rw[e];exact hk
 case neq=>cases h;simp only[cStr];rw[e];exact hk
 case lss=>cases h;exact hk
theorem Zpu {op:BinOp} {x y:List UInt8} {g:G} (h:Zj8 op x y=some g) {lo:Nat→Prop} {hi:Nat}:Bel lo hi g:=by
 cases op<;>simp only[Zj8,Zpv]at h<;>first|(cases h;done)|(cases h;exact fun _ _ _=>rfl)|(split at h<;>cases h;exact fun _ _ _=>rfl)
noncomputable def ZjL (kd:Kd) (op:BinOp) (a b:G):Option G:=match a,b with
 | .int k x,.int k' y=>match Nat.beq (kTag k) (kTag k')with|true=>ZjT op k x y|false=>none
 | .str x,.str y=>Zj8 op x y
 | .bool x,.bool y=>match kd,op with
  | .bool,.eql=>some (.bool (x == y))
  | .bool,.neq=>some (.bool (x != y))
  |_,_=>none
 |_,_=>none
theorem Zra {kd:Kd} {op:BinOp} {a b g:G} (h:ZjL kd op a b=some g) {σ:Nm} {K:D→Prop} (hk:K (g.d σ)):cBin kd op (a.d σ) (b.d σ) K:=by
 unfold ZjL at h
 split at h
 ·split at h
  ·rename_i hb
   have hb':(kTag _ == kTag _)=true:=beq_iff_eq.2 (z's hb)
   simp only[G.d,cBin,hb']
   exact Zrd h hk
  ·cases h
 ·exact Zri h hk
 ·split at h<;>cases h<;>exact hk
 ·cases h
theorem Zpb {kd:Kd} {op:BinOp} {a b g:G} (h:ZjL kd op a b=some g) {lo:Nat→Prop} {hi:Nat}:Bel lo hi g:=by
 unfold ZjL at h
 split at h
 ·split at h
  ·exact Zpi h
  ·cases h
 ·exact Zpu h
 ·split at h<;>cases h<;>exact fun _ _ _=>rfl
 ·cases h
def gUn (op:UnOp) (a:G):Option G:=match op,a with
 | .not,.bool b=>some (.bool !b)
 | .neg,.int k n=>some (.int k (k.wrap (0-n)))
 |_,_=>none
theorem Zss {op:UnOp} {a g:G} (h:gUn op a=some g) {σ:Nm} {K:D→Prop} (hk:K (g.d σ)):cUn op (a.d σ) K:=by
 unfold gUn at h
 split at h<;>cases h<;>exact hk
theorem Zrj {op:UnOp} {a g:G} (h:gUn op a=some g) {lo:Nat→Prop} {hi:Nat}:Bel lo hi g:=by
 unfold gUn at h
 split at h<;>cases h<;>exact fun _ _ _=>rfl
def Zbb (f:Option (Nat×Nat×Bool)) (a:G):Option G:=match f with
 |some (off,sz,_)=>match sz,a with
  |0,_=>none
  |_+1,.ptr b o=>some (.ptr b (o+off))
  |_+1,.pt row=>some (.pt (row.drop off))
  |_,_=>none
 |none=>none
theorem Zi0 {f:Option (Nat×Nat×Bool)} {a g:G} (h:Zbb f a=some g) {σ:Nm} {K:D→Prop} (hk:K (g.d σ)):cFieldAddr f (a.d σ) K:=by
 unfold Zbb at h
 split at h
 ·split at h<;>cases h
  ·exact hk
  ·simp only[G.d,cFieldAddr,G.dl_eq]at hk⊢;rw[←List.map_drop];exact hk
 ·cases h
theorem ZhW {f:Option (Nat×Nat×Bool)} {a g:G} (h:Zbb f a=some g) {lo:Nat→Prop} {hi:Nat} (ha:Bel lo hi a):Bel lo hi g:=by
 unfold Zbb at h
 split at h
 ·split at h<;>cases h
  ·exact ha.ptr_o
  ·exact Bel.pt (ha.pt_l.drop _)
 ·cases h
def ixN (n:Nat):Int→Option Nat
 | .ofNat i=>match Nat.blt i n with|true=>some i|false=>none
 | .negSucc _=>none
theorem Zhi {n i:Nat} {x:Int} (h:ixN n x=some i):x=(i:Int)∧i<n:=by
 unfold ixN at h
 split at h
 ·split at h
  ·rename_i hb;cases h;exact⟨rfl,z'F hb⟩
  ·cases h
 ·cases h
noncomputable def Zbc (kd:Kd) (x i:G):Option G:=match kd,i with
 | .slice _ esz _ _ _,.int _ n=>match x with
  | .sl _ esz' rows=>match ixN rows.length n,Nat.beq esz' esz with
   |some j,true=>(gIx rows j).map .pt
   |_,_=>none
  | .own b len=>match ixN len n with
   |some j=>some (.ptr b (j*esz))
   |none=>none
  |_=>none
 |_,_=>none
theorem Zi1 {kd:Kd} {x i g:G} (h:Zbc kd x i=some g) {σ:Nm} {K:D→Prop} (hk:K (g.d σ)):cIndexAddr kd (x.d σ) (i.d σ) K:=by
 unfold Zbc at h
 split at h
 ·split at h
  ·split at h
   ·rename_i hi he
    obtain⟨rfl,hlt⟩:=Zhi hi
    rw[w'T,Option.map_eq_some_iff]at h
    obtain⟨r,hr,rfl⟩:=h
    simp only[G.d,cIndexAddr,G.dr_eq,z'i,z'K,z'b]
    refine⟨⟨by omega,by omega⟩,r.map (G.d σ),by rw[hr];rfl,z's he,?_⟩
    rw[←G.dl_eq];exact hk
   ·cases h
  ·split at h
   ·rename_i hi
    obtain⟨rfl,hlt⟩:=Zhi hi
    cases h
    refine⟨⟨by omega,by omega⟩,?_⟩
    rw[z'b];exact hk
   ·cases h
  ·cases h
 ·cases h
theorem ZhZ {kd:Kd} {x i g:G} (h:Zbc kd x i=some g) {lo:Nat→Prop} {hi:Nat} (hx:Bel lo hi x):Bel lo hi g:=by
 unfold Zbc at h
 split at h
 ·split at h
  ·split at h
   ·rw[w'T,Option.map_eq_some_iff]at h
    obtain⟨r,hr,rfl⟩:=h
    exact Bel.pt (hx.sl_r r (z'E hr))
   ·cases h
  ·split at h
   ·cases h;exact hx.own_ptr
   ·cases h
  ·cases h
 ·cases h
noncomputable def ZcA (x:G) (i:Nat):Option G:=match x with| .tup l=>gIx l i|_=>none
theorem Zlc {x g:G} {i:Nat} (h:ZcA x i=some g) {σ:Nm} {K:D→Prop} (hk:K (g.d σ)):cExtract (x.d σ) i K:=by
 unfold ZcA at h
 split at h
 ·rw[w'T]at h
  exact⟨g.d σ,by rw[G.dl_eq,z'K,h];rfl,hk⟩
 ·cases h
theorem ZjQ {x g:G} {i:Nat} (h:ZcA x i=some g) {lo:Nat→Prop} {hi:Nat} (hx:Bel lo hi x):Bel lo hi g:=by
 unfold ZcA at h
 split at h
 ·rw[w'T]at h;exact hx.tup_l.at h
 ·cases h
def Zj2 (x:G):Option G:=match x with| .ptr b o=>some (.ptr b o)| .pt r=>some (.pt r)| .ifc t d=>some (.ifc t d)|_=>none
theorem Zrg {x g:G} (h:Zj2 x=some g) {σ:Nm} {K:D→Prop} (hk:K (g.d σ)):cNil (x.d σ) K:=by
 unfold Zj2 at h
 split at h<;>cases h<;>exact hk
theorem Zpp {x g:G} (h:Zj2 x=some g) {lo:Nat→Prop} {hi:Nat} (hx:Bel lo hi x):Bel lo hi g:=by
 unfold Zj2 at h
 split at h<;>cases h<;>exact hx
def Zek:G→Bool
 | .agg _| .tup _| .any=>false
 | .val v=>v.oneCell'
 |_=>true
theorem Zrh {g:G} (h:Zek g=true) (σ:Nm):oneD (g.d σ)=true:=by cases g<;>first|rfl|exact h|cases h
theorem ZaF {l:List G} (h:l.all Zek=true) (σ:Nm):(l.map (G.d σ)).all oneD=true:=by
 rw[List.all_map,z'l]
 exact fun g hg=>Zrh (z'l.1 h g hg) σ
def ZeT:G→Option (List G)
 | .agg l=>some l
 | .tup _| .any=>none
 | .val v=>match v with| .agg _=>none|v=>some [.val v]
 |g=>some [g]
theorem ZeU {g:G} {l:List G} (h:ZeT g=some l) (σ:Nm):cellsD (g.d σ)=some (l.map (G.d σ)):=by
 cases g with
 |agg l=>cases h;simp only[G.d,cellsD,G.dl_eq]
 |tup l=>cases h
 |any=>cases h
 |val v=>cases v<;>first|(cases h;done)|(cases h;rfl)
 |_=>cases h;rfl
theorem Zee {g:G} {l:List G} (h:ZeT g=some l) {lo:Nat→Prop} {hi:Nat} (hx:Bel lo hi g):BelL lo hi l:=by
 cases g with
 |agg l=>cases h;exact hx.agg_l
 |tup l=>cases h
 |any=>cases h
 |val v=>cases v<;>first|(cases h;done)|(cases h;intro x hm;rw[z'R]at hm;subst hm;exact hx)
 |_=>cases h;intro x hm;rw[z'R]at hm;subst hm;exact hx
def ZbR:List Value→Option (List G)
 |[]=>some []
 |v::r=>match gC v,ZbR r with
  |some g,some l=>some (g::l)
  |_,_=>none
theorem ZbE: ∀{z:List Value} {l:List G},ZbR z=some l→ ∀σ:Nm,z.map constD=l.map (G.d σ)
 |[],l,h,σ=>by cases h;rfl
 |v::r,l,h,σ=>by
  unfold ZbR at h
  split at h
  ·rename_i g l' h1 h2
   cases h
   rw[z'p,z'p,Zi7 h1 σ,ZbE h2 σ]
  ·cases h
theorem ZaZ: ∀{z:List Value} {l:List G},ZbR z=some l→ ∀{lo:Nat→Prop} {hi:Nat},BelL lo hi l
 |[],l,h,lo,hi=>by cases h;intro g hg;cases hg
 |v::r,l,h,lo,hi=>by
  unfold ZbR at h
  split at h
  ·rename_i g l' h1 h2
   cases h
   intro x hx
   rcases z'v.1 hx with rfl|hx
   ·exact ZnS h1
   ·exact ZaZ h2 x hx
  ·cases h
def Zep:List G→Nat→List G→List G
 |cells,_,[]=>cells
 |cells,off,c::cs=>Zep (cells.set off c) (off+1) cs
theorem Zeq (σ:Nm): ∀(c l:List G) (off:Nat),setL (l.map (G.d σ)) off (c.map (G.d σ))=(Zep l off c).map (G.d σ)
 |[],l,off=>rfl
 |x::c,l,off=>by
  rw[z'p,setL,Zep, ←Zeq σ c,List.map_set]
theorem Zdc {lo:Nat→Prop} {hi:Nat}: ∀(c l:List G) (off:Nat),BelL lo hi l→BelL lo hi c→BelL lo hi (Zep l off c)
 |[],l,off,h,_=>h
 |x::c,l,off,h,k=>Zdc c _ _ (h.set _ (k x (z't ..))) fun g hg=>k g (z'o _ hg)
noncomputable def Zc9 (env:Env) (place:Nat→Option (Nat×Nat)):List G→List (Nat×Operand)→Option (List G)
 |cells,[]=>some cells
 |cells,(i,x)::rest=>match gX env x with
  |some g=>match place i,ZeT g with
   |some (off,sz),some c=>match Nat.beq c.length sz&&Nat.ble (off+sz) cells.length with
    |true=>Zc9 env place (Zep cells off c) rest
    |false=>none
   |_,_=>none
  |none=>none
theorem Zef {env:Env} {place:Nat→Option (Nat×Nat)} (σ:Nm): ∀(ps:List (Nat×Operand)) (cells l:List G),Zc9 env place cells ps=some l→
  ZbO place (cells.map (G.d σ)) (ps.map fun p=>(p.1,evD (cE σ env) p.2))=some (l.map (G.d σ))
 |[],cells,l,h=>by cases h;rfl
 |(i,x)::rest,cells,l,h=>by
  unfold Zc9 at h
  split at h
  ·rename_i g hg
   split at h
   ·rename_i off sz c hp hc
    split at h
    ·rename_i hb
     rw[z'd]at hb
     have hb':((c.map (G.d σ)).length == sz&&Nat.ble (off+sz) (cells.map (G.d σ)).length)=true:=by
      rw[z'i,z'i,z'd]
      exact⟨beq_iff_eq.2 (z's hb.1),hb.2⟩
     simp only[z'p,ZbO,z'2 hg σ,hp,ZeU hc σ,hb',Zeq]
     exact Zef σ rest _ _ h
    ·cases h
   ·cases h
  ·cases h
theorem Zda {env:Env} {place:Nat→Option (Nat×Nat)} {lo:Nat→Prop} {hi:Nat} (he:BelE lo hi env): ∀(ps:List (Nat×Operand)) (cells l:List G),BelL lo hi cells→Zc9 env place cells ps=some l→BelL lo hi l
 |[],cells,l,hc,h=>by cases h;exact hc
 |(i,x)::rest,cells,l,hc,h=>by
  unfold Zc9 at h
  split at h
  ·rename_i g hg
   split at h
   ·rename_i off sz c hp hcc
    split at h
    ·exact Zda he rest _ _ (Zdc _ _ _ hc (Zee hcc (x'F hg he))) h
    ·cases h
   ·cases h
  ·cases h
noncomputable def ZeS (ty:TyI) (env:Env) (ps:List (Nat×Operand)):Option G:=match kdT ty,ZbR ty.zero with
 | .struct fs,some z=>match Zc9 env (fun i=>(fs[i]?).map fun x=>(x.1,x.2.1)) z ps with
  |some l=>match l.all Zek with|true=>some (.agg l)|false=>none
  |none=>none
 |_,_=>none
theorem ZnR {ty:TyI} {env:Env} {ps:List (Nat×Operand)} {g:G} (h:ZeS ty env ps=some g) {σ:Nm} {K:D→Prop} (hk:K (g.d σ)):cBuild ty (ps.map fun p=>(p.1,evD (cE σ env) p.2)) K:=by
 unfold ZeS at h
 split at h
 ·rename_i fs z hkd hz
  split at h
  ·rename_i l hl
   split at h
   ·rename_i ho
    cases h
    simp only[cBuild,hkd,ZbE hz σ,Zef σ ps z l hl]
    exact⟨ZaF ho σ,by rw[←G.dl_eq];exact hk⟩
   ·cases h
  ·cases h
 ·cases h
theorem ZmB {ty:TyI} {env:Env} {ps:List (Nat×Operand)} {g:G} (h:ZeS ty env ps=some g) {lo:Nat→Prop} {hi:Nat} (he:BelE lo hi env):Bel lo hi g:=by
 unfold ZeS at h
 split at h
 ·rename_i fs z hkd hz
  split at h
  ·rename_i l hl
   split at h
   ·cases h;exact Bel.agg (Zda he ps z l (ZaZ hz) hl)
   ·cases h
  ·cases h
 ·cases h
noncomputable def ZeW (f:Option (Nat×Nat×Bool)) (x:G):Option G:=match f,x with
 |some (off,sz,true),.agg l=>match Nat.ble (off+sz) l.length with|true=>some (.agg ((l.drop off).take sz))|false=>none
 |some (off,_,false),.agg l=>gIx l off
 |_,_=>none
theorem ZnU {f:Option (Nat×Nat×Bool)} {x g:G} (h:ZeW f x=some g) {σ:Nm} {K:D→Prop} (hk:K (g.d σ)):cField f (x.d σ) K:=by
 unfold ZeW at h
 split at h
 ·split at h
  ·rename_i hb
   cases h
   simp only[G.d,G.dl_eq,cField,z'i]at hk⊢
   exact⟨z'F hb,by rw[←List.map_drop, ←List.map_take];exact hk⟩
  ·cases h
 ·rw[w'T]at h
  simp only[G.d,G.dl_eq,cField]
  exact⟨g.d σ,by rw[z'K,h];rfl,hk⟩
 ·cases h
theorem ZmF {f:Option (Nat×Nat×Bool)} {x g:G} (h:ZeW f x=some g) {lo:Nat→Prop} {hi:Nat} (hx:Bel lo hi x):Bel lo hi g:=by
 unfold ZeW at h
 split at h
 ·split at h
  ·cases h;exact Bel.agg ((hx.agg_l.drop _).take _)
  ·cases h
 ·rw[w'T]at h;exact hx.agg_l.at h
 ·cases h
noncomputable def ZeX (kd:Kd) (x i:G):Option G:=match kd,x,i with
 | .str,.str s,.int _ n=>match ixN s.length n with
  |some j=>match gIx s j with|some c=>some (.int .u8 c.toNat)|none=>none
  |none=>none
 |_,_,_=>none
theorem ZnV {kd:Kd} {x i g:G} (h:ZeX kd x i=some g) {σ:Nm} {K:D→Prop} (hk:K (g.d σ)):cIndex kd (x.d σ) (i.d σ) K:=by
 unfold ZeX at h
 split at h
 ·split at h
  ·rename_i hi
   obtain⟨rfl,hlt⟩:=Zhi hi
   rw[w'T]at h
   split at h
   ·rename_i c hc
    cases h
    simp only[G.d,cIndex,v'7,z'b]
    refine⟨⟨by omega,by omega⟩,?_⟩
    have: ∀(s:List UInt8) (j:Nat),s[j]?=some c→(x'R s).data.toList.getD j 0=c:=fun s j hc=>by
     show List.getD (List.toArray _).toList _ 0=c
     rw[z'f];simp[hc]
    rw[this _ _ hc];exact hk
   ·cases h
  ·cases h
 ·cases h
theorem ZmH {kd:Kd} {x i g:G} (h:ZeX kd x i=some g) {lo:Nat→Prop} {hi:Nat}:Bel lo hi g:=by
 unfold ZeX at h
 split at h
 ·split at h
  ·split at h<;>cases h;exact fun _ _ _=>rfl
  ·cases h
 ·cases h
end Go.Vc
