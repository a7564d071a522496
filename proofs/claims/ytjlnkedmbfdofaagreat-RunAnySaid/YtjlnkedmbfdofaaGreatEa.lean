/- Calls at fixed data, reckoned out: the data, and what operations make of values. No condition. -/
import Derived.Test.YtjlnkedmbfdofaaGreatK2
namespace Go.Vc
set_option linter.unusedSimpArgs false
set_option linter.unusedVariables false
open Go
inductive G where
 |int (k:IntKind) (n:Int)
 |bool (b:Bool)
 |str (l:List UInt8)
 |ptr (b o:Nat)
 |val (v:Value)
 |sl (full:Bool) (esz:Nat) (rows:List (List G))
 |pt (row:List G)
 |own (b n:Nat)
 |nils
 |off (b o n c:Nat)
 |agg (l:List G)
 |tup (l:List G)
 |ifc (t:TypeId) (g:G)
 |fn (f:FuncId) (cs:List G)
 |mp (b:Nat)
 |any
abbrev Nm:=Nat→Nat×Nat
def y'u (l:List UInt8):ByteArray:=⟨l.toArray⟩
def G.v (σ:Nm):G→Value
 | .int k n=> .int k n
 | .bool b=> .bool b
 | .str l=> .string (y'u l)
 | .ptr b o=> .pointer (some ⟨(σ b).1,o,none⟩)
 | .val v=>v
 |_=> .nilFunc
def G.isV:G→Bool
 | .int .. | .bool _| .str _| .ptr .. | .val _=>true
 |_=>false
mutual
def G.d (σ:Nm):G→D
 | .int k n=> .is (.int k n)
 | .bool b=> .is (.bool b)
 | .str l=> .is (.string (y'u l))
 | .ptr b o=> .is (.pointer (some ⟨(σ b).1,o,none⟩))
 | .val v=> .is v
 | .sl f e rows=> .sl f e (G.dr σ rows)
 | .pt row=> .pt (G.dl σ row)
 | .own b n=> .gs (some (σ b)) n
 | .nils=> .gs none 0
 | .off b o n c=> .os (σ b).1 o n ((σ b).2-c)
 | .agg l=> .agg (G.dl σ l)
 | .tup l=> .tup (G.dl σ l)
 | .ifc t g=> .ifc t (G.d σ g)
 | .fn f cs=> .is (.func (.func f) #[] (cs.map (G.v σ)).toArray)
 | .mp b=> .is (.map (some (σ b).1))
 | .any=> .any
def G.dl (σ:Nm):List G→List D
 |[]=>[]
 |g::r=>G.d σ g::G.dl σ r
def G.dr (σ:Nm):List (List G)→List (List D)
 |[]=>[]
 |g::r=>G.dl σ g::G.dr σ r
end
theorem G.dl_eq (σ:Nm): ∀l,G.dl σ l=l.map (G.d σ)
 |[]=>rfl
 |g::r=>by rw[G.dl,G.dl_eq σ r];rfl
theorem G.dr_eq (σ:Nm): ∀l,G.dr σ l=l.map (·.map (G.d σ))
 |[]=>rfl
 |g::r=>by rw[G.dr,G.dr_eq σ r,G.dl_eq];rfl
theorem G.isV_d {σ:Nm} {g:G} (h:g.isV=true):g.d σ= .is (g.v σ):=by cases g<;>first|rfl|cases h
def Bel (lo:Nat→Prop) (hi:Nat) (g:G):Prop:= ∀σ τ:Nm,(∀i,lo i→i<hi→σ i=τ i)→g.d σ=g.d τ
theorem Bel.mono {lo lo':Nat→Prop} {hi hi':Nat} {g:G} (h:Bel lo hi g) (h1: ∀i,i<hi→lo i→lo' i) (h2:hi≤hi'):Bel lo' hi' g:=fun σ τ k=>h σ τ fun i a b=>k i (h1 i b a) (z'm b h2)
abbrev BelL (lo:Nat→Prop) (hi:Nat) (l:List G):Prop:= ∀g,g∈l→Bel lo hi g
abbrev BelR (lo:Nat→Prop) (hi:Nat) (l:List (List G)):Prop:= ∀r,r∈l→BelL lo hi r
section
variable {lo : Nat → Prop} {hi : Nat}
theorem Bel.int {k:IntKind} {n:Int}:Bel lo hi (.int k n):=fun _ _ _=>rfl
theorem Bel.bool {b:Bool}:Bel lo hi (.bool b):=fun _ _ _=>rfl
theorem Bel.str {l:List UInt8}:Bel lo hi (.str l):=fun _ _ _=>rfl
theorem Bel.val {v:Value}:Bel lo hi (.val v):=fun _ _ _=>rfl
theorem Bel.nils:Bel lo hi .nils:=fun _ _ _=>rfl
theorem Bel.any:Bel lo hi .any:=fun _ _ _=>rfl
theorem Bel.ptr {b o:Nat} (h:lo b) (h':b<hi):Bel lo hi (.ptr b o):=fun σ τ k=>by simp only[G.d,k b h h']
theorem Bel.own {b n:Nat} (h:lo b) (h':b<hi):Bel lo hi (.own b n):=fun σ τ k=>by simp only[G.d,k b h h']
theorem Bel.mp {b:Nat} (h:lo b) (h':b<hi):Bel lo hi (.mp b):=fun σ τ k=>by simp only[G.d,k b h h']
theorem Bel.ptr_o {b o o':Nat} (h:Bel lo hi (.ptr b o)):Bel lo hi (.ptr b o'):=fun σ τ k=>by
 have:=h σ τ k
 simp only[G.d,D.is.injEq,Value.pointer.injEq,z'q,Addr.mk.injEq,and_true]at this⊢
 exact this
theorem Bel.own_ptr {b n o:Nat} (h:Bel lo hi (.own b n)):Bel lo hi (.ptr b o):=fun σ τ k=>by
 have:=h σ τ k
 simp only[G.d,D.gs.injEq,z'q,and_true]at this
 simp only[G.d,this]
theorem Bel.own_n {b n n':Nat} (h:Bel lo hi (.own b n)):Bel lo hi (.own b n'):=fun σ τ k=>by
 have:=h σ τ k
 simp only[G.d,D.gs.injEq,z'q,and_true]at this⊢
 exact this
theorem Bel.own_off {b n o n' c:Nat} (h:Bel lo hi (.own b n)):Bel lo hi (.off b o n' c):=fun σ τ k=>by
 have:=h σ τ k
 simp only[G.d,D.gs.injEq,z'q,and_true]at this
 simp only[G.d,this]
theorem BelL.dl {l:List G} (h:BelL lo hi l) {σ τ:Nm} (k: ∀i,lo i→i<hi→σ i=τ i):G.dl σ l=G.dl τ l:=by
 rw[G.dl_eq,G.dl_eq];exact z'R fun g hg=>h g hg σ τ k
theorem BelR.dr {l:List (List G)} (h:BelR lo hi l) {σ τ:Nm} (k: ∀i,lo i→i<hi→σ i=τ i):G.dr σ l=G.dr τ l:=by
 rw[G.dr_eq,G.dr_eq];exact z'R fun r hr=>z'R fun g hg=>h r hr g hg σ τ k
theorem Bel.agg {l:List G} (h:BelL lo hi l):Bel lo hi (.agg l):=fun σ τ k=>by simp only[G.d,h.dl k]
theorem Bel.tup {l:List G} (h:BelL lo hi l):Bel lo hi (.tup l):=fun σ τ k=>by simp only[G.d,h.dl k]
theorem Bel.pt {l:List G} (h:BelL lo hi l):Bel lo hi (.pt l):=fun σ τ k=>by simp only[G.d,h.dl k]
theorem Bel.sl {f:Bool} {e:Nat} {l:List (List G)} (h:BelR lo hi l):Bel lo hi (.sl f e l):=fun σ τ k=>by simp only[G.d,h.dr k]
theorem Bel.ifc {t:TypeId} {g:G} (h:Bel lo hi g):Bel lo hi (.ifc t g):=fun σ τ k=>by simp only[G.d,h σ τ k]
theorem x'P {α β:Type} {f g:α→β}: ∀{l:List α},l.map f=l.map g→ ∀x,x∈l→f x=g x
 |[],_,x,h=>by cases h
 |a::l,h,x,hx=>by
  simp only[z'g,x'D]at h
  rcases z'p.1 hx with rfl|hx
  ·exact h.1
  ·exact x'P h.2 x hx
theorem Bel.agg_l {l:List G} (h:Bel lo hi (.agg l)):BelL lo hi l:=fun g hg σ τ k=>by
 have:=h σ τ k
 simp only[G.d,D.agg.injEq,G.dl_eq]at this
 exact x'P this g hg
theorem Bel.tup_l {l:List G} (h:Bel lo hi (.tup l)):BelL lo hi l:=fun g hg σ τ k=>by
 have:=h σ τ k
 simp only[G.d,D.tup.injEq,G.dl_eq]at this
 exact x'P this g hg
theorem Bel.pt_l {l:List G} (h:Bel lo hi (.pt l)):BelL lo hi l:=fun g hg σ τ k=>by
 have:=h σ τ k
 simp only[G.d,D.pt.injEq,G.dl_eq]at this
 exact x'P this g hg
theorem Bel.sl_r {f:Bool} {e:Nat} {l:List (List G)} (h:Bel lo hi (.sl f e l)):BelR lo hi l:=fun r hr g hg σ τ k=>by
 have:=h σ τ k
 simp only[G.d,D.sl.injEq,G.dr_eq,true_and]at this
 exact x'P (x'P this r hr) g hg
theorem Bel.fn {f:FuncId} {cs:List G} (hv:cs.all G.isV=true) (h:BelL lo hi cs):Bel lo hi (.fn f cs):=fun σ τ k=>by
 simp only[G.d]
 have:cs.map (G.v σ)=cs.map (G.v τ):=z'R fun g hg=>by
  have h1:=h g hg σ τ k
  have h2:=z'h.1 hv g hg
  rw[G.isV_d h2,G.isV_d h2]at h1
  exact D.is.inj h1
 rw[this]
theorem BelL.take {l:List G} (h:BelL lo hi l) (n:Nat):BelL lo hi (l.take n):=fun g hg=>h g (y'L hg)
theorem BelL.drop {l:List G} (h:BelL lo hi l) (n:Nat):BelL lo hi (l.drop n):=fun g hg=>h g (List.mem_of_mem_drop hg)
theorem BelL.app {l m:List G} (h:BelL lo hi l) (k:BelL lo hi m):BelL lo hi (l++m):=fun g hg=>(y'j.1 hg).elim (h g) (k g)
theorem BelL.set {l:List G} (h:BelL lo hi l) (n:Nat) {g:G} (k:Bel lo hi g):BelL lo hi (l.set n g):=fun x hx=>by
 rcases List.mem_or_eq_of_mem_set hx with h1|h1
 ·exact h x h1
 ·exact h1▸k
theorem BelL.at {l:List G} (h:BelL lo hi l) {n:Nat} {g:G} (k:l[n]?=some g):Bel lo hi g:=h g (z'F k)
end
noncomputable def gAt {α:Type} (d:α) (l:List α):Nat→α:=List.rec (fun _=>d) (fun x _ ih n=>Nat.rec x (fun m _=>ih m) n) l
theorem ZdT {α:Type} (d:α): ∀(l:List α) (n:Nat),gAt d l n=l.getD n d
 |[],n=>by simp[gAt]
 |x::l,0=>rfl
 |x::l,n+1=>by
  show gAt d l n=_
  rw[ZdT d l n];simp
noncomputable def gIx {α:Type} (l:List α):Nat→Option α:=List.rec (fun _=>none) (fun x _ ih n=>Nat.rec (some x) (fun m _=>ih m) n) l
theorem x'x {α:Type}: ∀(l:List α) (n:Nat),gIx l n=l[n]?
 |[],n=>by simp[gIx]
 |x::l,0=>rfl
 |x::l,n+1=>by
  show gIx l n=_
  rw[x'x l n];simp
noncomputable def Zgq {α R:Type} (l:List α):Nat→α→(List α→R)→R:=List.rec (fun _ _ k=>k []) (fun x xs ih n a k=>Nat.rec (k (a::xs)) (fun m _=>ih m a fun r=>k (x::r)) n) l
theorem ZeH {α R:Type}: ∀(l:List α) (n:Nat) (a:α) (k:List α→R),Zgq l n a k=k (l.set n a)
 |[],n,a,k=>by simp[Zgq]
 |x::l,0,a,k=>rfl
 |x::l,n+1,a,k=>by
  show Zgq l n a (fun r=>k (x::r))=_
  rw[ZeH l n a];simp
noncomputable def x'F {α R:Type} (l:List α):(List α→R)→R:=List.rec (fun k=>k []) (fun x _ ih k=>ih fun r=>k (x::r)) l
theorem y'x {α R:Type}: ∀(l:List α) (k:List α→R),x'F l k=k l
 |[],k=>rfl
 |x::l,k=>by
  show x'F l (fun r=>k (x::r))=_
  rw[y'x l]
noncomputable def v'B {R:Type} (n:Nat) (k:Nat→R):R:=Nat.rec (k 0) (fun m _=>k (Nat.succ m)) n
theorem ZcW {R:Type} (n:Nat) (k:Nat→R):v'B n k=k n:=by cases n<;>rfl
noncomputable def Zkr {R:Type} (n:Int) (k:Int→R):R:=match n with| .ofNat m=>v'B m fun m=>k (.ofNat m)| .negSucc m=>v'B m fun m=>k (.negSucc m)
theorem ZlY {R:Type} (n:Int) (k:Int→R):Zkr n k=k n:=by cases n<;>simp only[Zkr,ZcW]
noncomputable def gPl {R:Type} (g:G) (k:G→R):R:=match g with
 | .int i n=>Zkr n fun n=>k (.int i n)
 | .bool true=>k (.bool true)
 | .bool false=>k (.bool false)
 | .str l=>x'F l fun l=>k (.str l)
 | .ptr b o=>v'B b fun b=>v'B o fun o=>k (.ptr b o)
 | .own b n=>v'B b fun b=>v'B n fun n=>k (.own b n)
 | .off b o n c=>v'B b fun b=>v'B o fun o=>v'B n fun n=>v'B c fun c=>k (.off b o n c)
 | .agg l=>x'F l fun l=>k (.agg l)
 | .tup l=>x'F l fun l=>k (.tup l)
 | .pt l=>x'F l fun l=>k (.pt l)
 | .sl f e r=>x'F r fun r=>k (.sl f e r)
 |g=>k g
theorem Zco {R:Type} (g:G) (k:G→R):gPl g k=k g:=by
 cases g with
 |bool b=>cases b<;>rfl
 |_=>simp only[gPl,ZlY,ZcW,y'x]
abbrev Env:=List (List G)
noncomputable def eAt (env:Env) (t:Nat):G:=gAt .any (gAt [] env (Nat.div t 8)) (Nat.mod t 8)
def v'x (env:Env) (t:Nat) (g:G):Env:=env.set (Nat.div t 8) ((env.getD (Nat.div t 8) []).set (Nat.mod t 8) g)
noncomputable def Zet {R:Type} (env:Env) (t:Nat) (g:G) (k:Env→R):R:=Zgq (gAt [] env (Nat.div t 8)) (Nat.mod t 8) g fun c=>Zgq env (Nat.div t 8) c k
theorem ZcO {R:Type} (env:Env) (t:Nat) (g:G) (k:Env→R):Zet env t g k=k (v'x env t g):=by unfold Zet v'x;rw[ZeH,ZeH,ZdT]
def ELen (n:Nat) (env:Env):Prop:=(∀c,c∈env→c.length=8)∧n≤8*env.length
def BelE (lo:Nat→Prop) (hi:Nat) (env:Env):Prop:= ∀c,c∈env→BelL lo hi c
theorem Zby (env:Env) (t:Nat):eAt env t=(env.getD (Nat.div t 8) []).getD (Nat.mod t 8) .any:=by unfold eAt;rw[ZdT,ZdT]
theorem ZcN {lo:Nat→Prop} {hi:Nat} {env:Env} (h:BelE lo hi env) (t:Nat):Bel lo hi (eAt env t):=by
 rw[Zby,z'e,z'e]
 cases h1:env[Nat.div t 8]? with
 |none=>rw[Option.getD_none,List.getElem?_nil,Option.getD_none];exact Bel.any
 |some c=>
  rw[z'K]
  cases h2:c[Nat.mod t 8]? with
  |none=>exact Bel.any
  |some g=>exact(h c (z'F h1)).at h2
theorem Zbz {lo:Nat→Prop} {hi:Nat} {env:Env} (h:BelE lo hi env) (t:Nat) {g:G} (k:Bel lo hi g):BelE lo hi (v'x env t g):=fun c hc=>by
 unfold v'x at hc
 rcases List.mem_or_eq_of_mem_set hc with hc|rfl
 ·exact h c hc
 ·rw[z'e]
  cases h1:env[Nat.div t 8]? with
  |none=>exact fun x hx=>by cases hx
  |some c=>exact(h c (z'F h1)).set _ k
theorem ELen.lt {n t:Nat} {env:Env} (h:ELen n env) (ht:t<n):Nat.div t 8<env.length:=by
 have:=h.2
 show t/8<env.length
 omega
theorem Zar {n:Nat} {env:Env} (h:ELen n env) (t:Nat) (g:G):ELen n (v'x env t g):=by
 refine⟨fun c hc=>?_,by unfold v'x;rw[y'V];exact h.2⟩
 unfold v'x at hc
 by_cases hl:Nat.div t 8<env.length
 ·rcases List.mem_or_eq_of_mem_set hc with hc|rfl
  ·exact h.1 c hc
  ·rw[y'V,z'e,z'l hl,z'K]
   exact h.1 _ (List.getElem_mem hl)
 ·rw[List.set_eq_of_length_le (by omega)]at hc
  exact h.1 c hc
theorem Zhr {n t:Nat} {env:Env} (h:ELen n env) (ht:t<n) (g:G) (u:Nat):eAt (v'x env t g) u=if t=u then g else eAt env u:=by
 have hl:=h.lt ht
 have h8:(env.getD (Nat.div t 8) []).length=8:=by
  rw[z'e,z'l hl,z'K]
  exact h.1 _ (List.getElem_mem hl)
 have hm:Nat.mod t 8<8:=Nat.mod_lt _ (by omega)
 rw[Zby,Zby]
 unfold v'x
 by_cases e:Nat.div t 8=Nat.div u 8
 ·rw[←e]
  rw[show(env.set (Nat.div t 8) ((env.getD (Nat.div t 8) []).set (Nat.mod t 8) g)).getD (Nat.div t 8) []=(env.getD (Nat.div t 8) []).set (Nat.mod t 8) g by
   rw[z'e,List.getElem?_set_self (by omega),z'K]]
  by_cases e2:Nat.mod t 8=Nat.mod u 8
  ·have:t=u:=by
    have e':t/8=u/8:=e
    have e2':t % 8=u % 8:=e2
    omega
   rw[if_pos this, ←e2,z'e,List.getElem?_set_self (by omega),z'K]
  ·have: ¬t=u:=fun q=>e2 (by rw[q])
   rw[if_neg this,z'e,y'M e2, ←List.getD_eq_getElem?_getD]
 ·have: ¬t=u:=fun q=>e (by rw[q])
  rw[if_neg this]
  congr 1
  rw[z'e,y'M e, ←List.getD_eq_getElem?_getD]
theorem BelE.mono {lo:Nat→Prop} {hi hi':Nat} {env:Env} (h:BelE lo hi env) (k:hi≤hi'):BelE lo hi' env:=fun c hc g hg=>(h c hc g hg).mono (fun _ _ h=>h) k
def gC:Value→Option G
 | .int k n=>some (.int k n)
 | .bool b=>some (.bool b)
 | .string s=>some (.str s.data.toList)
 | .slice none 0 0=>some .nils
 | .pointer none=>some (.val (.pointer none))
 | .map none=>some (.val (.map none))
 | .nilFunc=>some (.val .nilFunc)
 | .nilIface=>some (.val .nilIface)
 |_=>none
theorem ZdX {v:Value} {g:G} (h:gC v=some g) (σ:Nm):constD v=g.d σ:=by
 unfold gC at h
 split at h<;>first|cases h|skip
 all_goals first|rfl|skip
theorem Zf3 {v:Value} {g:G} (h:gC v=some g) {lo:Nat→Prop} {hi:Nat}:Bel lo hi g:=fun σ τ _=>(ZdX h σ).symm.trans (ZdX h τ)
noncomputable def gX (env:Env):Operand→Option G
 | .tmp t=>some (eAt env t)
 | .const v=>gC v
 | .func f=>some (.fn f [])
 | .global _=>none
noncomputable def cE (σ:Nm) (env:Env):Nat→D:=fun t=>(eAt env t).d σ
theorem z'u {env:Env} {x:Operand} {g:G} (h:gX env x=some g) (σ:Nm):evD (cE σ env) x=g.d σ:=by
 cases x with
 |tmp t=>simp only[gX,z'q]at h;subst h;rfl
 |const v=>exact ZdX h σ
 |func f=>simp only[gX,z'q]at h;subst h;rfl
 |global g=>cases h
theorem y'q {env:Env} {x:Operand} {g:G} (h:gX env x=some g) {lo:Nat→Prop} {hi:Nat} (he:BelE lo hi env):Bel lo hi g:=by
 cases x with
 |tmp t=>
  simp only[gX,z'q]at h
  subst h
  exact ZcN he t
 |const v=>exact Zf3 h
 |func f=>simp only[gX,z'q]at h;subst h;exact fun _ _ _=>rfl
 |global g=>cases h
end Go.Vc
