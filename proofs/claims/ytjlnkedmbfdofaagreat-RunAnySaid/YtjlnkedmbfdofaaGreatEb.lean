/- Calls at fixed data, reckoned out: operations that make a value. No condition. -/
import Derived.Test.YtjlnkedmbfdofaaGreatEa
namespace Go.Vc
set_option linter.unusedSimpArgs false
set_option linter.unusedVariables false
open Go
def Zd6 (c a b:G):Option G:=match c with
 | .bool true=>some a
 | .bool false=>some b
 |_=>none
theorem Zkz {c a b g:G} (h:Zd6 c a b=some g) {σ:Nm} {K:D→Prop} (hk:K (g.d σ)):cPick (c.d σ) (a.d σ) (b.d σ) K:=by
 unfold Zd6 at h
 split at h<;>cases h
 ·exact hk
 ·exact hk
theorem Zjy {c a b g:G} (h:Zd6 c a b=some g) {lo:Nat→Prop} {hi:Nat} (ha:Bel lo hi a) (hb:Bel lo hi b):Bel lo hi g:=by
 unfold Zd6 at h
 split at h<;>cases h<;>assumption
def Zf9 (op:BinOp) (k:IntKind) (x y:Int):Option G:=match op with
 | .add=>some (.int k (k.wrap (x+y)))
 | .sub=>some (.int k (k.wrap (x-y)))
 | .mul=>some (.int k (k.wrap (x*y)))
 | .quo=>match decide (y=0)with|false=>some (.int k (k.wrap (x.tdiv y)))|true=>none
 | .rem=>match decide (y=0)with|false=>some (.int k (x.tmod y))|true=>none
 | .eql=>some (.bool (x == y))
 | .neq=>some (.bool (x != y))
 | .lss=>some (.bool (decide (x<y)))
 | .leq=>some (.bool (decide (x≤y)))
 | .gtr=>some (.bool (decide (x>y)))
 | .geq=>some (.bool (decide (x≥y)))
 |_=>none
theorem ZlX {op:BinOp} {k:IntKind} {x y:Int} {g:G} (h:Zf9 op k x y=some g) {σ:Nm} {K:D→Prop} (hk:K (g.d σ)):cInt op k x y K:=by
 cases op<;>simp only[Zf9]at h<;>first|(cases h;done)|(cases h;exact hk)|(split at h<;>cases h;rename_i hd;exact⟨of_decide_eq_false hd,hk⟩)
theorem Zkq {op:BinOp} {k:IntKind} {x y:Int} {g:G} (h:Zf9 op k x y=some g) {lo:Nat→Prop} {hi:Nat}:Bel lo hi g:=by
 cases op<;>simp only[Zf9]at h<;>first|(cases h;done)|(cases h;exact fun _ _ _=>rfl)|(split at h<;>cases h;exact fun _ _ _=>rfl)
noncomputable def eqB (a:List UInt8):List UInt8→Bool:=List.rec (fun b=>match b with|[]=>true|_::_=>false) (fun x _ ih b=>match b with|[]=>false|y::b=>match Nat.beq x.toNat y.toNat with|true=>ih b|false=>false) a
theorem ZdP: ∀(a b:List UInt8),eqB a b=decide (a=b)
 |[],[]=>by simp[eqB]
 |[],y::b=>by simp[eqB]
 |x::a,[]=>by simp[eqB]
 |x::a,y::b=>by
  show(match Nat.beq x.toNat y.toNat with|true=>eqB a b|false=>false)=_
  rw[ZdP a b]
  by_cases h:x=y
  ·subst h
   have:Nat.beq x.toNat x.toNat=true:=y'8 _
   rw[this];simp
  ·have:Nat.beq x.toNat y.toNat=false:=by
    rw[←Bool.not_eq_true]
    intro hb
    exact h (UInt8.toNat_inj.1 (z'd hb))
   rw[this];simp[h]
theorem Zk5 {a b:List UInt8}:y'u a=y'u b↔a=b:=by
 constructor
 ·intro h
  have:(y'u a).data.toList=(y'u b).data.toList:=by rw[h]
  simpa[y'u]using this
 ·rintro rfl;rfl
theorem w'y (a:List UInt8):(y'u a).size=a.length:=by simp[y'u,ByteArray.size]
theorem Zk4 (a b:List UInt8):y'u a++y'u b=y'u (a++b):=by
 apply ByteArray.ext
 simp[y'u]
def ZkB (op:BinOp) (x y:List UInt8):Option G:=match op with
 | .add=>match Nat.ble (x.length+y.length) 9223372036854775807 with|true=>some (.str (x++y))|false=>none
 | .lss=>some (.bool (Op.bytesLess x y))
 |_=>none
noncomputable def Zgo (op:BinOp) (x y:List UInt8):Option G:=match op with
 | .eql=>some (.bool (eqB x y))
 | .neq=>some (.bool (!eqB x y))
 |op=>ZkB op x y
theorem Zl2 {op:BinOp} {x y:List UInt8} {g:G} (h:Zgo op x y=some g) {σ:Nm} {K:D→Prop} (hk:K (g.d σ)):cStr op (y'u x) (y'u y) K:=by
 have e:decide (y'u x=y'u y)=eqB x y:=by rw[ZdP];exact decide_eq_decide.2 Zk5
 cases op<;>simp only[Zgo,ZkB]at h<;>first|(cases h;done)|skip
 case add=>
  split at h
  ·rename_i hb
   cases h
   exact⟨by rw[w'y,w'y];exact z'i hb,by rw[Zk4];exact hk⟩
  ·cases h
 case eql=>cases h;simp only[cStr];rw[e];exact hk
 case neq=>cases h;simp only[cStr];rw[e];exact hk
 case lss=>cases h;exact hk
theorem ZkA {op:BinOp} {x y:List UInt8} {g:G} (h:Zgo op x y=some g) {lo:Nat→Prop} {hi:Nat}:Bel lo hi g:=by
 cases op<;>simp only[Zgo,ZkB]at h<;>first|(cases h;done)|(cases h;exact fun _ _ _=>rfl)|(split at h<;>cases h;exact fun _ _ _=>rfl)
noncomputable def Zf1 (kd:Kd) (op:BinOp) (a b:G):Option G:=match a,b with
 | .int k x,.int k' y=>match Nat.beq (kTag k) (kTag k')with|true=>Zf9 op k x y|false=>none
 | .str x,.str y=>Zgo op x y
 | .bool x,.bool y=>match kd,op with
  | .bool,.eql=>some (.bool (x == y))
  | .bool,.neq=>some (.bool (x != y))
  |_,_=>none
 |_,_=>none
theorem ZlT {kd:Kd} {op:BinOp} {a b g:G} (h:Zf1 kd op a b=some g) {σ:Nm} {K:D→Prop} (hk:K (g.d σ)):cBin kd op (a.d σ) (b.d σ) K:=by
 unfold Zf1 at h
 split at h
 ·split at h
  ·rename_i hb
   have hb':(kTag _ == kTag _)=true:=beq_iff_eq.2 (z'd hb)
   simp only[G.d,cBin,hb']
   exact ZlX h hk
  ·cases h
 ·exact Zl2 h hk
 ·split at h<;>cases h<;>exact hk
 ·cases h
theorem Zkg {kd:Kd} {op:BinOp} {a b g:G} (h:Zf1 kd op a b=some g) {lo:Nat→Prop} {hi:Nat}:Bel lo hi g:=by
 unfold Zf1 at h
 split at h
 ·split at h
  ·exact Zkq h
  ·cases h
 ·exact ZkA h
 ·split at h<;>cases h<;>exact fun _ _ _=>rfl
 ·cases h
def gUn (op:UnOp) (a:G):Option G:=match op,a with
 | .not,.bool b=>some (.bool !b)
 | .neg,.int k n=>some (.int k (k.wrap (0-n)))
 |_,_=>none
theorem ZmL {op:UnOp} {a g:G} (h:gUn op a=some g) {σ:Nm} {K:D→Prop} (hk:K (g.d σ)):cUn op (a.d σ) K:=by
 unfold gUn at h
 split at h<;>cases h<;>exact hk
theorem Zl3 {op:UnOp} {a g:G} (h:gUn op a=some g) {lo:Nat→Prop} {hi:Nat}:Bel lo hi g:=by
 unfold gUn at h
 split at h<;>cases h<;>exact fun _ _ _=>rfl
def v'f (f:Option (Nat×Nat×Bool)) (a:G):Option G:=match f with
 |some (off,sz,_)=>match sz,a with
  |0,_=>none
  |_+1,.ptr b o=>some (.ptr b (o+off))
  |_+1,.pt row=>some (.pt (row.drop off))
  |_,_=>none
 |none=>none
theorem Zfr {f:Option (Nat×Nat×Bool)} {a g:G} (h:v'f f a=some g) {σ:Nm} {K:D→Prop} (hk:K (g.d σ)):cFieldAddr f (a.d σ) K:=by
 unfold v'f at h
 split at h
 ·split at h<;>cases h
  ·exact hk
  ·simp only[G.d,cFieldAddr,G.dl_eq]at hk⊢;rw[←List.map_drop];exact hk
 ·cases h
theorem Zez {f:Option (Nat×Nat×Bool)} {a g:G} (h:v'f f a=some g) {lo:Nat→Prop} {hi:Nat} (ha:Bel lo hi a):Bel lo hi g:=by
 unfold v'f at h
 split at h
 ·split at h<;>cases h
  ·exact ha.ptr_o
  ·exact Bel.pt (ha.pt_l.drop _)
 ·cases h
def ixN (n:Nat):Int→Option Nat
 | .ofNat i=>match Nat.blt i n with|true=>some i|false=>none
 | .negSucc _=>none
theorem Zcy {n i:Nat} {x:Int} (h:ixN n x=some i):x=(i:Int)∧i<n:=by
 unfold ixN at h
 split at h
 ·split at h
  ·rename_i hb;cases h;exact⟨rfl,z'i hb⟩
  ·cases h
 ·cases h
noncomputable def v'h (kd:Kd) (x i:G):Option G:=match kd,i with
 | .slice _ esz _ _ _,.int _ n=>match x with
  | .sl _ esz' rows=>match ixN rows.length n,Nat.beq esz' esz with
   |some j,true=>(gIx rows j).map .pt
   |_,_=>none
  | .own b len=>match ixN len n with
   |some j=>some (.ptr b (j*esz))
   |none=>none
  |_=>none
 |_,_=>none
theorem Zfs {kd:Kd} {x i g:G} (h:v'h kd x i=some g) {σ:Nm} {K:D→Prop} (hk:K (g.d σ)):cIndexAddr kd (x.d σ) (i.d σ) K:=by
 unfold v'h at h
 split at h
 ·split at h
  ·split at h
   ·rename_i hi he
    obtain⟨rfl,hlt⟩:=Zcy hi
    rw[x'x,Option.map_eq_some_iff]at h
    obtain⟨r,hr,rfl⟩:=h
    simp only[G.d,cIndexAddr,G.dr_eq,z'f,y'c,z'D]
    refine⟨⟨by omega,by omega⟩,r.map (G.d σ),by rw[hr];rfl,z'd he,?_⟩
    rw[←G.dl_eq];exact hk
   ·cases h
  ·split at h
   ·rename_i hi
    obtain⟨rfl,hlt⟩:=Zcy hi
    cases h
    refine⟨⟨by omega,by omega⟩,?_⟩
    rw[z'D];exact hk
   ·cases h
  ·cases h
 ·cases h
theorem ZeC {kd:Kd} {x i g:G} (h:v'h kd x i=some g) {lo:Nat→Prop} {hi:Nat} (hx:Bel lo hi x):Bel lo hi g:=by
 unfold v'h at h
 split at h
 ·split at h
  ·split at h
   ·rw[x'x,Option.map_eq_some_iff]at h
    obtain⟨r,hr,rfl⟩:=h
    exact Bel.pt (hx.sl_r r (z'F hr))
   ·cases h
  ·split at h
   ·cases h;exact hx.own_ptr
   ·cases h
  ·cases h
 ·cases h
noncomputable def Zat (x:G) (i:Nat):Option G:=match x with| .tup l=>gIx l i|_=>none
theorem Zhh {x g:G} {i:Nat} (h:Zat x i=some g) {σ:Nm} {K:D→Prop} (hk:K (g.d σ)):cExtract (x.d σ) i K:=by
 unfold Zat at h
 split at h
 ·rw[x'x]at h
  exact⟨g.d σ,by rw[G.dl_eq,y'c,h];rfl,hk⟩
 ·cases h
theorem Zf7 {x g:G} {i:Nat} (h:Zat x i=some g) {lo:Nat→Prop} {hi:Nat} (hx:Bel lo hi x):Bel lo hi g:=by
 unfold Zat at h
 split at h
 ·rw[x'x]at h;exact hx.tup_l.at h
 ·cases h
def Zgi (x:G):Option G:=match x with| .ptr b o=>some (.ptr b o)| .pt r=>some (.pt r)| .ifc t d=>some (.ifc t d)|_=>none
theorem Zl0 {x g:G} (h:Zgi x=some g) {σ:Nm} {K:D→Prop} (hk:K (g.d σ)):cNil (x.d σ) K:=by
 unfold Zgi at h
 split at h<;>cases h<;>exact hk
theorem Zkx {x g:G} (h:Zgi x=some g) {lo:Nat→Prop} {hi:Nat} (hx:Bel lo hi x):Bel lo hi g:=by
 unfold Zgi at h
 split at h<;>cases h<;>exact hx
def ZbL:G→Bool
 | .agg _| .tup _| .any=>false
 | .val v=>v.oneCell'
 |_=>true
theorem Zl1 {g:G} (h:ZbL g=true) (σ:Nm):oneD (g.d σ)=true:=by cases g<;>first|rfl|exact h|cases h
theorem w'3 {l:List G} (h:l.all ZbL=true) (σ:Nm):(l.map (G.d σ)).all oneD=true:=by
 rw[List.all_map,z'h]
 exact fun g hg=>Zl1 (z'h.1 h g hg) σ
def Zcj:G→Option (List G)
 | .agg l=>some l
 | .tup _| .any=>none
 | .val v=>match v with| .agg _=>none|v=>some [.val v]
 |g=>some [g]
theorem Zck {g:G} {l:List G} (h:Zcj g=some l) (σ:Nm):cellsD (g.d σ)=some (l.map (G.d σ)):=by
 cases g with
 |agg l=>cases h;simp only[G.d,cellsD,G.dl_eq]
 |tup l=>cases h
 |any=>cases h
 |val v=>cases v<;>first|(cases h;done)|(cases h;rfl)
 |_=>cases h;rfl
theorem ZbE {g:G} {l:List G} (h:Zcj g=some l) {lo:Nat→Prop} {hi:Nat} (hx:Bel lo hi g):BelL lo hi l:=by
 cases g with
 |agg l=>cases h;exact hx.agg_l
 |tup l=>cases h
 |any=>cases h
 |val v=>cases v<;>first|(cases h;done)|(cases h;intro x hm;rw[y'h]at hm;subst hm;exact hx)
 |_=>cases h;intro x hm;rw[y'h]at hm;subst hm;exact hx
def v'L:List Value→Option (List G)
 |[]=>some []
 |v::r=>match gC v,v'L r with
  |some g,some l=>some (g::l)
  |_,_=>none
theorem v'D: ∀{z:List Value} {l:List G},v'L z=some l→ ∀σ:Nm,z.map constD=l.map (G.d σ)
 |[],l,h,σ=>by cases h;rfl
 |v::r,l,h,σ=>by
  unfold v'L at h
  split at h
  ·rename_i g l' h1 h2
   cases h
   rw[z'g,z'g,ZdX h1 σ,v'D h2 σ]
  ·cases h
theorem w'8: ∀{z:List Value} {l:List G},v'L z=some l→ ∀{lo:Nat→Prop} {hi:Nat},BelL lo hi l
 |[],l,h,lo,hi=>by cases h;intro g hg;cases hg
 |v::r,l,h,lo,hi=>by
  unfold v'L at h
  split at h
  ·rename_i g l' h1 h2
   cases h
   intro x hx
   rcases z'p.1 hx with rfl|hx
   ·exact Zf3 h1
   ·exact w'8 h2 x hx
  ·cases h
def ZbQ:List G→Nat→List G→List G
 |cells,_,[]=>cells
 |cells,off,c::cs=>ZbQ (cells.set off c) (off+1) cs
theorem ZbR (σ:Nm): ∀(c l:List G) (off:Nat),setL (l.map (G.d σ)) off (c.map (G.d σ))=(ZbQ l off c).map (G.d σ)
 |[],l,off=>rfl
 |x::c,l,off=>by
  rw[z'g,setL,ZbQ, ←ZbR σ c,w'h]
theorem ZaW {lo:Nat→Prop} {hi:Nat}: ∀(c l:List G) (off:Nat),BelL lo hi l→BelL lo hi c→BelL lo hi (ZbQ l off c)
 |[],l,off,h,_=>h
 |x::c,l,off,h,k=>ZaW c _ _ (h.set _ (k x (z'k ..))) fun g hg=>k g (z'n _ hg)
noncomputable def ZaT (env:Env) (place:Nat→Option (Nat×Nat)):List G→List (Nat×Operand)→Option (List G)
 |cells,[]=>some cells
 |cells,(i,x)::rest=>match gX env x with
  |some g=>match place i,Zcj g with
   |some (off,sz),some c=>match Nat.beq c.length sz&&Nat.ble (off+sz) cells.length with
    |true=>ZaT env place (ZbQ cells off c) rest
    |false=>none
   |_,_=>none
  |none=>none
theorem ZbG {env:Env} {place:Nat→Option (Nat×Nat)} (σ:Nm): ∀(ps:List (Nat×Operand)) (cells l:List G),ZaT env place cells ps=some l→
  v'I place (cells.map (G.d σ)) (ps.map fun p=>(p.1,evD (cE σ env) p.2))=some (l.map (G.d σ))
 |[],cells,l,h=>by cases h;rfl
 |(i,x)::rest,cells,l,h=>by
  unfold ZaT at h
  split at h
  ·rename_i g hg
   split at h
   ·rename_i off sz c hp hc
    split at h
    ·rename_i hb
     rw[z'b]at hb
     have hb':((c.map (G.d σ)).length == sz&&Nat.ble (off+sz) (cells.map (G.d σ)).length)=true:=by
      rw[z'f,z'f,z'b]
      exact⟨beq_iff_eq.2 (z'd hb.1),hb.2⟩
     simp only[z'g,v'I,z'u hg σ,hp,Zck hc σ,hb',ZbR]
     exact ZbG σ rest _ _ h
    ·cases h
   ·cases h
  ·cases h
theorem ZaU {env:Env} {place:Nat→Option (Nat×Nat)} {lo:Nat→Prop} {hi:Nat} (he:BelE lo hi env): ∀(ps:List (Nat×Operand)) (cells l:List G),BelL lo hi cells→ZaT env place cells ps=some l→BelL lo hi l
 |[],cells,l,hc,h=>by cases h;exact hc
 |(i,x)::rest,cells,l,hc,h=>by
  unfold ZaT at h
  split at h
  ·rename_i g hg
   split at h
   ·rename_i off sz c hp hcc
    split at h
    ·exact ZaU he rest _ _ (ZaW _ _ _ hc (ZbE hcc (y'q hg he))) h
    ·cases h
   ·cases h
  ·cases h
noncomputable def Zci (ty:TyI) (env:Env) (ps:List (Nat×Operand)):Option G:=match kdT ty,v'L ty.zero with
 | .struct fs,some z=>match ZaT env (fun i=>(fs[i]?).map fun x=>(x.1,x.2.1)) z ps with
  |some l=>match l.all ZbL with|true=>some (.agg l)|false=>none
  |none=>none
 |_,_=>none
theorem Zjp {ty:TyI} {env:Env} {ps:List (Nat×Operand)} {g:G} (h:Zci ty env ps=some g) {σ:Nm} {K:D→Prop} (hk:K (g.d σ)):cBuild ty (ps.map fun p=>(p.1,evD (cE σ env) p.2)) K:=by
 unfold Zci at h
 split at h
 ·rename_i fs z hkd hz
  split at h
  ·rename_i l hl
   split at h
   ·rename_i ho
    cases h
    simp only[cBuild,hkd,v'D hz σ,ZbG σ ps z l hl]
    exact⟨w'3 ho σ,by rw[←G.dl_eq];exact hk⟩
   ·cases h
  ·cases h
 ·cases h
theorem Zip {ty:TyI} {env:Env} {ps:List (Nat×Operand)} {g:G} (h:Zci ty env ps=some g) {lo:Nat→Prop} {hi:Nat} (he:BelE lo hi env):Bel lo hi g:=by
 unfold Zci at h
 split at h
 ·rename_i fs z hkd hz
  split at h
  ·rename_i l hl
   split at h
   ·cases h;exact Bel.agg (ZaU he ps z l (w'8 hz) hl)
   ·cases h
  ·cases h
 ·cases h
noncomputable def Zcl (f:Option (Nat×Nat×Bool)) (x:G):Option G:=match f,x with
 |some (off,sz,true),.agg l=>match Nat.ble (off+sz) l.length with|true=>some (.agg ((l.drop off).take sz))|false=>none
 |some (off,_,false),.agg l=>gIx l off
 |_,_=>none
theorem Zju {f:Option (Nat×Nat×Bool)} {x g:G} (h:Zcl f x=some g) {σ:Nm} {K:D→Prop} (hk:K (g.d σ)):cField f (x.d σ) K:=by
 unfold Zcl at h
 split at h
 ·split at h
  ·rename_i hb
   cases h
   simp only[G.d,G.dl_eq,cField,z'f]at hk⊢
   exact⟨z'i hb,by rw[←List.map_drop, ←List.map_take];exact hk⟩
  ·cases h
 ·rw[x'x]at h
  simp only[G.d,G.dl_eq,cField]
  exact⟨g.d σ,by rw[y'c,h];rfl,hk⟩
 ·cases h
theorem Zit {f:Option (Nat×Nat×Bool)} {x g:G} (h:Zcl f x=some g) {lo:Nat→Prop} {hi:Nat} (hx:Bel lo hi x):Bel lo hi g:=by
 unfold Zcl at h
 split at h
 ·split at h
  ·cases h;exact Bel.agg ((hx.agg_l.drop _).take _)
  ·cases h
 ·rw[x'x]at h;exact hx.agg_l.at h
 ·cases h
noncomputable def Zcm (kd:Kd) (x i:G):Option G:=match kd,x,i with
 | .str,.str s,.int _ n=>match ixN s.length n with
  |some j=>match gIx s j with|some c=>some (.int .u8 c.toNat)|none=>none
  |none=>none
 |_,_,_=>none
theorem Zjw {kd:Kd} {x i g:G} (h:Zcm kd x i=some g) {σ:Nm} {K:D→Prop} (hk:K (g.d σ)):cIndex kd (x.d σ) (i.d σ) K:=by
 unfold Zcm at h
 split at h
 ·split at h
  ·rename_i hi
   obtain⟨rfl,hlt⟩:=Zcy hi
   rw[x'x]at h
   split at h
   ·rename_i c hc
    cases h
    simp only[G.d,cIndex,w'y,z'D]
    refine⟨⟨by omega,by omega⟩,?_⟩
    have: ∀(s:List UInt8) (j:Nat),s[j]?=some c→(y'u s).data.toList.getD j 0=c:=fun s j hc=>by
     show List.getD (List.toArray _).toList _ 0=c
     rw[z'e];simp[hc]
    rw[this _ _ hc];exact hk
   ·cases h
  ·cases h
 ·cases h
theorem Zix {kd:Kd} {x i g:G} (h:Zcm kd x i=some g) {lo:Nat→Prop} {hi:Nat}:Bel lo hi g:=by
 unfold Zcm at h
 split at h
 ·split at h
  ·split at h<;>cases h;exact fun _ _ _=>rfl
  ·cases h
 ·cases h
end Go.Vc
