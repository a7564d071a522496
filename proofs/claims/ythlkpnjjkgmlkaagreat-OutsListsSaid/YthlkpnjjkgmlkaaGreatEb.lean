/- Calls at fixed data, reckoned out: operations that make a value. No condition. -/
import Derived.Test.YthlkpnjjkgmlkaaGreatEa
namespace Go.Vc
set_option linter.unusedSimpArgs false
set_option linter.unusedVariables false
open Go
def ZhC (c a b:G):Option G:=match c with
 | .bool true=>some a
 | .bool false=>some b
 |_=>none
theorem Zqp {c a b g:G} (h:ZhC c a b=some g) {σ:Nm} {K:D→Prop} (hk:K (g.d σ)):cPick (c.d σ) (a.d σ) (b.d σ) K:=by
 unfold ZhC at h
 split at h<;>cases h
 ·exact hk
 ·exact hk
theorem ZoJ {c a b g:G} (h:ZhC c a b=some g) {lo:Nat→Prop} {hi:Nat} (ha:Bel lo hi a) (hb:Bel lo hi b):Bel lo hi g:=by
 unfold ZhC at h
 split at h<;>cases h<;>assumption
def Zkn (op:BinOp) (k:IntKind) (x y:Int):Option G:=match op with
 | .add=>some (.int k (k.wrap (x+y)))
 | .sub=>some (.int k (k.wrap (x-y)))
 | .mul=>some (.int k (k.wrap (x*y)))
 | .quo=>match decide (y=0)with|false=>some (.int k (k.wrap (x.tdiv y)))|true=>none
 | .rem=>match decide (y=0)with|false=>some (.int k (x.tmod y))|true=>none
 | .eql=>some (.bool (x == y))
 | .neq=>some (.bool (x != y))
 | .lss=>some (.bool (decide (x<y)))
 | .leq=>some (.bool (decide (x≤y)))
 | .gtr=>some (.bool (decide (x>y)))
 | .geq=>some (.bool (decide (x≥y)))
 |_=>none
theorem Zr1 {op:BinOp} {k:IntKind} {x y:Int} {g:G} (h:Zkn op k x y=some g) {σ:Nm} {K:D→Prop} (hk:K (g.d σ)):cInt op k x y K:=by
 cases op<;>simp only[Zkn]at h<;>first|(cases h;done)|(cases h;exact hk)|(split at h<;>cases h;rename_i hd;exact⟨of_decide_eq_false hd,hk⟩)
theorem Zqg {op:BinOp} {k:IntKind} {x y:Int} {g:G} (h:Zkn op k x y=some g) {lo:Nat→Prop} {hi:Nat}:Bel lo hi g:=by
 cases op<;>simp only[Zkn]at h<;>first|(cases h;done)|(cases h;exact fun _ _ _=>rfl)|(split at h<;>cases h;exact fun _ _ _=>rfl)
noncomputable def eqB (a:List UInt8):List UInt8→Bool:=List.rec (fun b=>match b with|[]=>true|_::_=>false) (fun x _ ih b=>match b with|[]=>false|y::b=>match Nat.beq x.toNat y.toNat with|true=>ih b|false=>false) a
theorem Zhm: ∀(a b:List UInt8),eqB a b=decide (a=b)
 |[],[]=>by simp[eqB]
 |[],y::b=>by simp[eqB]
 |x::a,[]=>by simp[eqB]
 |x::a,y::b=>by
  show(match Nat.beq x.toNat y.toNat with|true=>eqB a b|false=>false)=_
  rw[Zhm a b]
  by_cases h:x=y
  ·subst h
   have:Nat.beq x.toNat x.toNat=true:=w'3 _
   rw[this];simp
  ·have:Nat.beq x.toNat y.toNat=false:=by
    rw[←Bool.not_eq_true]
    intro hb
    exact h (UInt8.toNat_inj.1 (z'r hb))
   rw[this];simp[h]
theorem Zrb {a b:List UInt8}:x'I a=x'I b↔a=b:=by
 constructor
 ·intro h
  have:(x'I a).data.toList=(x'I b).data.toList:=by rw[h]
  simpa[x'I]using this
 ·rintro rfl;rfl
theorem Zae (a:List UInt8):(x'I a).size=a.length:=by simp[x'I,ByteArray.size]
theorem Zra (a b:List UInt8):x'I a++x'I b=x'I (a++b):=by
 apply ByteArray.ext
 simp[x'I]
def Zqs (op:BinOp) (x y:List UInt8):Option G:=match op with
 | .add=>match Nat.ble (x.length+y.length) 9223372036854775807 with|true=>some (.str (x++y))|false=>none
 | .lss=>some (.bool (Op.bytesLess x y))
 |_=>none
noncomputable def ZkC (op:BinOp) (x y:List UInt8):Option G:=match op with
 | .eql=>some (.bool (eqB x y))
 | .neq=>some (.bool (!eqB x y))
 |op=>Zqs op x y
theorem Zr6 {op:BinOp} {x y:List UInt8} {g:G} (h:ZkC op x y=some g) {σ:Nm} {K:D→Prop} (hk:K (g.d σ)):cStr op (x'I x) (x'I y) K:=by
 have e:decide (x'I x=x'I y)=eqB x y:=by rw[Zhm];exact decide_eq_decide.2 Zrb
 cases op<;>simp only[ZkC,Zqs]at h<;>first|(cases h;done)|skip
 case add=>
  split at h
  ·rename_i hb
   cases h
   exact⟨by rw[Zae,Zae];exact z'x hb,by rw[Zra];exact hk⟩
  ·cases h
 case eql=>cases h;simp only[cStr];rw[e];exact hk
 case neq=>cases h;simp only[cStr];rw[e];exact hk
 case lss=>cases h;exact hk
theorem Zqr {op:BinOp} {x y:List UInt8} {g:G} (h:ZkC op x y=some g) {lo:Nat→Prop} {hi:Nat}:Bel lo hi g:=by
 cases op<;>simp only[ZkC,Zqs]at h<;>first|(cases h;done)|(cases h;exact fun _ _ _=>rfl)|(split at h<;>cases h;exact fun _ _ _=>rfl)
noncomputable def Zkf (kd:Kd) (op:BinOp) (a b:G):Option G:=match a,b with
 | .int k x,.int k' y=>match Nat.beq (kTag k) (kTag k')with|true=>Zkn op k x y|false=>none
 | .str x,.str y=>ZkC op x y
 | .bool x,.bool y=>match kd,op with
  | .bool,.eql=>some (.bool (x == y))
  | .bool,.neq=>some (.bool (x != y))
  |_,_=>none
 |_,_=>none
theorem ZrY {kd:Kd} {op:BinOp} {a b g:G} (h:Zkf kd op a b=some g) {σ:Nm} {K:D→Prop} (hk:K (g.d σ)):cBin kd op (a.d σ) (b.d σ) K:=by
 unfold Zkf at h
 split at h
 ·split at h
  ·rename_i hb
   have hb':(kTag _ == kTag _)=true:=beq_iff_eq.2 (z'r hb)
   simp only[G.d,cBin,hb']
   exact Zr1 h hk
  ·cases h
 ·exact Zr6 h hk
 ·split at h<;>cases h<;>exact hk
 ·cases h
theorem Zp9 {kd:Kd} {op:BinOp} {a b g:G} (h:Zkf kd op a b=some g) {lo:Nat→Prop} {hi:Nat}:Bel lo hi g:=by
 unfold Zkf at h
 split at h
 ·split at h
  ·exact Zqg h
  ·cases h
 ·exact Zqr h
 ·split at h<;>cases h<;>exact fun _ _ _=>rfl
 ·cases h
def gUn (op:UnOp) (a:G):Option G:=match op,a with
 | .not,.bool b=>some (.bool !b)
 | .neg,.int k n=>some (.int k (k.wrap (0-n)))
 |_,_=>none
theorem Ztq {op:UnOp} {a g:G} (h:gUn op a=some g) {σ:Nm} {K:D→Prop} (hk:K (g.d σ)):cUn op (a.d σ) K:=by
 unfold gUn at h
 split at h<;>cases h<;>exact hk
theorem Zr7 {op:UnOp} {a g:G} (h:gUn op a=some g) {lo:Nat→Prop} {hi:Nat}:Bel lo hi g:=by
 unfold gUn at h
 split at h<;>cases h<;>exact fun _ _ _=>rfl
def Zbj (f:Option (Nat×Nat×Bool)) (a:G):Option G:=match f with
 |some (off,sz,_)=>match sz,a with
  |0,_=>none
  |_+1,.ptr b o=>some (.ptr b (o+off))
  |_+1,.pt row=>some (.pt (row.drop off))
  |_,_=>none
 |none=>none
theorem Zju {f:Option (Nat×Nat×Bool)} {a g:G} (h:Zbj f a=some g) {σ:Nm} {K:D→Prop} (hk:K (g.d σ)):cFieldAddr f (a.d σ) K:=by
 unfold Zbj at h
 split at h
 ·split at h<;>cases h
  ·exact hk
  ·simp only[G.d,cFieldAddr,G.dl_eq]at hk⊢;rw[←List.map_drop];exact hk
 ·cases h
theorem Zif {f:Option (Nat×Nat×Bool)} {a g:G} (h:Zbj f a=some g) {lo:Nat→Prop} {hi:Nat} (ha:Bel lo hi a):Bel lo hi g:=by
 unfold Zbj at h
 split at h
 ·split at h<;>cases h
  ·exact ha.ptr_o
  ·exact Bel.pt (ha.pt_l.drop _)
 ·cases h
def ixN (n:Nat):Int→Option Nat
 | .ofNat i=>match Nat.blt i n with|true=>some i|false=>none
 | .negSucc _=>none
theorem ZhH {n i:Nat} {x:Int} (h:ixN n x=some i):x=(i:Int)∧i<n:=by
 unfold ixN at h
 split at h
 ·split at h
  ·rename_i hb;cases h;exact⟨rfl,z'x hb⟩
  ·cases h
 ·cases h
noncomputable def Zbk (kd:Kd) (x i:G):Option G:=match kd,i with
 | .slice _ esz _ _ _,.int _ n=>match x with
  | .sl _ esz' rows=>match ixN rows.length n,Nat.beq esz' esz with
   |some j,true=>(gIx rows j).map .pt
   |_,_=>none
  | .own b len=>match ixN len n with
   |some j=>some (.ptr b (j*esz))
   |none=>none
  |_=>none
 |_,_=>none
theorem Zjv {kd:Kd} {x i g:G} (h:Zbk kd x i=some g) {σ:Nm} {K:D→Prop} (hk:K (g.d σ)):cIndexAddr kd (x.d σ) (i.d σ) K:=by
 unfold Zbk at h
 split at h
 ·split at h
  ·split at h
   ·rename_i hi he
    obtain⟨rfl,hlt⟩:=ZhH hi
    rw[w'Q,Option.map_eq_some_iff]at h
    obtain⟨r,hr,rfl⟩:=h
    simp only[G.d,cIndexAddr,G.dr_eq,z'i,z'J,z'q]
    refine⟨⟨by omega,by omega⟩,r.map (G.d σ),by rw[hr];rfl,z'r he,?_⟩
    rw[←G.dl_eq];exact hk
   ·cases h
  ·split at h
   ·rename_i hi
    obtain⟨rfl,hlt⟩:=ZhH hi
    cases h
    refine⟨⟨by omega,by omega⟩,?_⟩
    rw[z'q];exact hk
   ·cases h
  ·cases h
 ·cases h
theorem Zii {kd:Kd} {x i g:G} (h:Zbk kd x i=some g) {lo:Nat→Prop} {hi:Nat} (hx:Bel lo hi x):Bel lo hi g:=by
 unfold Zbk at h
 split at h
 ·split at h
  ·split at h
   ·rw[w'Q,Option.map_eq_some_iff]at h
    obtain⟨r,hr,rfl⟩:=h
    exact Bel.pt (hx.sl_r r (z'l hr))
   ·cases h
  ·split at h
   ·cases h;exact hx.own_ptr
   ·cases h
  ·cases h
 ·cases h
noncomputable def ZcP (x:G) (i:Nat):Option G:=match x with| .tup l=>gIx l i|_=>none
theorem ZlX {x g:G} {i:Nat} (h:ZcP x i=some g) {σ:Nm} {K:D→Prop} (hk:K (g.d σ)):cExtract (x.d σ) i K:=by
 unfold ZcP at h
 split at h
 ·rw[w'Q]at h
  exact⟨g.d σ,by rw[G.dl_eq,z'J,h];rfl,hk⟩
 ·cases h
theorem Zkk {x g:G} {i:Nat} (h:ZcP x i=some g) {lo:Nat→Prop} {hi:Nat} (hx:Bel lo hi x):Bel lo hi g:=by
 unfold ZcP at h
 split at h
 ·rw[w'Q]at h;exact hx.tup_l.at h
 ·cases h
def Zkw (x:G):Option G:=match x with| .ptr b o=>some (.ptr b o)| .pt r=>some (.pt r)| .ifc t d=>some (.ifc t d)|_=>none
theorem Zr4 {x g:G} (h:Zkw x=some g) {σ:Nm} {K:D→Prop} (hk:K (g.d σ)):cNil (x.d σ) K:=by
 unfold Zkw at h
 split at h<;>cases h<;>exact hk
theorem Zqn {x g:G} (h:Zkw x=some g) {lo:Nat→Prop} {hi:Nat} (hx:Bel lo hi x):Bel lo hi g:=by
 unfold Zkw at h
 split at h<;>cases h<;>exact hx
def Zeq:G→Bool
 | .agg _| .tup _| .any=>false
 | .val v=>v.oneCell'
 |_=>true
theorem Zr5 {g:G} (h:Zeq g=true) (σ:Nm):oneD (g.d σ)=true:=by cases g<;>first|rfl|exact h|cases h
theorem ZaR {l:List G} (h:l.all Zeq=true) (σ:Nm):(l.map (G.d σ)).all oneD=true:=by
 rw[List.all_map,z'o]
 exact fun g hg=>Zr5 (z'o.1 h g hg) σ
def Ze8:G→Option (List G)
 | .agg l=>some l
 | .tup _| .any=>none
 | .val v=>match v with| .agg _=>none|v=>some [.val v]
 |g=>some [g]
theorem Ze9 {g:G} {l:List G} (h:Ze8 g=some l) (σ:Nm):cellsD (g.d σ)=some (l.map (G.d σ)):=by
 cases g with
 |agg l=>cases h;simp only[G.d,cellsD,G.dl_eq]
 |tup l=>cases h
 |any=>cases h
 |val v=>cases v<;>first|(cases h;done)|(cases h;rfl)
 |_=>cases h;rfl
theorem Zek {g:G} {l:List G} (h:Ze8 g=some l) {lo:Nat→Prop} {hi:Nat} (hx:Bel lo hi g):BelL lo hi l:=by
 cases g with
 |agg l=>cases h;exact hx.agg_l
 |tup l=>cases h
 |any=>cases h
 |val v=>cases v<;>first|(cases h;done)|(cases h;intro x hm;rw[z'V]at hm;subst hm;exact hx)
 |_=>cases h;intro x hm;rw[z'V]at hm;subst hm;exact hx
def ZbZ:List Value→Option (List G)
 |[]=>some []
 |v::r=>match gC v,ZbZ r with
  |some g,some l=>some (g::l)
  |_,_=>none
theorem ZbO: ∀{z:List Value} {l:List G},ZbZ z=some l→ ∀σ:Nm,z.map constD=l.map (G.d σ)
 |[],l,h,σ=>by cases h;rfl
 |v::r,l,h,σ=>by
  unfold ZbZ at h
  split at h
  ·rename_i g l' h1 h2
   cases h
   rw[z'm,z'm,ZjC h1 σ,ZbO h2 σ]
  ·cases h
theorem Za6: ∀{z:List Value} {l:List G},ZbZ z=some l→ ∀{lo:Nat→Prop} {hi:Nat},BelL lo hi l
 |[],l,h,lo,hi=>by cases h;intro g hg;cases hg
 |v::r,l,h,lo,hi=>by
  unfold ZbZ at h
  split at h
  ·rename_i g l' h1 h2
   cases h
   intro x hx
   rcases z't.1 hx with rfl|hx
   ·exact ZoE h1
   ·exact Za6 h2 x hx
  ·cases h
def Zev:List G→Nat→List G→List G
 |cells,_,[]=>cells
 |cells,off,c::cs=>Zev (cells.set off c) (off+1) cs
theorem Zew (σ:Nm): ∀(c l:List G) (off:Nat),setL (l.map (G.d σ)) off (c.map (G.d σ))=(Zev l off c).map (G.d σ)
 |[],l,off=>rfl
 |x::c,l,off=>by
  rw[z'm,setL,Zev, ←Zew σ c,x'd]
theorem Zdl {lo:Nat→Prop} {hi:Nat}: ∀(c l:List G) (off:Nat),BelL lo hi l→BelL lo hi c→BelL lo hi (Zev l off c)
 |[],l,off,h,_=>h
 |x::c,l,off,h,k=>Zdl c _ _ (h.set _ (k x (z'n ..))) fun g hg=>k g (z'k _ hg)
noncomputable def Zdi (env:Env) (place:Nat→Option (Nat×Nat)):List G→List (Nat×Operand)→Option (List G)
 |cells,[]=>some cells
 |cells,(i,x)::rest=>match gX env x with
  |some g=>match place i,Ze8 g with
   |some (off,sz),some c=>match Nat.beq c.length sz&&Nat.ble (off+sz) cells.length with
    |true=>Zdi env place (Zev cells off c) rest
    |false=>none
   |_,_=>none
  |none=>none
theorem Zel {env:Env} {place:Nat→Option (Nat×Nat)} (σ:Nm): ∀(ps:List (Nat×Operand)) (cells l:List G),Zdi env place cells ps=some l→
  ZbW place (cells.map (G.d σ)) (ps.map fun p=>(p.1,evD (cE σ env) p.2))=some (l.map (G.d σ))
 |[],cells,l,h=>by cases h;rfl
 |(i,x)::rest,cells,l,h=>by
  unfold Zdi at h
  split at h
  ·rename_i g hg
   split at h
   ·rename_i off sz c hp hc
    split at h
    ·rename_i hb
     rw[z'c]at hb
     have hb':((c.map (G.d σ)).length == sz&&Nat.ble (off+sz) (cells.map (G.d σ)).length)=true:=by
      rw[z'i,z'i,z'c]
      exact⟨beq_iff_eq.2 (z'r hb.1),hb.2⟩
     simp only[z'm,ZbW,z'U hg σ,hp,Ze9 hc σ,hb',Zew]
     exact Zel σ rest _ _ h
    ·cases h
   ·cases h
  ·cases h
theorem Zdj {env:Env} {place:Nat→Option (Nat×Nat)} {lo:Nat→Prop} {hi:Nat} (he:BelE lo hi env): ∀(ps:List (Nat×Operand)) (cells l:List G),BelL lo hi cells→Zdi env place cells ps=some l→BelL lo hi l
 |[],cells,l,hc,h=>by cases h;exact hc
 |(i,x)::rest,cells,l,hc,h=>by
  unfold Zdi at h
  split at h
  ·rename_i g hg
   split at h
   ·rename_i off sz c hp hcc
    split at h
    ·exact Zdj he rest _ _ (Zdl _ _ _ hc (Zek hcc (x'v hg he))) h
    ·cases h
   ·cases h
  ·cases h
noncomputable def Ze7 (ty:TyI) (env:Env) (ps:List (Nat×Operand)):Option G:=match kdT ty,ZbZ ty.zero with
 | .struct fs,some z=>match Zdi env (fun i=>(fs[i]?).map fun x=>(x.1,x.2.1)) z ps with
  |some l=>match l.all Zeq with|true=>some (.agg l)|false=>none
  |none=>none
 |_,_=>none
theorem ZoD {ty:TyI} {env:Env} {ps:List (Nat×Operand)} {g:G} (h:Ze7 ty env ps=some g) {σ:Nm} {K:D→Prop} (hk:K (g.d σ)):cBuild ty (ps.map fun p=>(p.1,evD (cE σ env) p.2)) K:=by
 unfold Ze7 at h
 split at h
 ·rename_i fs z hkd hz
  split at h
  ·rename_i l hl
   split at h
   ·rename_i ho
    cases h
    simp only[cBuild,hkd,ZbO hz σ,Zel σ ps z l hl]
    exact⟨ZaR ho σ,by rw[←G.dl_eq];exact hk⟩
   ·cases h
  ·cases h
 ·cases h
theorem Znt {ty:TyI} {env:Env} {ps:List (Nat×Operand)} {g:G} (h:Ze7 ty env ps=some g) {lo:Nat→Prop} {hi:Nat} (he:BelE lo hi env):Bel lo hi g:=by
 unfold Ze7 at h
 split at h
 ·rename_i fs z hkd hz
  split at h
  ·rename_i l hl
   split at h
   ·cases h;exact Bel.agg (Zdj he ps z l (Za6 hz) hl)
   ·cases h
  ·cases h
 ·cases h
noncomputable def Zfb (f:Option (Nat×Nat×Bool)) (x:G):Option G:=match f,x with
 |some (off,sz,true),.agg l=>match Nat.ble (off+sz) l.length with|true=>some (.agg ((l.drop off).take sz))|false=>none
 |some (off,_,false),.agg l=>gIx l off
 |_,_=>none
theorem ZoG {f:Option (Nat×Nat×Bool)} {x g:G} (h:Zfb f x=some g) {σ:Nm} {K:D→Prop} (hk:K (g.d σ)):cField f (x.d σ) K:=by
 unfold Zfb at h
 split at h
 ·split at h
  ·rename_i hb
   cases h
   simp only[G.d,G.dl_eq,cField,z'i]at hk⊢
   exact⟨z'x hb,by rw[←List.map_drop, ←List.map_take];exact hk⟩
  ·cases h
 ·rw[w'Q]at h
  simp only[G.d,G.dl_eq,cField]
  exact⟨g.d σ,by rw[z'J,h];rfl,hk⟩
 ·cases h
theorem Znx {f:Option (Nat×Nat×Bool)} {x g:G} (h:Zfb f x=some g) {lo:Nat→Prop} {hi:Nat} (hx:Bel lo hi x):Bel lo hi g:=by
 unfold Zfb at h
 split at h
 ·split at h
  ·cases h;exact Bel.agg ((hx.agg_l.drop _).take _)
  ·cases h
 ·rw[w'Q]at h;exact hx.agg_l.at h
 ·cases h
noncomputable def Zfc (kd:Kd) (x i:G):Option G:=match kd,x,i with
 | .str,.str s,.int _ n=>match ixN s.length n with
  |some j=>match gIx s j with|some c=>some (.int .u8 c.toNat)|none=>none
  |none=>none
 |_,_,_=>none
theorem ZoH {kd:Kd} {x i g:G} (h:Zfc kd x i=some g) {σ:Nm} {K:D→Prop} (hk:K (g.d σ)):cIndex kd (x.d σ) (i.d σ) K:=by
 unfold Zfc at h
 split at h
 ·split at h
  ·rename_i hi
   obtain⟨rfl,hlt⟩:=ZhH hi
   rw[w'Q]at h
   split at h
   ·rename_i c hc
    cases h
    simp only[G.d,cIndex,Zae,z'q]
    refine⟨⟨by omega,by omega⟩,?_⟩
    have: ∀(s:List UInt8) (j:Nat),s[j]?=some c→(x'I s).data.toList.getD j 0=c:=fun s j hc=>by
     show List.getD (List.toArray _).toList _ 0=c
     rw[z'd];simp[hc]
    rw[this _ _ hc];exact hk
   ·cases h
  ·cases h
 ·cases h
theorem Znz {kd:Kd} {x i g:G} (h:Zfc kd x i=some g) {lo:Nat→Prop} {hi:Nat}:Bel lo hi g:=by
 unfold Zfc at h
 split at h
 ·split at h
  ·split at h<;>cases h;exact fun _ _ _=>rfl
  ·cases h
 ·cases h
end Go.Vc
