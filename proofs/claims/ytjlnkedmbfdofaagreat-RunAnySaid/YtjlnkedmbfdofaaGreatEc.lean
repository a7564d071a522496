/- Calls at fixed data, reckoned out: one operation that makes a value. No condition. -/
import Derived.Test.YtjlnkedmbfdofaaGreatEb
namespace Go.Vc
set_option linter.unusedSimpArgs false
set_option linter.unusedVariables false
open Go
def v'5 (x:Option G) (dflt top:Nat):Option Nat:=match x with
 |none=>some dflt
 |some (.int _ (.ofNat n))=>match Nat.ble n top with|true=>some n|false=>none
 |_=>none
theorem w'7 {x:Option G} {dflt top n:Nat} (h:v'5 x dflt top=some n) (hd:dflt≤top) (σ:Nm):dC (x.map (G.d σ)) top∧dV (x.map (G.d σ)) dflt=n∧n≤top:=by
 unfold v'5 at h
 split at h
 ·cases h;exact⟨trivial,rfl,hd⟩
 ·split at h
  ·rename_i hb
   cases h
   have:=z'i hb
   refine⟨?_,rfl,this⟩
   simp only[y'a,G.d,dC,Int.ofNat_eq_natCast]
   omega
  ·cases h
 ·cases h
theorem Zjo {x:G} {dflt top n:Nat} (h:v'5 (some x) dflt top=some n) (σ:Nm):dV (some (x.d σ)) 0=n:=by
 cases x with
 |int k m=>cases m with
  |ofNat m=>simp only[v'5]at h;split at h<;>cases h;rfl
  |negSucc m=>cases h
 |_=>cases h
theorem ZgY (s:List UInt8) (a b:Nat):(y'u s).extract a b=y'u ((s.take b).drop a):=by
 apply ByteArray.ext
 simp[y'u,ByteArray.extract,ByteArray.copySlice,List.extract_eq_take_drop,List.drop_take]
def Zcs (kd:Kd) (x:G) (lo hi mx:Option G):Option G:=match mx with
 |some _=>none
 |none=>match kd,x with
  | .str,.str s=>match v'5 hi s.length s.length with
   |some h=>match v'5 lo 0 h with|some l=>some (.str ((s.take h).drop l))|none=>none
   |none=>none
  | .slice _ esz _ _ _,.sl full esz' rows=>match Nat.beq esz' esz,v'5 hi rows.length rows.length with
   |true,some h=>match v'5 lo 0 h with
    |some l=>match hi with|none=>some (.sl full esz (rows.drop l))|some _=>some (.sl false esz ((rows.take h).drop l))
    |none=>none
   |_,_=>none
  | .slice _ esz _ _ _,.own b n=>match v'5 hi n n with
   |some h=>match v'5 lo 0 h with
    |some l=>match lo with|none=>some (.own b h)|some _=>some (.off b (l*esz) (h-l) l)
    |none=>none
   |none=>none
  | .slice ..,.nils=>match v'5 hi 0 0,v'5 lo 0 0 with|some _,some _=>some .nils|_,_=>none
  |_,_=>none
theorem ZjA {kd:Kd} {x g:G} {lo hi mx:Option G} (h:Zcs kd x lo hi mx=some g) {σ:Nm} {K:D→Prop} (hk:K (g.d σ)):cSlice kd (x.d σ) (lo.map (G.d σ)) (hi.map (G.d σ)) (mx.map (G.d σ)) K:=by
 unfold Zcs at h
 split at h
 ·cases h
 split at h
 ·rename_i s
  split at h
  ·rename_i hh e1
   split at h
   ·rename_i ll e2
    cases h
    obtain⟨a1,a2,a3⟩:=w'7 e1 (z'c _) σ
    obtain⟨b1,b2,b3⟩:=w'7 e2 (z'Q _) σ
    simp only[G.d,cSlice,y't,w'y,a2]
    exact⟨⟨a1,b1⟩,by rw[b2,ZgY];exact hk⟩
   ·cases h
  ·cases h
 ·rename_i e esz eb ea ez full esz' rows
  split at h
  ·rename_i hh hb e1
   split at h
   ·rename_i ll e2
    obtain⟨a1,a2,a3⟩:=w'7 e1 (z'c _) σ
    obtain⟨b1,b2,b3⟩:=w'7 e2 (z'Q _) σ
    simp only[G.d,cSlice,y't,G.dr_eq,z'f]
    refine⟨⟨z'd hb,trivial,a1,by rw[a2];exact b1⟩,?_⟩
    cases hi with
    |none=>
     cases h
     simp only[y't,G.d,G.dr_eq, ←List.map_drop]at hk⊢
     rw[show dV (Option.map (G.d σ) lo) 0=ll from b2];exact hk
    |some hg=>
     cases h
     simp only[y'a,G.d,G.dr_eq]at hk a2⊢
     have a2':dV (some (G.d σ hg)) 0=hh:=Zjo e1 σ
     rw[a2',show dV (Option.map (G.d σ) lo) 0=ll from b2, ←List.map_take, ←List.map_drop];exact hk
   ·cases h
  ·cases h
 ·rename_i e esz eb ea ez b n
  split at h
  ·rename_i hh e1
   split at h
   ·rename_i ll e2
    obtain⟨a1,a2,a3⟩:=w'7 e1 (z'c _) σ
    obtain⟨b1,b2,b3⟩:=w'7 e2 (z'Q _) σ
    have hs:G.d σ (.own b n)= .gs (some ((σ b).1,(σ b).2)) n:=rfl
    rw[hs]
    simp only[cSlice,y't]
    refine⟨⟨a1,by rw[a2];exact b1⟩,?_⟩
    cases lo with
    |none=>cases h;simp only[y't];rw[a2];exact hk
    |some lg=>
     cases h
     simp only[y'a]at b2⊢
     rw[a2,b2];exact hk
   ·cases h
  ·cases h
 ·split at h
  ·rename_i e1 e2
   cases h
   obtain⟨a1,a2,a3⟩:=w'7 e1 (z'c _) σ
   obtain⟨b1,b2,b3⟩:=w'7 e2 (z'c _) σ
   exact⟨⟨a1,b1⟩,hk⟩
  ·cases h
 ·cases h
theorem ZiE {kd:Kd} {x g:G} {lo hi mx:Option G} (h:Zcs kd x lo hi mx=some g) {a:Nat→Prop} {b:Nat} (hx:Bel a b x):Bel a b g:=by
 unfold Zcs at h
 split at h
 ·cases h
 split at h
 ·split at h
  ·split at h<;>cases h;exact fun _ _ _=>rfl
  ·cases h
 ·split at h
  ·split at h
   ·split at h<;>cases h
    ·exact Bel.sl fun r hr=>hx.sl_r r (List.mem_of_mem_drop hr)
    ·exact Bel.sl fun r hr=>hx.sl_r r (y'L (List.mem_of_mem_drop hr))
   ·cases h
  ·cases h
 ·split at h
  ·split at h
   ·split at h<;>cases h
    ·exact hx.own_n
    ·exact hx.own_off
   ·cases h
  ·cases h
 ·split at h<;>cases h;exact fun _ _ _=>rfl
 ·cases h
def Zd5 (k:IntKind):List (List G)→Option (List Int)
 |[]=>some []
 |[.int j n]::r=>match kTag j == kTag k,Zd5 k r with
  |true,some l=>some (n::l)
  |_,_=>none
 |_::_=>none
theorem Zgj {k:IntKind} (σ:Nm) {rows:List (List G)} {l:List Int} (h:Zd5 k rows=some l):numsOf k (rows.map (·.map (G.d σ)))=some l:=by
 induction rows generalizing l with
 |nil=>cases h;rfl
 |cons row r ih=>
  unfold Zd5 at h
  split at h
  ·rename_i e;cases e
  ·rename_i j n r' e
   cases e
   split at h
   ·rename_i l' h1 h2
    cases h
    simp only[z'g,y'o,G.d,numsOf,h1,ih h2]
   ·cases h
  ·cases h
def ZcS (ke a b:Kd) (x:G):Option G:=match a,b,x with
 | .int _,.int k,.int _ n=>some (.int k (k.wrap n))
 | .slice _ _ _ _ _,.str,.sl _ 1 rows=>match ke with
  | .int .i32=>match Zd5 .i32 rows with|some ns=>some (.str (Zbs ns).data.toList)|none=>none
  | .int .u8=>match Zd5 .u8 rows with|some ns=>some (.str (Zbf ns).data.toList)|none=>none
  |_=>none
 | .str,.str,.str s=>some (.str s)
 |_,_,_=>none
theorem Zf5 {ke a b:Kd} {x g:G} (h:ZcS ke a b x=some g) {σ:Nm} {K:D→Prop} (hk:K (g.d σ)):cConvS ke a b (x.d σ) K:=by
 unfold ZcS at h
 split at h
 ·cases h;exact hk
 ·split at h
  ·split at h
   ·rename_i e;cases h
    simp only[G.d,G.dr_eq,cConvS,Zgj σ e];exact hk
   ·cases h
  ·split at h
   ·rename_i e;cases h
    simp only[G.d,G.dr_eq,cConvS,Zgj σ e];exact hk
   ·cases h
  ·cases h
 ·cases h;exact hk
 ·cases h
theorem Zjs {ke a b:Kd} {x g:G} (h:ZcS ke a b x=some g) {lo:Nat→Prop} {hi:Nat}:Bel lo hi g:=by
 unfold ZcS at h
 split at h
 ·cases h;exact fun _ _ _=>rfl
 ·split at h
  ·split at h<;>cases h;exact fun _ _ _=>rfl
  ·split at h<;>cases h;exact fun _ _ _=>rfl
  ·cases h
 ·cases h;exact fun _ _ _=>rfl
 ·cases h
def ZiB (P:Program) (t:TypeId) (x:G):Option G:=match P.underlying t with
 |some (.interface _)=>none
 |some _=>some (.ifc t x)
 |none=>none
theorem ZlZ {P:Program} {t:TypeId} {x g:G} (h:ZiB P t x=some g) {σ:Nm} {K:D→Prop} (hk:K (g.d σ)):Zj6 P t (x.d σ) K:=by
 unfold ZiB at h
 split at h
 ·cases h
 ·rename_i d hno hu
  cases h
  exact⟨⟨d,hu,fun ms e=>hno ms e⟩,hk⟩
 ·cases h
def ZeD (kd:Kd) (x:G):Option G:=match kd,x with
 | .slice ..,.sl _ _ rows=>some (.int .i64 (Int.ofNat rows.length))
 | .slice ..,.own _ n=>some (.int .i64 (Int.ofNat n))
 | .slice ..,.nils=>some (.int .i64 (Int.ofNat 0))
 | .slice ..,.off _ _ n _=>some (.int .i64 (Int.ofNat n))
 | .str,.str s=>some (.int .i64 (Int.ofNat s.length))
 |_,_=>none
theorem ZhC {kd:Kd} {x g:G} (h:ZeD kd x=some g) {σ:Nm} {K:D→Prop} (hk:K (g.d σ)):cLen kd (x.d σ) K:=by
 unfold ZeD at h
 split at h<;>cases h
 ·simp only[G.d,G.dr_eq,cLen,z'f]at hk⊢;exact hk
 ·exact hk
 ·exact hk
 ·exact hk
 ·simp only[G.d,cLen,w'y]at hk⊢;exact hk
theorem Zgb {kd:Kd} {x g:G} (h:ZeD kd x=some g) {lo:Nat→Prop} {hi:Nat}:Bel lo hi g:=by
 unfold ZeD at h
 split at h<;>cases h<;>exact fun _ _ _=>rfl
def ZbN (esz:Nat):Nat→List G→List (List G)
 |0,_=>[]
 |n+1,l=>l.take esz::ZbN esz n (l.drop esz)
theorem v'C (σ:Nm) (esz:Nat): ∀(n:Nat) (l:List G),x'z esz n (l.map (G.d σ))=(ZbN esz n l).map (·.map (G.d σ))
 |0,l=>rfl
 |n+1,l=>by rw[x'z,ZbN,z'g, ←List.map_take, ←List.map_drop,v'C σ esz n]
theorem ZaV {lo:Nat→Prop} {hi:Nat} (esz:Nat): ∀(n:Nat) (l:List G),BelL lo hi l→BelR lo hi (ZbN esz n l)
 |0,l,_,r,hr=>by cases hr
 |n+1,l,h,r,hr=>by
  rcases z'p.1 hr with rfl|hr
  ·exact h.take _
  ·exact ZaV esz n _ (h.drop _) r hr
noncomputable def w'Q (kd:Kd) (n:Nat) (env:Env) (ps:List (Nat×Operand)):Option G:=match kd with
 | .slice e esz _ _ ez=>match v'L ez with
  |some z=>match ZaT env (fun i=>some (i*esz,esz)) (List.replicate n z).flatten ps with
   |some l=>match l.all ZbL&&Nat.ble (n*esz) 16777216 with|true=>some (.sl true esz (ZbN esz n l))|false=>none
   |none=>none
  |none=>none
 |_=>none
theorem Zev {kd:Kd} {n:Nat} {env:Env} {ps:List (Nat×Operand)} {g:G} (h:w'Q kd n env ps=some g) {σ:Nm} {H:Heap} {K:D→Heap→Prop} (hk:K (g.d σ) H):
  cBuildSlice kd n (ps.map fun p=>(p.1,evD (cE σ env) p.2)) H K:=by
 unfold w'Q at h
 split at h
 ·split at h
  ·rename_i z hz
   split at h
   ·rename_i l hl
    split at h
    ·rename_i hb
     cases h
     rw[z'b]at hb
     have hf:=ZbG σ ps _ l hl
     have e:((List.replicate n z).flatten).map (G.d σ)=(List.replicate n (z.map (G.d σ))).flatten:=by simp[List.map_flatten]
     rw[e]at hf
     simp only[cBuildSlice,v'D hz σ,hf]
     exact⟨⟨w'3 hb.1 σ,z'i hb.2⟩,by rw[v'C, ←G.dr_eq];exact hk⟩
    ·cases h
   ·cases h
  ·cases h
 ·cases h
theorem ZdW {kd:Kd} {n:Nat} {env:Env} {ps:List (Nat×Operand)} {g:G} (h:w'Q kd n env ps=some g) {lo:Nat→Prop} {hi:Nat} (he:BelE lo hi env):Bel lo hi g:=by
 unfold w'Q at h
 split at h
 ·split at h
  ·rename_i z hz
   split at h
   ·rename_i l hl
    split at h
    ·cases h
     refine Bel.sl (ZaV _ _ _ (ZaU he ps _ l (fun g hg=>?_) hl))
     obtain⟨r,hr,hg⟩:=List.mem_flatten.1 hg
     exact w'8 hz g ((List.mem_replicate.1 hr).2▸hg)
    ·cases h
   ·cases h
  ·cases h
 ·cases h
noncomputable def gXs (env:Env):List Operand→Option (List G)
 |[]=>some []
 |x::r=>match gX env x with
  |some g=>match gXs env r with|some l=>some (g::l)|none=>none
  |none=>none
theorem v'k {env:Env} (σ:Nm): ∀{l:List Operand} {gs:List G},gXs env l=some gs→l.map (evD (cE σ env))=gs.map (G.d σ)
 |[],gs,h=>by cases h;rfl
 |x::r,gs,h=>by
  unfold gXs at h
  split at h
  ·rename_i g hg
   split at h
   ·rename_i l hl
    cases h
    rw[z'g,z'g,z'u hg σ,v'k σ hl]
   ·cases h
  ·cases h
theorem Zam {env:Env} {lo:Nat→Prop} {hi:Nat} (he:BelE lo hi env): ∀{l:List Operand} {gs:List G},gXs env l=some gs→BelL lo hi gs
 |[],gs,h=>by cases h;intro g hg;cases hg
 |x::r,gs,h=>by
  unfold gXs at h
  split at h
  ·rename_i g hg
   split at h
   ·rename_i l hl
    cases h
    intro y hy
    rcases z'p.1 hy with rfl|hy
    ·exact y'q hg he
    ·exact Zam he hl y hy
   ·cases h
  ·cases h
noncomputable def gXo (env:Env):Option Operand→Option (Option G)
 |none=>some none
 |some x=>match gX env x with|some g=>some (some g)|none=>none
theorem Zcu {env:Env} {x:Option Operand} {g:Option G} (h:gXo env x=some g) (σ:Nm):x.map (evD (cE σ env))=g.map (G.d σ):=by
 unfold gXo at h
 split at h
 ·cases h;rfl
 ·split at h
  ·rename_i hg;cases h;rw[y'a,y'a,z'u hg σ]
  ·cases h
theorem Znh {P:Program} {o:Oper} {E:Operand→D} {H:Heap} {K:D→Heap→Prop} {x y:Operand} {ts:Array TypeId} {k:IntKind} {a b:Int} (ho:o.op= .call ⟨.builtin .max, #[x,y],ts⟩) (ha:E x= .is (.int k a)) (hb:E y= .is (.int k b)) (hk:K (.is (.int k (max a b))) H):Op1 P o E H K:=by
 refine Op1.value (d:= .is (.int k (max a b))) (fun w L0 ε hi hx=>?_) hk
 have h1:=hx x (by simp[ho,Op.operands,Call.operands])
 have h2:=hx y (by simp[ho,Op.operands,Call.operands])
 rw[ha]at h1;rw[hb]at h2
 have h1':ε x= .int k a:=h1
 have h2':ε y= .int k b:=h2
 refine⟨.int k (max a b),?_,rfl⟩
 simp only[execOp,ho,resolve,invoke,builtin]
 simp[go_sem,h1',h2',Builtin.max_,Builtin.max2]
 split<;>omega
theorem Zmj {P:Program} {o:Oper} {E:Operand→D} {H:Heap} {K:D→Heap→Prop} {x y z:Operand} {ts:Array TypeId} {k:IntKind} {a b c:Int} (ho:o.op= .call ⟨.builtin .max, #[x,y,z],ts⟩) (ha:E x= .is (.int k a)) (hb:E y= .is (.int k b)) (hc:E z= .is (.int k c)) (hk:K (.is (.int k (max (max a b) c))) H):Op1 P o E H K:=by
 refine Op1.value (d:= .is (.int k (max (max a b) c))) (fun w L0 ε hi hx=>?_) hk
 have h1:=hx x (by simp[ho,Op.operands,Call.operands])
 have h2:=hx y (by simp[ho,Op.operands,Call.operands])
 have h3:=hx z (by simp[ho,Op.operands,Call.operands])
 rw[ha]at h1;rw[hb]at h2;rw[hc]at h3
 have h1':ε x= .int k a:=h1
 have h2':ε y= .int k b:=h2
 have h3':ε z= .int k c:=h3
 refine⟨.int k (max (max a b) c),?_,rfl⟩
 simp only[execOp,ho,resolve,invoke,builtin]
 simp[go_sem,h1',h2',h3',Builtin.max_,Builtin.max2]
 split<;>split<;>omega
def Zcn (x y:G):Option G:=match x,y with
 | .int k a,.int k' b=>match decide (k'=k)with|true=>some (.int k (max a b))|false=>none
 |_,_=>none
theorem Zgf {x y g:G} (h:Zcn x y=some g): ∃k a b,x= .int k a∧y= .int k b∧g= .int k (max a b):=by
 unfold Zcn at h
 split at h
 ·split at h
  ·rename_i hk
   simp only[decide_eq_true_eq]at hk
   subst hk
   exact⟨_,_,_,rfl,rfl,(z'2 h).symm⟩
  ·cases h
 ·cases h
theorem Zge {x y g:G} (h:Zcn x y=some g) {lo:Nat→Prop} {hi:Nat}:Bel lo hi g:=by
 unfold Zcn at h
 split at h
 ·split at h
  ·cases h;exact Bel.int
  ·cases h
 ·cases h
theorem Zni {P:Program} {o:Oper} {E:Operand→D} {H:Heap} {K:D→Heap→Prop} {x y:Operand} {ts:Array TypeId} {k:IntKind} {a b:Int} (ho:o.op= .call ⟨.builtin .min, #[x,y],ts⟩) (ha:E x= .is (.int k a)) (hb:E y= .is (.int k b)) (hk:K (.is (.int k (min a b))) H):Op1 P o E H K:=by
 refine Op1.value (d:= .is (.int k (min a b))) (fun w L0 ε hi hx=>?_) hk
 have h1:=hx x (by simp[ho,Op.operands,Call.operands])
 have h2:=hx y (by simp[ho,Op.operands,Call.operands])
 rw[ha]at h1;rw[hb]at h2
 have h1':ε x= .int k a:=h1
 have h2':ε y= .int k b:=h2
 refine⟨.int k (min a b),?_,rfl⟩
 simp only[execOp,ho,resolve,invoke,builtin]
 simp[go_sem,h1',h2',Builtin.min_,Builtin.min2]
 split<;>omega
def ZiA (x y:G):Option G:=match x,y with
 | .int k a,.int k' b=>match decide (k'=k)with|true=>some (.int k (min a b))|false=>none
 |_,_=>none
theorem Zku {x y g:G} (h:ZiA x y=some g) {lo:Nat→Prop} {hi:Nat}:Bel lo hi g:=by
 unfold ZiA at h
 split at h
 ·split at h
  ·cases h;exact Bel.int
  ·cases h
 ·cases h
def Zkv (fn:Fn) (first:List Operand) (gs:List G):Option G:=match fn,first with
 | .func f,[]=>match gs.all G.isV with|true=>some (.fn f gs)|false=>none
 |_,_=>none
noncomputable def Zbj (n esz:Nat) (ty:TyI) (env:Env) (ps:List (Nat×Operand)):Option G:=match v'L ty.zero with
 |some z=>match ZaT env (fun i=>some (i*esz,esz)) z ps with
  |some l=>match l.all ZbL with|true=>some (.agg l)|false=>none
  |none=>none
 |none=>none
theorem Zhg {n esz:Nat} {ty:TyI} {env:Env} {ps:List (Nat×Operand)} {g:G} (h:Zbj n esz ty env ps=some g) {lo:Nat→Prop} {hi:Nat} (he:BelE lo hi env):Bel lo hi g:=by
 unfold Zbj at h
 split at h
 ·rename_i z hz
  split at h
  ·rename_i l hl
   split at h
   ·cases h;exact Bel.agg (ZaU he ps z l (w'8 hz) hl)
   ·cases h
  ·cases h
 ·cases h
theorem Zio {P:Program} (T:Tab P) {o:Oper} {t:TypeId} {n esz:Nat} {ea:Bool} {env:Env} {ps:List (Nat×Operand)} {g:G} (ho:o.op= .build t ps.toArray) (hk0:kdT (T.get t)= .array n esz ea) (h:Zbj n esz (T.get t) env ps=some g) {σ:Nm} {H:Heap} {K:D→Heap→Prop} (hk:K (g.d σ) H):Op1 P o (evD (cE σ env)) H K:=by
 unfold Zbj at h
 split at h
 ·rename_i z hz
  split at h
  ·rename_i l hl
   split at h
   ·rename_i hone
    cases h
    refine ZkU T (l:=l.map (G.d σ)) ho hk0 ?_ (w'3 hone σ) (by simpa only[G.d,G.dl_eq]using hk)
    rw[v'D hz σ]
    exact ZbG σ ps z l hl
   ·cases h
  ·cases h
 ·cases h
noncomputable def ZeB (n esz:Nat) (x i:G):Option G:=match x,i with
 | .ptr b off,.int _ m=>match ixN n m with|some j=>some (.ptr b (off+j*esz))|none=>none
 |_,_=>none
noncomputable def Zkn (P:Program) (t:TypeId) (x y:G):Option Bool:=match P.underlying t,x,y with
 |some (.int _),.int k a,.int k' b=>match Nat.beq (kTag k) (kTag k')with|true=>some (a == b)|false=>none
 |some .string,.str a,.str b=>some (eqB a b)
 |some .bool,.bool a,.bool b=>some (a == b)
 |_,_,_=>none
noncomputable def Zf6 (P:Program) (xs ys:List G):List Field→Option Bool
 |[]=>some true
 |f::r=>match decide (f.name= "_")with
  |true=>Zf6 P xs ys r
  |false=>match gIx xs f.offset,gIx ys f.offset with
   |some x,some y=>match Zkn P f.type x y with
    |some true=>Zf6 P xs ys r
    |some false=>some false
    |none=>none
   |_,_=>none
noncomputable def Zko (P:Program) (t:TypeId) (xs ys:List G):Option Bool:=match P.underlying t with
 |some (.struct fs)=>match P.stoodInHeld t,P.eqGuardType P.depth t,xs.all G.isV&&ys.all G.isV with
  |false,false,true=>Zf6 P xs ys fs.toList
  |_,_,_=>none
 |_=>none
theorem Zhv {P:Program} {t:TypeId} {x y:G} {r:Bool} (h:Zkn P t x y=some r) {σ:Nm} {xs ys:Array Value} {i d:Nat} (h1:xs[i]?=some (x.v σ)) (h2:ys[i]?=some (y.v σ)) (w:World):
  (part t xs i).run P w= .ok (x.v σ) w∧(part t ys i).run P w= .ok (y.v σ) w∧(Op.equalIn (d+1) t (x.v σ) (y.v σ)).run P w= .ok r w:=by
 unfold Zkn at h
 split at h
 ·rename_i k0 k a k' b hu
  split at h
  ·rename_i hk
   obtain rfl:=Zb2 (beq_iff_eq.2 (z'd hk))
   cases h
   exact⟨by simp[part,isAgg,run_underlying hu,h1],by simp[part,isAgg,run_underlying hu,h2],run_equalIn_int w d t k k0 a b hu⟩
  ·cases h
 ·rename_i a b hu
  cases h
  refine⟨by simp[part,isAgg,run_underlying hu,h1],by simp[part,isAgg,run_underlying hu,h2],?_⟩
  have:=run_equalIn_string w d t (y'u a) (y'u b) hu
  rw[show(G.str a).v σ= .string (y'u a) from rfl,show(G.str b).v σ= .string (y'u b) from rfl,this,ByteArray.toList_eq,ByteArray.toList_eq,ZdP]
  exact congrArg (fun b=>Result.ok b w) (show(a == b)=decide (a=b) by by_cases e:a=b<;>simp[e])
 ·rename_i a b hu
  cases h
  exact⟨by simp[part,isAgg,run_underlying hu,h1],by simp[part,isAgg,run_underlying hu,h2],run_equalIn_bool' w d t a b hu⟩
 ·cases h
theorem Zex {P:Program} {xs ys:List G} {σ:Nm} {d:Nat}: ∀{fs:List Field} {r:Bool},Zf6 P xs ys fs=some r→ ∀w,(Op.eqFields (d+1) (xs.map (G.v σ)).toArray (ys.map (G.v σ)).toArray fs).run P w= .ok r w
 |[],r,h,w=>by cases h;rfl
 |f::fs,r,h,w=>by
  unfold Zf6 at h
  unfold Op.eqFields
  split at h
  ·rename_i hn
   rw[if_neg (by simpa using hn)]
   exact Zex h w
  ·rename_i hn
   rw[if_pos (by simpa using hn)]
   split at h
   ·rename_i x y hx hy
    rw[x'x]at hx hy
    have e1:((xs.map (G.v σ)).toArray)[f.offset]?=some (x.v σ):=by simp[hx]
    have e2:((ys.map (G.v σ)).toArray)[f.offset]?=some (y.v σ):=by simp[hy]
    split at h
    ·rename_i hq
     obtain⟨k1,k2,k3⟩:=Zhv hq e1 e2 (d:=d) w
     rw[z'a k1,z'a k2,z'a k3]
     exact Zex h w
    ·rename_i hq
     obtain⟨k1,k2,k3⟩:=Zhv hq e1 e2 (d:=d) w
     cases h
     rw[z'a k1,z'a k2,z'a k3]
     rfl
    ·cases h
   ·cases h
theorem ZlW {P:Program} {t:TypeId} {xs ys:List G} {r:Bool} (h:Zko P t xs ys=some r) (σ:Nm):EqS P t (xs.map (G.v σ)) (ys.map (G.v σ)) r∧xs.map (G.d σ)=(xs.map (G.v σ)).map D.is∧ys.map (G.d σ)=(ys.map (G.v σ)).map D.is:=by
 unfold Zko at h
 split at h
 ·rename_i fs hu
  split at h
  ·rename_i h1 h2 h3
   rw[z'b]at h3
   have key: ∀{l:List G},l.all G.isV=true→l.map (G.d σ)=(l.map (G.v σ)).map D.is:=fun{l} hl=>by
    rw[List.map_map]
    refine z'R fun g hg=>?_
    have:=z'h.1 hl g hg
    cases g<;>first|rfl|cases this
   have hf:P.fieldsOf t=fs:=by simp[Program.fieldsOf,hu]
   refine⟨⟨h2,fun w=>?_⟩,key h3.1,key h3.2⟩
   rw[show(10000:Nat)=9999+1 from rfl,run_equalIn_agg w 9999 t _ _ (by rw[hf];exact hu) h1,hf]
   exact Zex h w
  ·cases h
 ·cases h
theorem ZkY {P:Program} {o:Oper} {E:Operand→D} {H:Heap} {K:D→Heap→Prop} {op:BinOp} {t u e:TypeId} {x y:Operand} {p:Option Addr} {r':Bool} (ho:o.op= .binOp op t x y u) (hu:P.underlying t=some (.pointer e)) (hx0:E x= .is (.pointer p)) (hy0:E y= .is (.pointer none))
  (hr:x'g op p.isNone=some r') (hk:K (.is (.bool r')) H):Op1 P o E H K:=by
 refine Op1.value (d:= .is (.bool r')) (fun w L0 ε hi hx=>?_) hk
 have h1:=hx x (by simp[ho,Op.operands])
 have h2:=hx y (by simp[ho,Op.operands])
 rw[hx0]at h1;rw[hy0]at h2
 have h1':ε x= .pointer p:=h1
 have h2':ε y= .pointer none:=h2
 have hu':P.underlying t=some (.pointer (P.pointee t)):=by simp[Program.pointee,hu]
 have hg:(eqGuard op t x y (.pointer p) (.pointer none)).run P w= .ok () w:=z'U trivial
 refine⟨.bool r',?_,rfl⟩
 simp only[execOp,ho,h1',h2']
 refine(z'a (a:= .bool r') (w':=w) ?_).trans rfl
 rw[z'a hg]
 cases op<;>simp only[x'g,z'q,reduceCtorEq]at hr
 ·subst hr;exact run_eql_pointer_nil w t p hu'
 ·subst hr;exact run_neq_pointer_nil w t p hu'
noncomputable def Zak (P:Program) (op:BinOp) (t:TypeId) (nil:Bool):Option G:=match P.underlying t with
 |some (.pointer _)=>match x'g op nil with|some r=>some (.bool r)|none=>none
 |_=>none
theorem Zdh {P:Program} {op:BinOp} {t:TypeId} {nil:Bool} {g:G} (h:Zak P op t nil=some g) {lo:Nat→Prop} {hi:Nat}:Bel lo hi g:=by
 unfold Zak at h
 split at h
 ·split at h
  ·cases h;exact Bel.bool
  ·cases h
 ·cases h
theorem Zd7 {P:Program} {op:BinOp} {t u:TypeId} {nil:Bool} {g:G} {o:Oper} {x y:Operand} {env:Env} {p:Option Addr} {σ:Nm} {H:Heap} {K:D→Heap→Prop} (ho:o.op= .binOp op t x y u) (h:Zak P op t nil=some g) (hp:p.isNone=nil) (h1:evD (cE σ env) x= .is (.pointer p)) (h2:evD (cE σ env) y= .is (.pointer none)) (hk:K (g.d σ) H):Op1 P o (evD (cE σ env)) H K:=by
 unfold Zak at h
 split at h
 ·rename_i e hu
  split at h
  ·rename_i r hr
   cases h
   exact ZkY ho hu h1 h2 (by rw[hp];exact hr) hk
  ·cases h
 ·cases h
theorem Zlg {P:Program} {w:World} {ti t:TypeId} {ms:Array (String×TypeId)} {v:Value} (hi:P.underlying ti=some (.interface ms)):(Go.Op.equal ti (.iface t v) .nilIface).run P w= .ok false w:=by
 have h: ∀d:Nat,(Go.Op.equalIn (d+1) ti (.iface t v) .nilIface).run P w= .ok false w:=fun d=>by simp[Go.Op.equalIn,run_underlying hi]
 exact h 9999
theorem Zjf {P:Program} {w:World} {ti:TypeId} {ms:Array (String×TypeId)} (hi:P.underlying ti=some (.interface ms)):(Go.Op.equal ti .nilIface .nilIface).run P w= .ok true w:=by
 have h: ∀d:Nat,(Go.Op.equalIn (d+1) ti .nilIface .nilIface).run P w= .ok true w:=fun d=>by simp[Go.Op.equalIn,run_underlying hi]
 exact h 9999
theorem Zje {P:Program} {w:World} {ti t u:TypeId} {ms:Array (String×TypeId)} {a b:Value} (hi:P.underlying ti=some (.interface ms)) (hne:t≠u):(Go.Op.equal ti (.iface t a) (.iface u b)).run P w= .ok false w:=by
 have h: ∀d:Nat,(Go.Op.equalIn (d+1) ti (.iface t a) (.iface u b)).run P w= .ok false w:=fun d=>by simp[Go.Op.equalIn,run_underlying hi,hne]
 exact h 9999
theorem Zhs {P:Program} {w:World} {ti t:TypeId} {ms:Array (String×TypeId)} {k k0:IntKind} {m n:Int} {i:TypeInfo} (hi:P.underlying ti=some (.interface ms)) (ht:P.underlying t=some (.int k0)) (hinfo:P.info? t=some i) (hc:i.comparable=true):(Go.Op.equal ti (.iface t (.int k m)) (.iface t (.int k n))).run P w= .ok (decide (m=n)) w:=by
 have h: ∀d:Nat,(Go.Op.equalIn (d+2) ti (.iface t (.int k m)) (.iface t (.int k n))).run P w= .ok (decide (m=n)) w:=fun d=>by
  simp[Go.Op.equalIn,run_underlying hi,run_underlying ht,typeInfo,hinfo,hc]
  try rfl
 exact h 9998
theorem ZcF {P:Program} {op:BinOp} {o:Oper} {E:Operand→D} {H:Heap} {t u:TypeId} {x y:Operand} {r r':Bool} {K:D→Heap→Prop} (ho:o.op= .binOp op t x y u) (hr:x'g op r=some r')
  (h: ∀(w:World) (L:Nat→Prop) (vx vy:Value),Rel w L (E x) vx→Rel w L (E y) vy→(eqGuard op t x y vx vy).run P w= .ok () w∧(Go.Op.equal t vx vy).run P w= .ok r w∧((∃a b,vx= .iface a b)∨vx= .nilIface)) (hk:K (.is (.bool r')) H):Op1 P o E H K:=by
 refine Op1.value (d:= .is (.bool r')) (fun w L0 ε hi hx=>?_) hk
 have h1:=hx x (by simp[ho,Op.operands])
 have h2:=hx y (by simp[ho,Op.operands])
 obtain⟨hg,he,hs⟩:=h w _ _ _ h1 h2
 refine⟨.bool r',?_,rfl⟩
 simp only[execOp,ho]
 refine(z'a (a:= .bool r') (w':=w) ?_).trans rfl
 rw[z'a hg]
 cases op<;>simp only[x'g,z'q,reduceCtorEq]at hr
 ·subst hr
  rcases hs with⟨a,b,hs⟩|hs<;>(rw[hs]at he⊢;simp only[binOp];rw[z'a he];rfl)
 ·subst hr
  rcases hs with⟨a,b,hs⟩|hs<;>(rw[hs]at he⊢;simp only[binOp];rw[z'a he];rfl)
noncomputable def gIf (P:Program) (op:BinOp) (t:TypeId) (y:Operand) (gx gy:G):Option G:=match P.underlying t with
 |some (.interface _)=>match gx,gy with
  | .ifc _ _,.val .nilIface=>(x'g op false).map .bool
  | .val .nilIface,.val .nilIface=>match y with| .const _=>(x'g op true).map .bool|_=>none
  | .ifc u a,.ifc v b=>match Nat.beq u v with
   |false=>(x'g op false).map .bool
   |true=>match P.underlying u,(P.info? u).map (·.comparable),a,b with
    |some (.int _),some true,.int k m,.int k' n=>match decide (k'=k)with|true=>(x'g op (decide (m=n))).map .bool|false=>none
    |_,_,_,_=>none
  |_,_=>none
 |_=>none
theorem Zhz {P:Program} {op:BinOp} {t:TypeId} {y:Operand} {gx gy g:G} (h:gIf P op t y gx gy=some g) {lo:Nat→Prop} {hi:Nat}:Bel lo hi g:=by
 have key: ∀r:Option Bool,r.map G.bool=some g→Bel lo hi g:=fun r hr=>by
  cases r with
  |none=>cases hr
  |some r=>cases hr;exact Bel.bool
 unfold gIf at h
 split at h
 ·split at h
  ·exact key _ h
  ·split at h
   ·exact key _ h
   ·cases h
  ·split at h
   ·exact key _ h
   ·split at h
    ·split at h
     ·exact key _ h
     ·cases h
    ·cases h
  ·cases h
 ·cases h
theorem Zjv {P:Program} {op:BinOp} {t u:TypeId} {gx gy g:G} {o:Oper} {x y:Operand} {env:Env} {σ:Nm} {H:Heap} {K:D→Heap→Prop} (ho:o.op= .binOp op t x y u) (h:gIf P op t y gx gy=some g) (h1:evD (cE σ env) x=gx.d σ) (h2:evD (cE σ env) y=gy.d σ) (hk:K (g.d σ) H):Op1 P o (evD (cE σ env)) H K:=by
 have key: ∀r:Bool,(x'g op r).map G.bool=some g→(∀(w:World) (L:Nat→Prop) (vx vy:Value),Rel w L (gx.d σ) vx→Rel w L (gy.d σ) vy→(eqGuard op t x y vx vy).run P w= .ok () w∧(Go.Op.equal t vx vy).run P w= .ok r w∧((∃a b,vx= .iface a b)∨vx= .nilIface))→Op1 P o (evD (cE σ env)) H K:=fun r hr hh=>by
  cases hq:x'g op r with
  |none=>rw[hq]at hr;cases hr
  |some r'=>
   rw[hq]at hr;cases hr
   exact ZcF ho hq (fun w L vx vy a b=>hh w L vx vy (by rwa [h1]at a) (by rwa [h2]at b)) hk
 unfold gIf at h
 split at h
 ·rename_i ms hi
  split at h
  ·rename_i t1 g1
   refine key _ h fun w L vx vy a b=>?_
   obtain⟨v,rfl,_⟩:=a
   have b:vy= .nilIface:=b
   subst b
   exact⟨z'U trivial,Zlg hi,.inl ⟨_,_,rfl⟩⟩
  ·split at h
   ·refine key _ h fun w L vx vy a b=>?_
    have a:vx= .nilIface:=a
    have b:vy= .nilIface:=b
    subst a;subst b
    refine⟨?_,Zjf hi,.inr rfl⟩
    unfold eqGuard
    refine Zc7 (by cases op<;>simp_all[x'g]) ?_
    simp
   ·cases h
  ·rename_i t1 g1 t2 g2
   split at h
   ·rename_i hb
    refine key _ h fun w L vx vy a b=>?_
    obtain⟨v,rfl,_⟩:=a
    obtain⟨v',rfl,_⟩:=b
    exact⟨z'U trivial,Zje hi (fun e=>by rw[e,y'8]at hb;cases hb),.inl ⟨_,_,rfl⟩⟩
   ·rename_i hb
    have hb:=z'd hb
    subst hb
    split at h
    ·rename_i k0 k m k' n hu hc
     split at h
     ·rename_i hkk
      simp only[decide_eq_true_eq]at hkk
      subst hkk
      obtain⟨i,hinfo,hcmp⟩: ∃i,P.info? t1=some i∧i.comparable=true:=by
       cases hq:P.info? t1 with
       |none=>rw[hq]at hc;cases hc
       |some i=>rw[hq]at hc;exact⟨i,rfl,by simpa using hc⟩
      refine key _ h fun w L vx vy a b=>?_
      obtain⟨v,rfl,a⟩:=a
      obtain⟨v',rfl,b⟩:=b
      have a:v= .int k' m:=a
      have b:v'= .int k' n:=b
      subst a;subst b
      exact⟨z'U trivial,Zhs hi hu hinfo hcmp,.inl ⟨_,_,rfl⟩⟩
     ·cases h
    ·cases h
  ·cases h
 ·cases h
def Zg9 (k:IntKind) (x y:Int):Int:=k.wrap ((BitVec.ofInt k.bits x^^^BitVec.ofInt k.bits y).toNat:Nat)
theorem Znl {P:Program} {o:Oper} {E:Operand→D} {H:Heap} {t u:TypeId} {x y:Operand} {k:IntKind} {a b:Int} {K:D→Heap→Prop} (ho:o.op= .binOp .xor t x y u) (ha:E x= .is (.int k a)) (hb:E y= .is (.int k b))
  (hk:K (.is (.int k (Zg9 k a b))) H):Op1 P o E H K:=by
 refine Op1.value (d:= .is (.int k (Zg9 k a b))) (fun w L0 ε hi hx=>?_) hk
 have h1:=hx x (by simp[ho,Op.operands])
 have h2:=hx y (by simp[ho,Op.operands])
 rw[ha]at h1;rw[hb]at h2
 have h1':ε x= .int k a:=h1
 have h2':ε y= .int k b:=h2
 have hg:(eqGuard .xor t x y (.int k a) (.int k b)).run P w= .ok () w:=z'U trivial
 refine⟨.int k (Zg9 k a b),?_,rfl⟩
 simp only[execOp,ho,h1',h2']
 rw[z'a (a:=Value.int k (Zg9 k a b)) (w':=w) (by rw[z'a hg];simp only[binOp,ne_eq,not_true_eq_false,if_false,Op.intBits];rfl)]
 rfl
def ZfN (k:IntKind) (x y:Int):Int:=k.wrap ((BitVec.ofInt k.bits x&&&BitVec.ofInt k.bits y).toNat:Nat)
theorem Znc {P:Program} {o:Oper} {E:Operand→D} {H:Heap} {t u:TypeId} {x y:Operand} {k:IntKind} {a b:Int} {K:D→Heap→Prop} (ho:o.op= .binOp .and t x y u) (ha:E x= .is (.int k a)) (hb:E y= .is (.int k b))
  (hk:K (.is (.int k (ZfN k a b))) H):Op1 P o E H K:=by
 refine Op1.value (d:= .is (.int k (ZfN k a b))) (fun w L0 ε hi hx=>?_) hk
 have h1:=hx x (by simp[ho,Op.operands])
 have h2:=hx y (by simp[ho,Op.operands])
 rw[ha]at h1;rw[hb]at h2
 have h1':ε x= .int k a:=h1
 have h2':ε y= .int k b:=h2
 have hg:(eqGuard .and t x y (.int k a) (.int k b)).run P w= .ok () w:=z'U trivial
 refine⟨.int k (ZfN k a b),?_,rfl⟩
 simp only[execOp,ho,h1',h2']
 rw[z'a (a:=Value.int k (ZfN k a b)) (w':=w) (by rw[z'a hg];simp only[binOp,ne_eq,not_true_eq_false,if_false,Op.intBits];rfl)]
 rfl
def ZgX (k:IntKind) (x y:Int):Int:=x.fdiv (2^min y.toNat k.bits)
theorem Znj {P:Program} {o:Oper} {E:Operand→D} {H:Heap} {t u:TypeId} {x y:Operand} {k k':IntKind} {a b:Int} {K:D→Heap→Prop} (ho:o.op= .binOp .shr t x y u) (ha:E x= .is (.int k a)) (hb:E y= .is (.int k' b)) (h0:0≤b)
  (hk:K (.is (.int k (ZgX k a b))) H):Op1 P o E H K:=by
 refine Op1.value (d:= .is (.int k (ZgX k a b))) (fun w L0 ε hi hx=>?_) hk
 have h1:=hx x (by simp[ho,Op.operands])
 have h2:=hx y (by simp[ho,Op.operands])
 rw[ha]at h1;rw[hb]at h2
 have h1':ε x= .int k a:=h1
 have h2':ε y= .int k' b:=h2
 have hg:(eqGuard .shr t x y (.int k a) (.int k' b)).run P w= .ok () w:=z'U trivial
 refine⟨.int k (ZgX k a b),?_,rfl⟩
 simp only[execOp,ho,h1',h2']
 rw[z'a (a:=Value.int k (ZgX k a b)) (w':=w) (by rw[z'a hg];simp only[binOp,Op.shift];rw[if_neg (by omega)];rfl)]
 rfl
def ZdV (op:BinOp) (x y:G):Option G:=match op,x,y with
 | .xor,.int k a,.int k' b=>match decide (k'=k)with|true=>some (.int k (Zg9 k a b))|false=>none
 | .and,.int k a,.int k' b=>match decide (k'=k)with|true=>some (.int k (ZfN k a b))|false=>none
 | .shr,.int k a,.int _ b=>match decide (0≤b)with|true=>some (.int k (ZgX k a b))|false=>none
 |_,_,_=>none
theorem Zjn {op:BinOp} {x y g:G} (h:ZdV op x y=some g) {lo:Nat→Prop} {hi:Nat}:Bel lo hi g:=by
 unfold ZdV at h
 split at h
 ·split at h<;>cases h;exact Bel.int
 ·split at h<;>cases h;exact Bel.int
 ·split at h<;>cases h;exact Bel.int
 ·cases h
theorem Zkh {P:Program} {op:BinOp} {t u:TypeId} {gx gy g:G} {o:Oper} {x y:Operand} {env:Env} {σ:Nm} {H:Heap} {K:D→Heap→Prop} (ho:o.op= .binOp op t x y u) (h:ZdV op gx gy=some g) (h1:evD (cE σ env) x=gx.d σ) (h2:evD (cE σ env) y=gy.d σ) (hk:K (g.d σ) H):Op1 P o (evD (cE σ env)) H K:=by
 unfold ZdV at h
 split at h
 ·split at h
  ·rename_i hq;simp only[decide_eq_true_eq]at hq;subst hq;cases h;exact Znl ho h1 h2 hk
  ·cases h
 ·split at h
  ·rename_i hq;simp only[decide_eq_true_eq]at hq;subst hq;cases h;exact Znc ho h1 h2 hk
  ·cases h
 ·split at h
  ·rename_i hq;simp only[decide_eq_true_eq]at hq;cases h;exact Znj ho h1 h2 hq hk
  ·cases h
 ·cases h
noncomputable def ZcX {P:Program} (T:Tab P) (env:Env) (c:Operand) (a:Operand) (b:Operand):Option G:=match gX env c,gX env a,gX env b with
 |some c,some a,some b=>Zd6 c a b
 |_,_,_=>none
noncomputable def ZbS {P:Program} (T:Tab P) (env:Env) (op:BinOp) (t:TypeId) (x:Operand) (y:Operand):Option G:=match gX env x,gX env y with
 |some (.agg xs),some (.agg ys)=>match Zko P t xs ys with
  |some r=>match x'g op r with|some r'=>some (.bool r')|none=>none
  |none=>none
 |some (.ifc u a),some gy=>gIf P op t y (.ifc u a) gy
 |some (.val .nilIface),some gy=>gIf P op t y (.val .nilIface) gy
 |some (.ptr _ _),some (.val (.pointer none))=>Zak P op t false
 |some (.val (.pointer none)),some (.val (.pointer none))=>Zak P op t true
 |some x,some y=>match Zf1 (kdT (T.get t)) op x y with
  |some g=>some g
  |none=>ZdV op x y
 |_,_=>none
noncomputable def ZcY {P:Program} (T:Tab P) (env:Env) (op:UnOp) (x:Operand):Option G:=match gX env x with|some x=>gUn op x|none=>none
noncomputable def v'i {P:Program} (T:Tab P) (env:Env) (t:TypeId) (x:Operand) (f:Nat):Option G:=match gX env x with|some x=>v'f (fieldAt (kdT (T.get t)) f) x|none=>none
noncomputable def ZbV {P:Program} (T:Tab P) (env:Env) (t:TypeId) (x:Operand) (f:Nat):Option G:=match gX env x with|some x=>Zcl (fieldAt (kdT (T.get t)) f) x|none=>none
theorem ZjT {P:Program} (T:Tab P) {o:Oper} {E:Operand→D} {H:Heap} {K:D→Heap→Prop} {t:TypeId} {x i:Operand} {e:TypeId} {esz eb:Nat} {ea:Bool} {ez:List Value} {b f n cap:Nat} {ik:IntKind} {k:Int}
  (ho:o.op= .indexAddr t x i) (hkd:kdT (T.get t)= .slice e esz eb ea ez) (hx0:E x= .os b f n cap) (hi0:E i= .is (.int ik k)) (hn:0≤k∧k<n) (hk:K (.is (.pointer (some ⟨b,f+k.toNat*esz,none⟩))) H):Op1 P o E H K:=by
 obtain⟨hu,hkn,hsz,_⟩:=y'J T hkd
 obtain⟨d,inf,z,h1,h2,h3,h4,_⟩:=y'g hkn
 rw[hsz]at h4
 refine Op1.value (d:= .is (.pointer (some ⟨b,f+k.toNat*esz,none⟩))) (fun w L0 ε hi hx=>?_) hk
 have q1:=hx x (by simp[ho,Op.operands])
 have q2:=hx i (by simp[ho,Op.operands])
 rw[hx0,Rel]at q1
 rw[hi0]at q2
 obtain⟨f',hv,hc,hf⟩:=q1
 obtain rfl:f'=f:=hf (by omega)
 have q2:ε i= .int ik k:=q2
 refine⟨_,?_,rfl⟩
 simp only[execOp,ho,hv,q2,Instr.indexAt]
 refine(z'a (a:= .pointer (some ⟨b,f'+k.toNat*esz,none⟩)) (w':=w) ?_).trans rfl
 refine(z'a (a:=(ik,k)) (w':=w) rfl).trans ?_
 simp only
 rw[z'a (run_underlying hu w)]
 simp only
 refine(z'a (a:=(some (⟨b,f',none⟩:Addr),n,e)) (w':=w) rfl).trans ?_
 simp only
 rw[z'a (run_underlying hu w)]
 simp only
 rw[if_pos ⟨hn.1,hn.2⟩,z'a (x'X h2 w),h4,w'm]
 rfl
theorem Bel.off_ptr {lo:Nat→Prop} {hi:Nat} {b o n c o':Nat} (h:Bel lo hi (.off b o n c)):Bel lo hi (.ptr b o'):=fun σ τ k=>by
 have:=h σ τ k
 simp only[G.d,D.os.injEq]at this
 simp only[G.d,this.1]
noncomputable def Zbm (kd:Kd) (x i:G):Option G:=match kd,x,i with
 | .slice _ esz _ _ _,.off b o len _,.int _ n=>match ixN len n with
  |some j=>some (.ptr b (o+j*esz))
  |none=>none
 |_,_,_=>none
theorem Ziw {P:Program} (T:Tab P) {o:Oper} {E:Operand→D} {t:TypeId} {x i:Operand} {gx gi g:G} {σ:Nm} {H:Heap} {K:D→Heap→Prop} (ho:o.op= .indexAddr t x i) (hx:E x=gx.d σ) (hi:E i=gi.d σ) (h:Zbm (kdT (T.get t)) gx gi=some g) (hk:K (g.d σ) H):Op1 P o E H K:=by
 unfold Zbm at h
 split at h
 ·rename_i hkd
  split at h
  ·rename_i hix
   cases h
   obtain⟨rfl,hlt⟩:=Zcy hix
   exact ZjT T ho hkd hx hi ⟨by omega,by omega⟩ (by rw[z'D];exact hk)
  ·cases h
 ·cases h
theorem Zhi {kd:Kd} {x i g:G} (h:Zbm kd x i=some g) {lo:Nat→Prop} {hi:Nat} (hx:Bel lo hi x):Bel lo hi g:=by
 unfold Zbm at h
 split at h
 ·split at h
  ·cases h;exact hx.off_ptr
  ·cases h
 ·cases h
noncomputable def v'j {P:Program} (T:Tab P) (env:Env) (t:TypeId) (x:Operand) (i:Operand):Option G:=match gX env x,gX env i with
 |some x,some i=>match kdT (T.get t)with
  | .array n esz _=>ZeB n esz x i
  |kd=>match v'h kd x i with|some g=>some g|none=>Zbm kd x i
 |_,_=>none
noncomputable def ZbW {P:Program} (T:Tab P) (env:Env) (t:TypeId) (x:Operand) (i:Operand):Option G:=match gX env x,gX env i with
 |some x,some i=>Zcm (kdT (T.get t)) x i
 |_,_=>none
noncomputable def Zad {P:Program} (T:Tab P) (env:Env) (x:Operand) (i:Nat):Option G:=match gX env x with|some x=>Zat x i|none=>none
noncomputable def v'K {P:Program} (T:Tab P) (env:Env) (x:Operand):Option G:=match gX env x with|some x=>Zgi x|none=>none
noncomputable def ZbT {P:Program} (T:Tab P) (env:Env) (t:TypeId) (ps:Array (Nat×Operand)):Option G:=match kdT (T.get t)with
 | .array n esz _=>Zbj n esz (T.get t) env ps.toList
 |_=>Zci (T.get t) env ps.toList
noncomputable def w'X {P:Program} (T:Tab P) (env:Env) (t:TypeId) (n:Nat) (ps:Array (Nat×Operand)):Option G:=w'Q (kdT (T.get t)) n env ps.toList
noncomputable def ZbX {P:Program} (T:Tab P) (env:Env) (t:TypeId) (x:Operand) (lo:Option Operand) (hi:Option Operand) (mx:Option Operand):Option G:=match gX env x,gXo env lo,gXo env hi,gXo env mx with
 |some x,some lo,some hi,some mx=>Zcs (kdT (T.get t)) x lo hi mx
 |_,_,_,_=>none
noncomputable def ZbU {P:Program} (T:Tab P) (env:Env) (t:TypeId) (u:TypeId) (x:Operand):Option G:=match gX env x with|some x=>ZcS (kdElem T.get (kdT (T.get t))) (kdT (T.get t)) (kdT (T.get u)) x|none=>none
noncomputable def x'5 {P:Program} (T:Tab P) (env:Env) (t:TypeId) (x:Operand):Option G:=match gX env x with|some x=>ZiB P t x|none=>none
noncomputable def v'J {P:Program} (T:Tab P) (env:Env) (fn:Fn) (first:Array Operand) (cs:Array Operand):Option G:=match gXs env cs.toList with|some gs=>Zkv fn first.toList gs|none=>none
noncomputable def ZeI {P:Program} (T:Tab P) (env:Env) (c:Call):Option G:=match c with
 |⟨.builtin .len,az,ts⟩=>match az.toList,ts.toList with
  |[x],[t]=>match gX env x with|some x=>ZeD (kdT (T.get t)) x|none=>none
  |_,_=>none
 |⟨.builtin .max,az,ts⟩=>match az.toList with
  |[x,y]=>match gX env x,gX env y with
   |some x,some y=>Zcn x y
   |_,_=>none
  |[x,y,z]=>match gX env x,gX env y,gX env z with
   |some x,some y,some z=>match Zcn x y with|some u=>Zcn u z|none=>none
   |_,_,_=>none
  |_=>none
 |⟨.builtin .min,az,ts⟩=>match az.toList with
  |[x,y]=>match gX env x,gX env y with
   |some x,some y=>ZiA x y
   |_,_=>none
  |_=>none
 |_=>none
theorem Zn3 {P:Program} {o:Oper} {E:Operand→D} {H:Heap} {K:D→Heap→Prop} {x:Operand} {xT t:TypeId} {d:D} {ds:TypeDesc} (ho:o.op= .typeAssert x xT t true) (hE:E x= .ifc t d) (hu:P.underlying t=some ds) (hd: ∀ms,ds≠ .interface ms) (hk:K (.tup [d,.is (.bool true)]) H):Op1 P o E H K:=by
 refine Op1.value (d:= .tup [d,.is (.bool true)]) (fun w L0 ε hi hx=>?_) hk
 have r1:=hx x (by simp[ho,Op.operands])
 rw[hE]at r1
 obtain⟨v,hv,hr⟩:=r1
 refine⟨.tuple #[v,.bool true],?_,_,rfl,v,_,rfl,hr,_,_,rfl,rfl,rfl⟩
 simp only[execOp,ho,Instr.typeAssert,hv]
 refine(z'a (a:= .tuple #[v,.bool true]) (w':=w) ?_).trans rfl
 rw[z'a (run_underlying hu w)]
 cases ds<;>first|exact absurd rfl (hd _)|(simp only[if_true];rfl)
theorem Zn2 {P:Program} {o:Oper} {E:Operand→D} {H:Heap} {K:D→Heap→Prop} {x:Operand} {xT t u:TypeId} {d:D} {ds:TypeDesc} {i:TypeInfo} {z:Value} (ho:o.op= .typeAssert x xT t true) (hE:E x= .ifc u d) (hne:u≠t) (hu:P.underlying t=some ds) (hd: ∀ms,ds≠ .interface ms) (hi:P.info? t=some i) (hz:i.zero=some z) (hk:K (.tup [constD z,.is (.bool false)]) H):Op1 P o E H K:=by
 refine Op1.value (d:= .tup [constD z,.is (.bool false)]) (fun w L0 ε hi' hx=>?_) hk
 have r1:=hx x (by simp[ho,Op.operands])
 rw[hE]at r1
 obtain⟨v,hv,hr⟩:=r1
 refine⟨.tuple #[z,.bool false],?_,_,rfl,z,_,rfl,v'd _ _ z,_,_,rfl,rfl,rfl⟩
 simp only[execOp,ho,Instr.typeAssert,hv]
 have hzv:(zeroValue t).run P w= .ok z w:=by unfold zeroValue;rw[z'a (w'x hi w),hz];rfl
 refine(z'a (a:= .tuple #[z,.bool false]) (w':=w) ?_).trans rfl
 rw[z'a (run_underlying hu w)]
 cases ds<;>first|exact absurd rfl (hd _)|(simp only[if_neg hne,if_true];rw[z'a hzv];rfl)
def Zlq:TypeDesc→Bool
 | .interface _=>true
 |_=>false
noncomputable def w'g {P:Program} (T:Tab P) (env:Env) (x:Operand) (t:TypeId):Option G:=match gX env x,P.underlying t,(P.info? t).bind (·.zero)with
 |some (.ifc u g),some ds,some z=>match Zlq ds,Nat.beq u t with
  |false,true=>some (.tup [g,.bool true])
  |false,false=>match gC z with|some z'=>some (.tup [z',.bool false])|none=>none
  |true,_=>none
 |_,_,_=>none
theorem Zdx {P:Program} (T:Tab P) {env:Env} {o:Oper} {x:Operand} {xT t:TypeId} {g:G} (ho:o.op= .typeAssert x xT t true) (h:w'g T env x t=some g) {σ:Nm} {H:Heap} {K:D→Heap→Prop} (hk:K (g.d σ) H):Op1 P o (evD (cE σ env)) H K:=by
 unfold w'g at h
 split at h
 ·rename_i u g0 ds z h1 hu hz
  obtain⟨i,hi,hz'⟩: ∃i,P.info? t=some i∧i.zero=some z:=by
   cases hq:P.info? t with
   |none=>rw[hq]at hz;cases hz
   |some i=>rw[hq]at hz;exact⟨i,rfl,hz⟩
  have hE:evD (cE σ env) x= .ifc u (g0.d σ):=z'u h1 σ
  have hd:Zlq ds=false→ ∀ms,ds≠ .interface ms:=fun hq ms hm=>by subst hm;cases hq
  split at h
  ·rename_i q1 q2
   cases h
   have e:=z'd q2
   subst e
   exact Zn3 ho hE hu (hd q1) hk
  ·rename_i q1 q2
   split at h
   ·rename_i z' hc
    cases h
    refine Zn2 ho hE (fun e=>by rw[e]at q2;simp at q2) hu (hd q1) hi hz' ?_
    rw[ZdX hc σ]
    exact hk
   ·cases h
  ·cases h
 ·cases h
theorem Zdd {P:Program} (T:Tab P) {env:Env} {x:Operand} {t:TypeId} {g:G} (h:w'g T env x t=some g) {lo:Nat→Prop} {hi:Nat} (he:BelE lo hi env):Bel lo hi g:=by
 unfold w'g at h
 have two: ∀a:G,Bel lo hi a→ ∀b,Bel lo hi (.tup [a,.bool b]):=fun a ha b=>Bel.tup fun x hx=>by
  rcases z'p.1 hx with rfl|hx
  ·exact ha
  ·rw[y'h]at hx;subst hx;exact Bel.bool
 split at h
 ·rename_i u g0 ds z h1 hu hz
  split at h
  ·cases h
   refine two g0 (fun σ τ k=>?_) _
   have:=y'q h1 he σ τ k
   simp only[G.d,D.ifc.injEq,true_and]at this
   exact this
  ·split at h
   ·rename_i z' hc;cases h;exact two z' (Zf3 hc) _
   ·cases h
  ·cases h
 ·cases h
noncomputable def Zdy {P:Program} (T:Tab P) (env:Env) (op:Op):Option G:=match op with
 | .move x=>gX env x
 | .assign x=>gX env x
 | .pick c a b=>ZcX T env c a b
 | .binOp op t x y _=>ZbS T env op t x y
 | .unOp op _ x=>ZcY T env op x
 | .fieldAddr t x f=>v'i T env t x f
 | .field t x f=>ZbV T env t x f
 | .indexAddr t x i=>v'j T env t x i
 | .index t x i=>ZbW T env t x i
 | .extract x i=>Zad T env x i
 | .nilCheck x=>v'K T env x
 | .build t ps=>ZbT T env t ps
 | .buildSlice t n ps=>w'X T env t n ps
 | .slice t x lo hi mx=>ZbX T env t x lo hi mx
 | .convert t u x=>ZbU T env t u x
 | .makeInterface t x=>x'5 T env t x
 | .makeFunc fn first cs=>v'J T env fn first cs
 | .call c=>ZeI T env c
 | .typeAssert x _ t true=>w'g T env x t
 |_=>none
theorem ZeJ {P:Program} (T:Tab P) {env:Env} {o:Oper} {g:G} (h:Zdy T env o.op=some g) {σ:Nm} {H:Heap} {K:D→Heap→Prop} (hk:K (g.d σ) H):Op1 P o (evD (cE σ env)) H K:=by
 unfold Zdy at h
 split at h
 ·rename_i ho;exact Zei (.inl ho) (by rw[z'u h];exact hk)
 ·rename_i ho;exact Zei (.inr ho) (by rw[z'u h];exact hk)
 ·rename_i ho
  unfold ZcX at h
  split at h
  ·rename_i h1 h2 h3;exact ZjX ho (by rw[z'u h1,z'u h2,z'u h3];exact Zkz h hk)
  ·cases h
 ·rename_i ho
  unfold ZbS at h
  split at h
  ·rename_i h1 h2
   split at h
   ·rename_i r hr
    split at h
    ·rename_i r' hr'
     cases h
     obtain⟨q1,q2,q3⟩:=ZlW hr σ
     exact Op1.eqS ho q1 (by rw[z'u h1,G.d,G.dl_eq,q2]) (by rw[z'u h2,G.d,G.dl_eq,q3]) hr' hk
    ·cases h
   ·cases h
  ·rename_i h1 h2;exact Zjv ho h (z'u h1 σ) (z'u h2 σ) hk
  ·rename_i h1 h2;exact Zjv ho h (z'u h1 σ) (z'u h2 σ) hk
  ·rename_i h1 h2;exact Zd7 ho h rfl (z'u h1 σ) (z'u h2 σ) hk
  ·rename_i h1 h2;exact Zd7 ho h rfl (z'u h1 σ) (z'u h2 σ) hk
  ·rename_i h1 h2
   split at h
   ·rename_i hb;cases h;exact Zlv T ho (by rw[z'u h1,z'u h2];exact ZlT hb hk)
   ·exact Zkh ho h (z'u h1 σ) (z'u h2 σ) hk
  ·cases h
 ·rename_i ho
  unfold ZcY at h
  split at h
  ·rename_i h1;exact Znk ho (by rw[z'u h1];exact ZmL h hk)
  ·cases h
 ·rename_i ho
  unfold v'i at h
  split at h
  ·rename_i h1;exact Zdj T ho (by rw[z'u h1];exact Zfr h hk)
  ·cases h
 ·rename_i ho
  unfold ZbV at h
  split at h
  ·rename_i h1;exact ZhR T ho (by rw[z'u h1];exact Zju h hk)
  ·cases h
 ·rename_i ho
  unfold v'j at h
  split at h
  ·rename_i h1 h2
   split at h
   ·rename_i n esz ea hkd
    unfold ZeB at h
    split at h
    ·split at h
     ·rename_i hix
      cases h
      obtain⟨rfl,hlt⟩:=Zcy hix
      exact ZkV T ho hkd (z'u h1 σ) (z'u h2 σ) (by omega) (by rw[z'D];exact hk)
     ·cases h
    ·cases h
   ·split at h
    ·rename_i hg;cases h;exact Zdk T ho (by rw[z'u h1,z'u h2];exact Zfs hg hk)
    ·exact Ziw T ho (z'u h1 σ) (z'u h2 σ) h hk
  ·cases h
 ·rename_i ho
  unfold ZbW at h
  split at h
  ·rename_i h1 h2;exact ZhT T ho (by rw[z'u h1,z'u h2];exact Zjw h hk)
  ·cases h
 ·rename_i ho
  unfold Zad at h
  split at h
  ·rename_i h1;exact Zfk ho (by rw[z'u h1];exact Zhh h hk)
  ·cases h
 ·rename_i ho
  unfold v'K at h
  split at h
  ·rename_i h1;exact Zly ho (by rw[z'u h1];exact Zl0 h hk)
  ·cases h
 ·rename_i t ps ho
  unfold ZbT at h
  split at h
  ·rename_i n esz ea hkd;exact Zio T (ps:=ps.toList) (by simpa using ho) hkd h hk
  ·exact ZhQ T (ps:=ps.toList) (by simpa using ho) (Zjp h hk)
 ·rename_i t n ps ho
  unfold w'X at h
  exact ZcE T (ps:=ps.toList) (by simpa using ho) (Zev h hk)
 ·rename_i ho
  unfold ZbX at h
  split at h
  ·rename_i h1 h2 h3 h4;exact ZhW T ho (by rw[z'u h1,Zcu h2,Zcu h3,Zcu h4];exact ZjA h hk)
  ·cases h
 ·rename_i ho
  unfold ZbU at h
  split at h
  ·rename_i h1;exact ZeW T ho (by rw[z'u h1];exact Zf5 h hk)
  ·cases h
 ·rename_i ho
  unfold x'5 at h
  split at h
  ·rename_i h1;exact Zlx ho (by rw[z'u h1];exact ZlZ h hk)
  ·cases h
 ·rename_i fn first cs ho
  unfold v'J at h
  split at h
  ·rename_i gs h1
   unfold Zkv at h
   split at h
   ·rename_i f hf
    split at h
    ·rename_i hv
     cases h
     have hf':first= #[]:=by rw[←Array.toList_inj];exact hf
     subst hf'
     refine ZkX (cs:=cs.toList) (us:=gs.map (G.v σ)) (by simpa using ho) ?_ hk
     rw[v'k σ h1,List.map_map]
     exact z'R fun g hg=>G.isV_d (z'h.1 hv g hg)
    ·cases h
   ·cases h
  ·cases h
 ·rename_i c ho
  unfold ZeI at h
  split at h
  ·rename_i az ts
   split at h
   ·rename_i x t hx ht
    have e1:az= #[x]:=by rw[←Array.toList_inj];exact hx
    have e2:ts= #[t]:=by rw[←Array.toList_inj];exact ht
    subst e1;subst e2
    split at h
    ·rename_i h1;exact ZiR T ho (by rw[z'u h1];exact ZhC h hk)
    ·cases h
   ·cases h
  ·rename_i az ts
   split at h
   ·rename_i x y hx
    have e1:az= #[x,y]:=by rw[←Array.toList_inj];exact hx
    subst e1
    split at h
    ·rename_i h1 h2
     unfold Zcn at h
     split at h
     ·split at h
      ·rename_i hkk
       cases h
       simp only[decide_eq_true_eq]at hkk
       subst hkk
       exact Znh ho (z'u h1 σ) (z'u h2 σ) hk
      ·cases h
     ·cases h
    ·cases h
   ·rename_i x y z hx
    have e1:az= #[x,y,z]:=by rw[←Array.toList_inj];exact hx
    subst e1
    split at h
    ·rename_i h1 h2 h3
     split at h
     ·rename_i u hu
      obtain⟨k,a,b,rfl,rfl,rfl⟩:=Zgf hu
      obtain⟨k',a',c,e1,rfl,rfl⟩:=Zgf h
      obtain⟨rfl,rfl⟩:=G.int.inj e1
      exact Zmj ho (z'u h1 σ) (z'u h2 σ) (z'u h3 σ) hk
     ·cases h
    ·cases h
   ·cases h
  ·rename_i az ts
   split at h
   ·rename_i x y hx
    have e1:az= #[x,y]:=by rw[←Array.toList_inj];exact hx
    subst e1
    split at h
    ·rename_i h1 h2
     unfold ZiA at h
     split at h
     ·split at h
      ·rename_i hkk
       cases h
       simp only[decide_eq_true_eq]at hkk
       subst hkk
       exact Zni ho (z'u h1 σ) (z'u h2 σ) hk
      ·cases h
     ·cases h
    ·cases h
   ·cases h
  ·cases h
 ·rename_i ho;exact Zdx T ho h hk
 ·cases h
theorem Zdz {P:Program} (T:Tab P) {env:Env} {op:Op} {g:G} (h:Zdy T env op=some g) {lo:Nat→Prop} {hi:Nat} (he:BelE lo hi env):Bel lo hi g:=by
 unfold Zdy at h
 split at h
 ·exact y'q h he
 ·exact y'q h he
 ·unfold ZcX at h
  split at h
  ·rename_i h1 h2 h3;exact Zjy h (y'q h2 he) (y'q h3 he)
  ·cases h
 ·unfold ZbS at h
  split at h
  ·split at h
   ·split at h
    ·cases h;exact Bel.bool
    ·cases h
   ·cases h
  ·exact Zhz h
  ·exact Zhz h
  ·exact Zdh h
  ·exact Zdh h
  ·split at h
   ·rename_i hb;cases h;exact Zkg hb
   ·exact Zjn h
  ·cases h
 ·unfold ZcY at h
  split at h
  ·exact Zl3 h
  ·cases h
 ·unfold v'i at h
  split at h
  ·rename_i h1;exact Zez h (y'q h1 he)
  ·cases h
 ·unfold ZbV at h
  split at h
  ·rename_i h1;exact Zit h (y'q h1 he)
  ·cases h
 ·unfold v'j at h
  split at h
  ·rename_i h1 h2
   split at h
   ·unfold ZeB at h
    split at h
    ·split at h
     ·cases h;exact(y'q h1 he).ptr_o
     ·cases h
    ·cases h
   ·split at h
    ·rename_i hg;cases h;exact ZeC hg (y'q h1 he)
    ·exact Zhi h (y'q h1 he)
  ·cases h
 ·unfold ZbW at h
  split at h
  ·exact Zix h
  ·cases h
 ·unfold Zad at h
  split at h
  ·rename_i h1;exact Zf7 h (y'q h1 he)
  ·cases h
 ·unfold v'K at h
  split at h
  ·rename_i h1;exact Zkx h (y'q h1 he)
  ·cases h
 ·unfold ZbT at h
  split at h
  ·exact Zhg h he
  ·exact Zip h he
 ·unfold w'X at h
  exact ZdW h he
 ·unfold ZbX at h
  split at h
  ·rename_i h1 h2 h3 h4;exact ZiE h (y'q h1 he)
  ·cases h
 ·unfold ZbU at h
  split at h
  ·exact Zjs h
  ·cases h
 ·unfold x'5 at h
  split at h
  ·rename_i h1
   unfold ZiB at h
   split at h<;>cases h
   exact Bel.ifc (y'q h1 he)
  ·cases h
 ·unfold v'J at h
  split at h
  ·rename_i gs h1
   unfold Zkv at h
   split at h
   ·split at h
    ·rename_i hv;cases h;exact Bel.fn hv (Zam he h1)
    ·cases h
   ·cases h
  ·cases h
 ·unfold ZeI at h
  split at h
  ·split at h
   ·split at h
    ·exact Zgb h
    ·cases h
   ·cases h
  ·split at h
   ·split at h
    ·exact Zge h
    ·cases h
   ·split at h
    ·split at h
     ·exact Zge h
     ·cases h
    ·cases h
   ·cases h
  ·split at h
   ·split at h
    ·exact Zku h
    ·cases h
   ·cases h
  ·cases h
 ·exact Zdd T h he
 ·cases h
end Go.Vc
