/- Calls at fixed data, reckoned out: one operation that makes a value. No condition. -/
import Derived.Test.YthlkpnjjkgmlkaaGreatEb
namespace Go.Vc
set_option linter.unusedSimpArgs false
set_option linter.unusedVariables false
open Go
def Zcp (x:Option G) (dflt top:Nat):Option Nat:=match x with
 |none=>some dflt
 |some (.int _ (.ofNat n))=>match Nat.ble n top with|true=>some n|false=>none
 |_=>none
theorem Za4 {x:Option G} {dflt top n:Nat} (h:Zcp x dflt top=some n) (hd:dflt≤top) (σ:Nm):dC (x.map (G.d σ)) top∧dV (x.map (G.d σ)) dflt=n∧n≤top:=by
 unfold Zcp at h
 split at h
 ·cases h;exact⟨trivial,rfl,hd⟩
 ·split at h
  ·rename_i hb
   cases h
   have:=z'x hb
   refine⟨?_,rfl,this⟩
   simp only[y'w,G.d,dC,Int.ofNat_eq_natCast]
   omega
  ·cases h
 ·cases h
theorem ZoC {x:G} {dflt top n:Nat} (h:Zcp (some x) dflt top=some n) (σ:Nm):dV (some (x.d σ)) 0=n:=by
 cases x with
 |int k m=>cases m with
  |ofNat m=>simp only[Zcp]at h;split at h<;>cases h;rfl
  |negSucc m=>cases h
 |_=>cases h
theorem ZlB (s:List UInt8) (a b:Nat):(x'I s).extract a b=x'I ((s.take b).drop a):=by
 apply ByteArray.ext
 simp[x'I,ByteArray.extract,ByteArray.copySlice,List.extract_eq_take_drop,List.drop_take]
def Zfi (kd:Kd) (x:G) (lo hi mx:Option G):Option G:=match mx with
 |some _=>none
 |none=>match kd,x with
  | .str,.str s=>match Zcp hi s.length s.length with
   |some h=>match Zcp lo 0 h with|some l=>some (.str ((s.take h).drop l))|none=>none
   |none=>none
  | .slice _ esz _ _ _,.sl full esz' rows=>match Nat.beq esz' esz,Zcp hi rows.length rows.length with
   |true,some h=>match Zcp lo 0 h with
    |some l=>match hi with|none=>some (.sl full esz (rows.drop l))|some _=>some (.sl false esz ((rows.take h).drop l))
    |none=>none
   |_,_=>none
  | .slice _ esz _ _ _,.own b n=>match Zcp hi n n with
   |some h=>match Zcp lo 0 h with
    |some l=>match lo with|none=>some (.own b h)|some _=>some (.off b (l*esz) (h-l) l)
    |none=>none
   |none=>none
  | .slice ..,.nils=>match Zcp hi 0 0,Zcp lo 0 0 with|some _,some _=>some .nils|_,_=>none
  |_,_=>none
theorem ZoL {kd:Kd} {x g:G} {lo hi mx:Option G} (h:Zfi kd x lo hi mx=some g) {σ:Nm} {K:D→Prop} (hk:K (g.d σ)):cSlice kd (x.d σ) (lo.map (G.d σ)) (hi.map (G.d σ)) (mx.map (G.d σ)) K:=by
 unfold Zfi at h
 split at h
 ·cases h
 split at h
 ·rename_i s
  split at h
  ·rename_i hh e1
   split at h
   ·rename_i ll e2
    cases h
    obtain⟨a1,a2,a3⟩:=Za4 e1 (z'f _) σ
    obtain⟨b1,b2,b3⟩:=Za4 e2 (y'f _) σ
    simp only[G.d,cSlice,y'3,Zae,a2]
    exact⟨⟨a1,b1⟩,by rw[b2,ZlB];exact hk⟩
   ·cases h
  ·cases h
 ·rename_i e esz eb ea ez full esz' rows
  split at h
  ·rename_i hh hb e1
   split at h
   ·rename_i ll e2
    obtain⟨a1,a2,a3⟩:=Za4 e1 (z'f _) σ
    obtain⟨b1,b2,b3⟩:=Za4 e2 (y'f _) σ
    simp only[G.d,cSlice,y'3,G.dr_eq,z'i]
    refine⟨⟨z'r hb,trivial,a1,by rw[a2];exact b1⟩,?_⟩
    cases hi with
    |none=>
     cases h
     simp only[y'3,G.d,G.dr_eq, ←List.map_drop]at hk⊢
     rw[show dV (Option.map (G.d σ) lo) 0=ll from b2];exact hk
    |some hg=>
     cases h
     simp only[y'w,G.d,G.dr_eq]at hk a2⊢
     have a2':dV (some (G.d σ hg)) 0=hh:=ZoC e1 σ
     rw[a2',show dV (Option.map (G.d σ) lo) 0=ll from b2, ←List.map_take, ←List.map_drop];exact hk
   ·cases h
  ·cases h
 ·rename_i e esz eb ea ez b n
  split at h
  ·rename_i hh e1
   split at h
   ·rename_i ll e2
    obtain⟨a1,a2,a3⟩:=Za4 e1 (z'f _) σ
    obtain⟨b1,b2,b3⟩:=Za4 e2 (y'f _) σ
    have hs:G.d σ (.own b n)= .gs (some ((σ b).1,(σ b).2)) n:=rfl
    rw[hs]
    simp only[cSlice,y'3]
    refine⟨⟨a1,by rw[a2];exact b1⟩,?_⟩
    cases lo with
    |none=>cases h;simp only[y'3];rw[a2];exact hk
    |some lg=>
     cases h
     simp only[y'w]at b2⊢
     rw[a2,b2];exact hk
   ·cases h
  ·cases h
 ·split at h
  ·rename_i e1 e2
   cases h
   obtain⟨a1,a2,a3⟩:=Za4 e1 (z'f _) σ
   obtain⟨b1,b2,b3⟩:=Za4 e2 (z'f _) σ
   exact⟨⟨a1,b1⟩,hk⟩
  ·cases h
 ·cases h
theorem ZnG {kd:Kd} {x g:G} {lo hi mx:Option G} (h:Zfi kd x lo hi mx=some g) {a:Nat→Prop} {b:Nat} (hx:Bel a b x):Bel a b g:=by
 unfold Zfi at h
 split at h
 ·cases h
 split at h
 ·split at h
  ·split at h<;>cases h;exact fun _ _ _=>rfl
  ·cases h
 ·split at h
  ·split at h
   ·split at h<;>cases h
    ·exact Bel.sl fun r hr=>hx.sl_r r (List.mem_of_mem_drop hr)
    ·exact Bel.sl fun r hr=>hx.sl_r r (x'L (List.mem_of_mem_drop hr))
   ·cases h
  ·cases h
 ·split at h
  ·split at h
   ·split at h<;>cases h
    ·exact hx.own_n
    ·exact hx.own_off
   ·cases h
  ·cases h
 ·split at h<;>cases h;exact fun _ _ _=>rfl
 ·cases h
def ZhB (k:IntKind):List (List G)→Option (List Int)
 |[]=>some []
 |[.int j n]::r=>match kTag j == kTag k,ZhB k r with
  |true,some l=>some (n::l)
  |_,_=>none
 |_::_=>none
theorem Zkx {k:IntKind} (σ:Nm) {rows:List (List G)} {l:List Int} (h:ZhB k rows=some l):numsOf k (rows.map (·.map (G.d σ)))=some l:=by
 induction rows generalizing l with
 |nil=>cases h;rfl
 |cons row r ih=>
  unfold ZhB at h
  split at h
  ·rename_i e;cases e
  ·rename_i j n r' e
   cases e
   split at h
   ·rename_i l' h1 h2
    cases h
    simp only[z'm,z'8,G.d,numsOf,h1,ih h2]
   ·cases h
  ·cases h
def ZfR (ke a b:Kd) (x:G):Option G:=match a,b,x with
 | .int _,.int k,.int _ n=>some (.int k (k.wrap n))
 | .slice _ _ _ _ _,.str,.sl _ 1 rows=>match ke with
  | .int .i32=>match ZhB .i32 rows with|some ns=>some (.str (Zd3 ns).data.toList)|none=>none
  | .int .u8=>match ZhB .u8 rows with|some ns=>some (.str (w'H ns).data.toList)|none=>none
  |_=>none
 | .str,.str,.str s=>some (.str s)
 |_,_,_=>none
theorem Zki {ke a b:Kd} {x g:G} (h:ZfR ke a b x=some g) {σ:Nm} {K:D→Prop} (hk:K (g.d σ)):cConvS ke a b (x.d σ) K:=by
 unfold ZfR at h
 split at h
 ·cases h;exact hk
 ·split at h
  ·split at h
   ·rename_i e;cases h
    simp only[G.d,G.dr_eq,cConvS,Zkx σ e];exact hk
   ·cases h
  ·split at h
   ·rename_i e;cases h
    simp only[G.d,G.dr_eq,cConvS,Zkx σ e];exact hk
   ·cases h
  ·cases h
 ·cases h;exact hk
 ·cases h
theorem ZoF {ke a b:Kd} {x g:G} (h:ZfR ke a b x=some g) {lo:Nat→Prop} {hi:Nat}:Bel lo hi g:=by
 unfold ZfR at h
 split at h
 ·cases h;exact fun _ _ _=>rfl
 ·split at h
  ·split at h<;>cases h;exact fun _ _ _=>rfl
  ·split at h<;>cases h;exact fun _ _ _=>rfl
  ·cases h
 ·cases h;exact fun _ _ _=>rfl
 ·cases h
def ZnD (P:Program) (t:TypeId) (x:G):Option G:=match P.underlying t with
 |some (.interface _)=>none
 |some _=>some (.ifc t x)
 |none=>none
theorem Zr3 {P:Program} {t:TypeId} {x g:G} (h:ZnD P t x=some g) {σ:Nm} {K:D→Prop} (hk:K (g.d σ)):ZpQ P t (x.d σ) K:=by
 unfold ZnD at h
 split at h
 ·cases h
 ·rename_i d hno hu
  cases h
  exact⟨⟨d,hu,fun ms e=>hno ms e⟩,hk⟩
 ·cases h
def Zij (kd:Kd) (x:G):Option G:=match kd,x with
 | .slice ..,.sl _ _ rows=>some (.int .i64 (Int.ofNat rows.length))
 | .slice ..,.own _ n=>some (.int .i64 (Int.ofNat n))
 | .slice ..,.nils=>some (.int .i64 (Int.ofNat 0))
 | .slice ..,.off _ _ n _=>some (.int .i64 (Int.ofNat n))
 | .str,.str s=>some (.int .i64 (Int.ofNat s.length))
 |_,_=>none
theorem Zmq {kd:Kd} {x g:G} (h:Zij kd x=some g) {σ:Nm} {K:D→Prop} (hk:K (g.d σ)):cLen kd (x.d σ) K:=by
 unfold Zij at h
 split at h<;>cases h
 ·simp only[G.d,G.dr_eq,cLen,z'i]at hk⊢;exact hk
 ·exact hk
 ·exact hk
 ·exact hk
 ·simp only[G.d,cLen,Zae]at hk⊢;exact hk
theorem Zkp {kd:Kd} {x g:G} (h:Zij kd x=some g) {lo:Nat→Prop} {hi:Nat}:Bel lo hi g:=by
 unfold Zij at h
 split at h<;>cases h<;>exact fun _ _ _=>rfl
def Zes (esz:Nat):Nat→List G→List (List G)
 |0,_=>[]
 |n+1,l=>l.take esz::Zes esz n (l.drop esz)
theorem ZbN (σ:Nm) (esz:Nat): ∀(n:Nat) (l:List G),w'U esz n (l.map (G.d σ))=(Zes esz n l).map (·.map (G.d σ))
 |0,l=>rfl
 |n+1,l=>by rw[w'U,Zes,z'm, ←List.map_take, ←List.map_drop,ZbN σ esz n]
theorem Zdk {lo:Nat→Prop} {hi:Nat} (esz:Nat): ∀(n:Nat) (l:List G),BelL lo hi l→BelR lo hi (Zes esz n l)
 |0,l,_,r,hr=>by cases hr
 |n+1,l,h,r,hr=>by
  rcases z't.1 hr with rfl|hr
  ·exact h.take _
  ·exact Zdk esz n _ (h.drop _) r hr
noncomputable def Zaz (kd:Kd) (n:Nat) (env:Env) (ps:List (Nat×Operand)):Option G:=match kd with
 | .slice e esz _ _ ez=>match ZbZ ez with
  |some z=>match Zdi env (fun i=>some (i*esz,esz)) (List.replicate n z).flatten ps with
   |some l=>match l.all Zeq&&Nat.ble (n*esz) 16777216 with|true=>some (.sl true esz (Zes esz n l))|false=>none
   |none=>none
  |none=>none
 |_=>none
theorem Zib {kd:Kd} {n:Nat} {env:Env} {ps:List (Nat×Operand)} {g:G} (h:Zaz kd n env ps=some g) {σ:Nm} {H:Heap} {K:D→Heap→Prop} (hk:K (g.d σ) H):
  cBuildSlice kd n (ps.map fun p=>(p.1,evD (cE σ env) p.2)) H K:=by
 unfold Zaz at h
 split at h
 ·split at h
  ·rename_i z hz
   split at h
   ·rename_i l hl
    split at h
    ·rename_i hb
     cases h
     rw[z'c]at hb
     have hf:=Zel σ ps _ l hl
     have e:((List.replicate n z).flatten).map (G.d σ)=(List.replicate n (z.map (G.d σ))).flatten:=by simp[List.map_flatten]
     rw[e]at hf
     simp only[cBuildSlice,ZbO hz σ,hf]
     exact⟨⟨ZaR hb.1 σ,z'x hb.2⟩,by rw[ZbN, ←G.dr_eq];exact hk⟩
    ·cases h
   ·cases h
  ·cases h
 ·cases h
theorem Zht {kd:Kd} {n:Nat} {env:Env} {ps:List (Nat×Operand)} {g:G} (h:Zaz kd n env ps=some g) {lo:Nat→Prop} {hi:Nat} (he:BelE lo hi env):Bel lo hi g:=by
 unfold Zaz at h
 split at h
 ·split at h
  ·rename_i z hz
   split at h
   ·rename_i l hl
    split at h
    ·cases h
     refine Bel.sl (Zdk _ _ _ (Zdj he ps _ l (fun g hg=>?_) hl))
     obtain⟨r,hr,hg⟩:=List.mem_flatten.1 hg
     exact Za6 hz g ((List.mem_replicate.1 hr).2▸hg)
    ·cases h
   ·cases h
  ·cases h
 ·cases h
noncomputable def gXs (env:Env):List Operand→Option (List G)
 |[]=>some []
 |x::r=>match gX env x with
  |some g=>match gXs env r with|some l=>some (g::l)|none=>none
  |none=>none
theorem Zce {env:Env} (σ:Nm): ∀{l:List Operand} {gs:List G},gXs env l=some gs→l.map (evD (cE σ env))=gs.map (G.d σ)
 |[],gs,h=>by cases h;rfl
 |x::r,gs,h=>by
  unfold gXs at h
  split at h
  ·rename_i g hg
   split at h
   ·rename_i l hl
    cases h
    rw[z'm,z'm,z'U hg σ,Zce σ hl]
   ·cases h
  ·cases h
theorem ZcD {env:Env} {lo:Nat→Prop} {hi:Nat} (he:BelE lo hi env): ∀{l:List Operand} {gs:List G},gXs env l=some gs→BelL lo hi gs
 |[],gs,h=>by cases h;intro g hg;cases hg
 |x::r,gs,h=>by
  unfold gXs at h
  split at h
  ·rename_i g hg
   split at h
   ·rename_i l hl
    cases h
    intro y hy
    rcases z't.1 hy with rfl|hy
    ·exact x'v hg he
    ·exact ZcD he hl y hy
   ·cases h
  ·cases h
noncomputable def gXo (env:Env):Option Operand→Option (Option G)
 |none=>some none
 |some x=>match gX env x with|some g=>some (some g)|none=>none
theorem Zfk {env:Env} {x:Option Operand} {g:Option G} (h:gXo env x=some g) (σ:Nm):x.map (evD (cE σ env))=g.map (G.d σ):=by
 unfold gXo at h
 split at h
 ·cases h;rfl
 ·split at h
  ·rename_i hg;cases h;rw[y'w,y'w,z'U hg σ]
  ·cases h
theorem ZtR {P:Program} {o:Oper} {E:Operand→D} {H:Heap} {K:D→Heap→Prop} {x y:Operand} {ts:Array TypeId} {k:IntKind} {a b:Int} (ho:o.op= .call ⟨.builtin .max, #[x,y],ts⟩) (ha:E x= .is (.int k a)) (hb:E y= .is (.int k b)) (hk:K (.is (.int k (max a b))) H):Op1 P o E H K:=by
 refine Op1.value (d:= .is (.int k (max a b))) (fun w L0 ε hi hx=>?_) hk
 have h1:=hx x (by simp[ho,Op.operands,Call.operands])
 have h2:=hx y (by simp[ho,Op.operands,Call.operands])
 rw[ha]at h1;rw[hb]at h2
 have h1':ε x= .int k a:=h1
 have h2':ε y= .int k b:=h2
 refine⟨.int k (max a b),?_,rfl⟩
 simp only[execOp,ho,resolve,invoke,builtin]
 simp[go_sem,h1',h2',Builtin.max_,Builtin.max2]
 split<;>omega
theorem ZsE {P:Program} {o:Oper} {E:Operand→D} {H:Heap} {K:D→Heap→Prop} {x y z:Operand} {ts:Array TypeId} {k:IntKind} {a b c:Int} (ho:o.op= .call ⟨.builtin .max, #[x,y,z],ts⟩) (ha:E x= .is (.int k a)) (hb:E y= .is (.int k b)) (hc:E z= .is (.int k c)) (hk:K (.is (.int k (max (max a b) c))) H):Op1 P o E H K:=by
 refine Op1.value (d:= .is (.int k (max (max a b) c))) (fun w L0 ε hi hx=>?_) hk
 have h1:=hx x (by simp[ho,Op.operands,Call.operands])
 have h2:=hx y (by simp[ho,Op.operands,Call.operands])
 have h3:=hx z (by simp[ho,Op.operands,Call.operands])
 rw[ha]at h1;rw[hb]at h2;rw[hc]at h3
 have h1':ε x= .int k a:=h1
 have h2':ε y= .int k b:=h2
 have h3':ε z= .int k c:=h3
 refine⟨.int k (max (max a b) c),?_,rfl⟩
 simp only[execOp,ho,resolve,invoke,builtin]
 simp[go_sem,h1',h2',h3',Builtin.max_,Builtin.max2]
 split<;>split<;>omega
def Zfd (x y:G):Option G:=match x,y with
 | .int k a,.int k' b=>match decide (k'=k)with|true=>some (.int k (max a b))|false=>none
 |_,_=>none
theorem Zkt {x y g:G} (h:Zfd x y=some g): ∃k a b,x= .int k a∧y= .int k b∧g= .int k (max a b):=by
 unfold Zfd at h
 split at h
 ·split at h
  ·rename_i hk
   simp only[decide_eq_true_eq]at hk
   subst hk
   exact⟨_,_,_,rfl,rfl,(y'n h).symm⟩
  ·cases h
 ·cases h
theorem Zks {x y g:G} (h:Zfd x y=some g) {lo:Nat→Prop} {hi:Nat}:Bel lo hi g:=by
 unfold Zfd at h
 split at h
 ·split at h
  ·cases h;exact Bel.int
  ·cases h
 ·cases h
theorem ZtS {P:Program} {o:Oper} {E:Operand→D} {H:Heap} {K:D→Heap→Prop} {x y:Operand} {ts:Array TypeId} {k:IntKind} {a b:Int} (ho:o.op= .call ⟨.builtin .min, #[x,y],ts⟩) (ha:E x= .is (.int k a)) (hb:E y= .is (.int k b)) (hk:K (.is (.int k (min a b))) H):Op1 P o E H K:=by
 refine Op1.value (d:= .is (.int k (min a b))) (fun w L0 ε hi hx=>?_) hk
 have h1:=hx x (by simp[ho,Op.operands,Call.operands])
 have h2:=hx y (by simp[ho,Op.operands,Call.operands])
 rw[ha]at h1;rw[hb]at h2
 have h1':ε x= .int k a:=h1
 have h2':ε y= .int k b:=h2
 refine⟨.int k (min a b),?_,rfl⟩
 simp only[execOp,ho,resolve,invoke,builtin]
 simp[go_sem,h1',h2',Builtin.min_,Builtin.min2]
 split<;>omega
def ZnC (x y:G):Option G:=match x,y with
 | .int k a,.int k' b=>match decide (k'=k)with|true=>some (.int k (min a b))|false=>none
 |_,_=>none
theorem Zqk {x y g:G} (h:ZnC x y=some g) {lo:Nat→Prop} {hi:Nat}:Bel lo hi g:=by
 unfold ZnC at h
 split at h
 ·split at h
  ·cases h;exact Bel.int
  ·cases h
 ·cases h
def Zql (fn:Fn) (first:List Operand) (gs:List G):Option G:=match fn,first with
 | .func f,[]=>match gs.all G.isV with|true=>some (.fn f gs)|false=>none
 |_,_=>none
noncomputable def ZdT (n esz:Nat) (ty:TyI) (env:Env) (ps:List (Nat×Operand)):Option G:=match ZbZ ty.zero with
 |some z=>match Zdi env (fun i=>some (i*esz,esz)) z ps with
  |some l=>match l.all Zeq with|true=>some (.agg l)|false=>none
  |none=>none
 |none=>none
theorem ZlW {n esz:Nat} {ty:TyI} {env:Env} {ps:List (Nat×Operand)} {g:G} (h:ZdT n esz ty env ps=some g) {lo:Nat→Prop} {hi:Nat} (he:BelE lo hi env):Bel lo hi g:=by
 unfold ZdT at h
 split at h
 ·rename_i z hz
  split at h
  ·rename_i l hl
   split at h
   ·cases h;exact Bel.agg (Zdj he ps z l (Za6 hz) hl)
   ·cases h
  ·cases h
 ·cases h
theorem Zns {P:Program} (T:Tab P) {o:Oper} {t:TypeId} {n esz:Nat} {ea:Bool} {env:Env} {ps:List (Nat×Operand)} {g:G} (ho:o.op= .build t ps.toArray) (hk0:kdT (T.get t)= .array n esz ea) (h:ZdT n esz (T.get t) env ps=some g) {σ:Nm} {H:Heap} {K:D→Heap→Prop} (hk:K (g.d σ) H):Op1 P o (evD (cE σ env)) H K:=by
 unfold ZdT at h
 split at h
 ·rename_i z hz
  split at h
  ·rename_i l hl
   split at h
   ·rename_i hone
    cases h
    refine ZeK T (l:=l.map (G.d σ)) ho hk0 ?_ (ZaR hone σ) (by simpa only[G.d,G.dl_eq]using hk)
    rw[ZbO hz σ]
    exact Zel σ ps z l hl
   ·cases h
  ·cases h
 ·cases h
noncomputable def Zih (n esz:Nat) (x i:G):Option G:=match x,i with
 | .ptr b off,.int _ m=>match ixN n m with|some j=>some (.ptr b (off+j*esz))|none=>none
 |_,_=>none
noncomputable def Zqe (P:Program) (t:TypeId) (x y:G):Option Bool:=match P.underlying t,x,y with
 |some (.int _),.int k a,.int k' b=>match Nat.beq (kTag k) (kTag k')with|true=>some (a == b)|false=>none
 |some .string,.str a,.str b=>some (eqB a b)
 |some .bool,.bool a,.bool b=>some (a == b)
 |_,_,_=>none
noncomputable def Zkj (P:Program) (xs ys:List G):List Field→Option Bool
 |[]=>some true
 |f::r=>match decide (f.name= "_")with
  |true=>Zkj P xs ys r
  |false=>match gIx xs f.offset,gIx ys f.offset with
   |some x,some y=>match Zqe P f.type x y with
    |some true=>Zkj P xs ys r
    |some false=>some false
    |none=>none
   |_,_=>none
noncomputable def Zqf (P:Program) (t:TypeId) (xs ys:List G):Option Bool:=match P.underlying t with
 |some (.struct fs)=>match P.stoodInHeld t,P.eqGuardType P.depth t,xs.all G.isV&&ys.all G.isV with
  |false,false,true=>Zkj P xs ys fs.toList
  |_,_,_=>none
 |_=>none
theorem Zmk {P:Program} {t:TypeId} {x y:G} {r:Bool} (h:Zqe P t x y=some r) {σ:Nm} {xs ys:Array Value} {i d:Nat} (h1:xs[i]?=some (x.v σ)) (h2:ys[i]?=some (y.v σ)) (w:World):
  (part t xs i).run P w= .ok (x.v σ) w∧(part t ys i).run P w= .ok (y.v σ) w∧(Op.equalIn (d+1) t (x.v σ) (y.v σ)).run P w= .ok r w:=by
 unfold Zqe at h
 split at h
 ·rename_i k0 k a k' b hu
  split at h
  ·rename_i hk
   obtain rfl:=ZeF (beq_iff_eq.2 (z'r hk))
   cases h
   exact⟨by simp[part,isAgg,run_underlying hu,h1],by simp[part,isAgg,run_underlying hu,h2],run_equalIn_int w d t k k0 a b hu⟩
  ·cases h
 ·rename_i a b hu
  cases h
  refine⟨by simp[part,isAgg,run_underlying hu,h1],by simp[part,isAgg,run_underlying hu,h2],?_⟩
  have:=run_equalIn_string w d t (x'I a) (x'I b) hu
  rw[show(G.str a).v σ= .string (x'I a) from rfl,show(G.str b).v σ= .string (x'I b) from rfl,this,ByteArray.toList_eq,ByteArray.toList_eq,Zhm]
  exact congrArg (fun b=>Result.ok b w) (show(a == b)=decide (a=b) by by_cases e:a=b<;>simp[e])
 ·rename_i a b hu
  cases h
  exact⟨by simp[part,isAgg,run_underlying hu,h1],by simp[part,isAgg,run_underlying hu,h2],run_equalIn_bool' w d t a b hu⟩
 ·cases h
theorem Zid {P:Program} {xs ys:List G} {σ:Nm} {d:Nat}: ∀{fs:List Field} {r:Bool},Zkj P xs ys fs=some r→ ∀w,(Op.eqFields (d+1) (xs.map (G.v σ)).toArray (ys.map (G.v σ)).toArray fs).run P w= .ok r w
 |[],r,h,w=>by cases h;rfl
 |f::fs,r,h,w=>by
  unfold Zkj at h
  unfold Op.eqFields
  split at h
  ·rename_i hn
   rw[if_neg (by simpa using hn)]
   exact Zid h w
  ·rename_i hn
   rw[if_pos (by simpa using hn)]
   split at h
   ·rename_i x y hx hy
    rw[w'Q]at hx hy
    have e1:((xs.map (G.v σ)).toArray)[f.offset]?=some (x.v σ):=by simp[hx]
    have e2:((ys.map (G.v σ)).toArray)[f.offset]?=some (y.v σ):=by simp[hy]
    split at h
    ·rename_i hq
     obtain⟨k1,k2,k3⟩:=Zmk hq e1 e2 (d:=d) w
     rw[z'e k1,z'e k2,z'e k3]
     exact Zid h w
    ·rename_i hq
     obtain⟨k1,k2,k3⟩:=Zmk hq e1 e2 (d:=d) w
     cases h
     rw[z'e k1,z'e k2,z'e k3]
     rfl
    ·cases h
   ·cases h
theorem Zr0 {P:Program} {t:TypeId} {xs ys:List G} {r:Bool} (h:Zqf P t xs ys=some r) (σ:Nm):EqS P t (xs.map (G.v σ)) (ys.map (G.v σ)) r∧xs.map (G.d σ)=(xs.map (G.v σ)).map D.is∧ys.map (G.d σ)=(ys.map (G.v σ)).map D.is:=by
 unfold Zqf at h
 split at h
 ·rename_i fs hu
  split at h
  ·rename_i h1 h2 h3
   rw[z'c]at h3
   have key: ∀{l:List G},l.all G.isV=true→l.map (G.d σ)=(l.map (G.v σ)).map D.is:=fun{l} hl=>by
    rw[List.map_map]
    refine y'k fun g hg=>?_
    have:=z'o.1 hl g hg
    cases g<;>first|rfl|cases this
   have hf:P.fieldsOf t=fs:=by simp[Program.fieldsOf,hu]
   refine⟨⟨h2,fun w=>?_⟩,key h3.1,key h3.2⟩
   rw[show(10000:Nat)=9999+1 from rfl,run_equalIn_agg w 9999 t _ _ (by rw[hf];exact hu) h1,hf]
   exact Zid h w
  ·cases h
 ·cases h
theorem Zq0 {P:Program} {o:Oper} {E:Operand→D} {H:Heap} {K:D→Heap→Prop} {op:BinOp} {t u e:TypeId} {x y:Operand} {p:Option Addr} {r':Bool} (ho:o.op= .binOp op t x y u) (hu:P.underlying t=some (.pointer e)) (hx0:E x= .is (.pointer p)) (hy0:E y= .is (.pointer none))
  (hr:ZfP op p.isNone=some r') (hk:K (.is (.bool r')) H):Op1 P o E H K:=by
 refine Op1.value (d:= .is (.bool r')) (fun w L0 ε hi hx=>?_) hk
 have h1:=hx x (by simp[ho,Op.operands])
 have h2:=hx y (by simp[ho,Op.operands])
 rw[hx0]at h1;rw[hy0]at h2
 have h1':ε x= .pointer p:=h1
 have h2':ε y= .pointer none:=h2
 have hu':P.underlying t=some (.pointer (P.pointee t)):=by simp[Program.pointee,hu]
 have hg:(eqGuard op t x y (.pointer p) (.pointer none)).run P w= .ok () w:=y'T trivial
 refine⟨.bool r',?_,rfl⟩
 simp only[execOp,ho,h1',h2']
 refine(z'e (a:= .bool r') (w':=w) ?_).trans rfl
 rw[z'e hg]
 cases op<;>simp only[ZfP,z'D,reduceCtorEq]at hr
 ·subst hr;exact run_eql_pointer_nil w t p hu'
 ·subst hr;exact run_neq_pointer_nil w t p hu'
noncomputable def ZcC (P:Program) (op:BinOp) (t:TypeId) (nil:Bool):Option G:=match P.underlying t with
 |some (.pointer _)=>match ZfP op nil with|some r=>some (.bool r)|none=>none
 |_=>none
theorem Zgn {P:Program} {op:BinOp} {t:TypeId} {nil:Bool} {g:G} (h:ZcC P op t nil=some g) {lo:Nat→Prop} {hi:Nat}:Bel lo hi g:=by
 unfold ZcC at h
 split at h
 ·split at h
  ·cases h;exact Bel.bool
  ·cases h
 ·cases h
theorem ZhD {P:Program} {op:BinOp} {t u:TypeId} {nil:Bool} {g:G} {o:Oper} {x y:Operand} {env:Env} {p:Option Addr} {σ:Nm} {H:Heap} {K:D→Heap→Prop} (ho:o.op= .binOp op t x y u) (h:ZcC P op t nil=some g) (hp:p.isNone=nil) (h1:evD (cE σ env) x= .is (.pointer p)) (h2:evD (cE σ env) y= .is (.pointer none)) (hk:K (g.d σ) H):Op1 P o (evD (cE σ env)) H K:=by
 unfold ZcC at h
 split at h
 ·rename_i e hu
  split at h
  ·rename_i r hr
   cases h
   exact Zq0 ho hu h1 h2 (by rw[hp];exact hr) hk
  ·cases h
 ·cases h
def ZlM (k:IntKind) (x y:Int):Int:=k.wrap ((BitVec.ofInt k.bits x^^^BitVec.ofInt k.bits y).toNat:Nat)
theorem ZtV {P:Program} {o:Oper} {E:Operand→D} {H:Heap} {t u:TypeId} {x y:Operand} {k:IntKind} {a b:Int} {K:D→Heap→Prop} (ho:o.op= .binOp .xor t x y u) (ha:E x= .is (.int k a)) (hb:E y= .is (.int k b))
  (hk:K (.is (.int k (ZlM k a b))) H):Op1 P o E H K:=by
 refine Op1.value (d:= .is (.int k (ZlM k a b))) (fun w L0 ε hi hx=>?_) hk
 have h1:=hx x (by simp[ho,Op.operands])
 have h2:=hx y (by simp[ho,Op.operands])
 rw[ha]at h1;rw[hb]at h2
 have h1':ε x= .int k a:=h1
 have h2':ε y= .int k b:=h2
 have hg:(eqGuard .xor t x y (.int k a) (.int k b)).run P w= .ok () w:=y'T trivial
 refine⟨.int k (ZlM k a b),?_,rfl⟩
 simp only[execOp,ho,h1',h2']
 rw[z'e (a:=Value.int k (ZlM k a b)) (w':=w) (by rw[z'e hg];simp only[binOp,ne_eq,not_true_eq_false,if_false,Op.intBits];rfl)]
 rfl
def ZjQ (k:IntKind) (x y:Int):Int:=k.wrap ((BitVec.ofInt k.bits x&&&BitVec.ofInt k.bits y).toNat:Nat)
theorem ZtP {P:Program} {o:Oper} {E:Operand→D} {H:Heap} {t u:TypeId} {x y:Operand} {k:IntKind} {a b:Int} {K:D→Heap→Prop} (ho:o.op= .binOp .and t x y u) (ha:E x= .is (.int k a)) (hb:E y= .is (.int k b))
  (hk:K (.is (.int k (ZjQ k a b))) H):Op1 P o E H K:=by
 refine Op1.value (d:= .is (.int k (ZjQ k a b))) (fun w L0 ε hi hx=>?_) hk
 have h1:=hx x (by simp[ho,Op.operands])
 have h2:=hx y (by simp[ho,Op.operands])
 rw[ha]at h1;rw[hb]at h2
 have h1':ε x= .int k a:=h1
 have h2':ε y= .int k b:=h2
 have hg:(eqGuard .and t x y (.int k a) (.int k b)).run P w= .ok () w:=y'T trivial
 refine⟨.int k (ZjQ k a b),?_,rfl⟩
 simp only[execOp,ho,h1',h2']
 rw[z'e (a:=Value.int k (ZjQ k a b)) (w':=w) (by rw[z'e hg];simp only[binOp,ne_eq,not_true_eq_false,if_false,Op.intBits];rfl)]
 rfl
def ZlA (k:IntKind) (x y:Int):Int:=x.fdiv (2^min y.toNat k.bits)
theorem ZtT {P:Program} {o:Oper} {E:Operand→D} {H:Heap} {t u:TypeId} {x y:Operand} {k k':IntKind} {a b:Int} {K:D→Heap→Prop} (ho:o.op= .binOp .shr t x y u) (ha:E x= .is (.int k a)) (hb:E y= .is (.int k' b)) (h0:0≤b)
  (hk:K (.is (.int k (ZlA k a b))) H):Op1 P o E H K:=by
 refine Op1.value (d:= .is (.int k (ZlA k a b))) (fun w L0 ε hi hx=>?_) hk
 have h1:=hx x (by simp[ho,Op.operands])
 have h2:=hx y (by simp[ho,Op.operands])
 rw[ha]at h1;rw[hb]at h2
 have h1':ε x= .int k a:=h1
 have h2':ε y= .int k' b:=h2
 have hg:(eqGuard .shr t x y (.int k a) (.int k' b)).run P w= .ok () w:=y'T trivial
 refine⟨.int k (ZlA k a b),?_,rfl⟩
 simp only[execOp,ho,h1',h2']
 rw[z'e (a:=Value.int k (ZlA k a b)) (w':=w) (by rw[z'e hg];simp only[binOp,Op.shift];rw[if_neg (by omega)];rfl)]
 rfl
def Zhs (op:BinOp) (x y:G):Option G:=match op,x,y with
 | .xor,.int k a,.int k' b=>match decide (k'=k)with|true=>some (.int k (ZlM k a b))|false=>none
 | .and,.int k a,.int k' b=>match decide (k'=k)with|true=>some (.int k (ZjQ k a b))|false=>none
 | .shr,.int k a,.int _ b=>match decide (0≤b)with|true=>some (.int k (ZlA k a b))|false=>none
 |_,_,_=>none
theorem ZoB {op:BinOp} {x y g:G} (h:Zhs op x y=some g) {lo:Nat→Prop} {hi:Nat}:Bel lo hi g:=by
 unfold Zhs at h
 split at h
 ·split at h<;>cases h;exact Bel.int
 ·split at h<;>cases h;exact Bel.int
 ·split at h<;>cases h;exact Bel.int
 ·cases h
theorem Zqa {P:Program} {op:BinOp} {t u:TypeId} {gx gy g:G} {o:Oper} {x y:Operand} {env:Env} {σ:Nm} {H:Heap} {K:D→Heap→Prop} (ho:o.op= .binOp op t x y u) (h:Zhs op gx gy=some g) (h1:evD (cE σ env) x=gx.d σ) (h2:evD (cE σ env) y=gy.d σ) (hk:K (g.d σ) H):Op1 P o (evD (cE σ env)) H K:=by
 unfold Zhs at h
 split at h
 ·split at h
  ·rename_i hq;simp only[decide_eq_true_eq]at hq;subst hq;cases h;exact ZtV ho h1 h2 hk
  ·cases h
 ·split at h
  ·rename_i hq;simp only[decide_eq_true_eq]at hq;subst hq;cases h;exact ZtP ho h1 h2 hk
  ·cases h
 ·split at h
  ·rename_i hq;simp only[decide_eq_true_eq]at hq;cases h;exact ZtT ho h1 h2 hq hk
  ·cases h
 ·cases h
noncomputable def ZfX {P:Program} (T:Tab P) (env:Env) (c:Operand) (a:Operand) (b:Operand):Option G:=match gX env c,gX env a,gX env b with
 |some c,some a,some b=>ZhC c a b
 |_,_,_=>none
noncomputable def Zex {P:Program} (T:Tab P) (env:Env) (op:BinOp) (t:TypeId) (x:Operand) (y:Operand):Option G:=match gX env x,gX env y with
 |some (.agg xs),some (.agg ys)=>match Zqf P t xs ys with
  |some r=>match ZfP op r with|some r'=>some (.bool r')|none=>none
  |none=>none
 |some (.ptr _ _),some (.val (.pointer none))=>ZcC P op t false
 |some (.val (.pointer none)),some (.val (.pointer none))=>ZcC P op t true
 |some x,some y=>match Zkf (kdT (T.get t)) op x y with
  |some g=>some g
  |none=>Zhs op x y
 |_,_=>none
noncomputable def ZfY {P:Program} (T:Tab P) (env:Env) (op:UnOp) (x:Operand):Option G:=match gX env x with|some x=>gUn op x|none=>none
noncomputable def Zbl {P:Program} (T:Tab P) (env:Env) (t:TypeId) (x:Operand) (f:Nat):Option G:=match gX env x with|some x=>Zbj (fieldAt (kdT (T.get t)) f) x|none=>none
noncomputable def ZeA {P:Program} (T:Tab P) (env:Env) (t:TypeId) (x:Operand) (f:Nat):Option G:=match gX env x with|some x=>Zfb (fieldAt (kdT (T.get t)) f) x|none=>none
noncomputable def Zbm {P:Program} (T:Tab P) (env:Env) (t:TypeId) (x:Operand) (i:Operand):Option G:=match gX env x,gX env i with
 |some x,some i=>match kdT (T.get t)with
  | .array n esz _=>Zih n esz x i
  |kd=>Zbk kd x i
 |_,_=>none
noncomputable def ZeB {P:Program} (T:Tab P) (env:Env) (t:TypeId) (x:Operand) (i:Operand):Option G:=match gX env x,gX env i with
 |some x,some i=>Zfc (kdT (T.get t)) x i
 |_,_=>none
noncomputable def Zcx {P:Program} (T:Tab P) (env:Env) (x:Operand) (i:Nat):Option G:=match gX env x with|some x=>ZcP x i|none=>none
noncomputable def ZbY {P:Program} (T:Tab P) (env:Env) (x:Operand):Option G:=match gX env x with|some x=>Zkw x|none=>none
noncomputable def Zey {P:Program} (T:Tab P) (env:Env) (t:TypeId) (ps:Array (Nat×Operand)):Option G:=match kdT (T.get t)with
 | .array n esz _=>ZdT n esz (T.get t) env ps.toList
 |_=>Ze7 (T.get t) env ps.toList
noncomputable def ZaG {P:Program} (T:Tab P) (env:Env) (t:TypeId) (n:Nat) (ps:Array (Nat×Operand)):Option G:=Zaz (kdT (T.get t)) n env ps.toList
noncomputable def ZeC {P:Program} (T:Tab P) (env:Env) (t:TypeId) (x:Operand) (lo:Option Operand) (hi:Option Operand) (mx:Option Operand):Option G:=match gX env x,gXo env lo,gXo env hi,gXo env mx with
 |some x,some lo,some hi,some mx=>Zfi (kdT (T.get t)) x lo hi mx
 |_,_,_,_=>none
noncomputable def Zez {P:Program} (T:Tab P) (env:Env) (t:TypeId) (u:TypeId) (x:Operand):Option G:=match gX env x with|some x=>ZfR (kdElem T.get (kdT (T.get t))) (kdT (T.get t)) (kdT (T.get u)) x|none=>none
noncomputable def v'B {P:Program} (T:Tab P) (env:Env) (t:TypeId) (x:Operand):Option G:=match gX env x with|some x=>ZnD P t x|none=>none
noncomputable def ZbX {P:Program} (T:Tab P) (env:Env) (fn:Fn) (first:Array Operand) (cs:Array Operand):Option G:=match gXs env cs.toList with|some gs=>Zql fn first.toList gs|none=>none
noncomputable def Zio {P:Program} (T:Tab P) (env:Env) (c:Call):Option G:=match c with
 |⟨.builtin .len,az,ts⟩=>match az.toList,ts.toList with
  |[x],[t]=>match gX env x with|some x=>Zij (kdT (T.get t)) x|none=>none
  |_,_=>none
 |⟨.builtin .max,az,ts⟩=>match az.toList with
  |[x,y]=>match gX env x,gX env y with
   |some x,some y=>Zfd x y
   |_,_=>none
  |[x,y,z]=>match gX env x,gX env y,gX env z with
   |some x,some y,some z=>match Zfd x y with|some u=>Zfd u z|none=>none
   |_,_,_=>none
  |_=>none
 |⟨.builtin .min,az,ts⟩=>match az.toList with
  |[x,y]=>match gX env x,gX env y with
   |some x,some y=>ZnC x y
   |_,_=>none
  |_=>none
 |_=>none
noncomputable def ZgK {P:Program} (T:Tab P) (env:Env) (op:Op):Option G:=match op with
 | .move x=>gX env x
 | .assign x=>gX env x
 | .pick c a b=>ZfX T env c a b
 | .binOp op t x y _=>Zex T env op t x y
 | .unOp op _ x=>ZfY T env op x
 | .fieldAddr t x f=>Zbl T env t x f
 | .field t x f=>ZeA T env t x f
 | .indexAddr t x i=>Zbm T env t x i
 | .index t x i=>ZeB T env t x i
 | .extract x i=>Zcx T env x i
 | .nilCheck x=>ZbY T env x
 | .build t ps=>Zey T env t ps
 | .buildSlice t n ps=>ZaG T env t n ps
 | .slice t x lo hi mx=>ZeC T env t x lo hi mx
 | .convert t u x=>Zez T env t u x
 | .makeInterface t x=>v'B T env t x
 | .makeFunc fn first cs=>ZbX T env fn first cs
 | .call c=>Zio T env c
 |_=>none
theorem Zip {P:Program} (T:Tab P) {env:Env} {o:Oper} {g:G} (h:ZgK T env o.op=some g) {σ:Nm} {H:Heap} {K:D→Heap→Prop} (hk:K (g.d σ) H):Op1 P o (evD (cE σ env)) H K:=by
 unfold ZgK at h
 split at h
 ·rename_i ho;exact ZhR (.inl ho) (by rw[z'U h];exact hk)
 ·rename_i ho;exact ZhR (.inr ho) (by rw[z'U h];exact hk)
 ·rename_i ho
  unfold ZfX at h
  split at h
  ·rename_i h1 h2 h3;exact Zpk ho (by rw[z'U h1,z'U h2,z'U h3];exact Zqp h hk)
  ·cases h
 ·rename_i ho
  unfold Zex at h
  split at h
  ·rename_i h1 h2
   split at h
   ·rename_i r hr
    split at h
    ·rename_i r' hr'
     cases h
     obtain⟨q1,q2,q3⟩:=Zr0 hr σ
     exact Op1.eqS ho q1 (by rw[z'U h1,G.d,G.dl_eq,q2]) (by rw[z'U h2,G.d,G.dl_eq,q3]) hr' hk
    ·cases h
   ·cases h
  ·rename_i h1 h2;exact ZhD ho h rfl (z'U h1 σ) (z'U h2 σ) hk
  ·rename_i h1 h2;exact ZhD ho h rfl (z'U h1 σ) (z'U h2 σ) hk
  ·rename_i h1 h2
   split at h
   ·rename_i hb;cases h;exact ZrB T ho (by rw[z'U h1,z'U h2];exact ZrY hb hk)
   ·exact Zqa ho h (z'U h1 σ) (z'U h2 σ) hk
  ·cases h
 ·rename_i ho
  unfold ZfY at h
  split at h
  ·rename_i h1;exact ZtU ho (by rw[z'U h1];exact Ztq h hk)
  ·cases h
 ·rename_i ho
  unfold Zbl at h
  split at h
  ·rename_i h1;exact Zgs T ho (by rw[z'U h1];exact Zju h hk)
  ·cases h
 ·rename_i ho
  unfold ZeA at h
  split at h
  ·rename_i h1;exact ZmP T ho (by rw[z'U h1];exact ZoG h hk)
  ·cases h
 ·rename_i ho
  unfold Zbm at h
  split at h
  ·rename_i h1 h2
   split at h
   ·rename_i n esz ea hkd
    unfold Zih at h
    split at h
    ·split at h
     ·rename_i hix
      cases h
      obtain⟨rfl,hlt⟩:=ZhH hix
      exact Zle T ho hkd (z'U h1 σ) (z'U h2 σ) (by omega) (by rw[z'q];exact hk)
     ·cases h
    ·cases h
   ·exact Zgt T ho (by rw[z'U h1,z'U h2];exact Zjv h hk)
  ·cases h
 ·rename_i ho
  unfold ZeB at h
  split at h
  ·rename_i h1 h2;exact ZmR T ho (by rw[z'U h1,z'U h2];exact ZoH h hk)
  ·cases h
 ·rename_i ho
  unfold Zcx at h
  split at h
  ·rename_i h1;exact Zjf ho (by rw[z'U h1];exact ZlX h hk)
  ·cases h
 ·rename_i ho
  unfold ZbY at h
  split at h
  ·rename_i h1;exact ZrE ho (by rw[z'U h1];exact Zr4 h hk)
  ·cases h
 ·rename_i t ps ho
  unfold Zey at h
  split at h
  ·rename_i n esz ea hkd;exact Zns T (ps:=ps.toList) (by simpa using ho) hkd h hk
  ·exact ZmO T (ps:=ps.toList) (by simpa using ho) (ZoD h hk)
 ·rename_i t n ps ho
  unfold ZaG at h
  exact Zft T (ps:=ps.toList) (by simpa using ho) (Zib h hk)
 ·rename_i ho
  unfold ZeC at h
  split at h
  ·rename_i h1 h2 h3 h4;exact ZmU T ho (by rw[z'U h1,Zfk h2,Zfk h3,Zfk h4];exact ZoL h hk)
  ·cases h
 ·rename_i ho
  unfold Zez at h
  split at h
  ·rename_i h1;exact ZiB T ho (by rw[z'U h1];exact Zki h hk)
  ·cases h
 ·rename_i ho
  unfold v'B at h
  split at h
  ·rename_i h1;exact ZrD ho (by rw[z'U h1];exact Zr3 h hk)
  ·cases h
 ·rename_i fn first cs ho
  unfold ZbX at h
  split at h
  ·rename_i gs h1
   unfold Zql at h
   split at h
   ·rename_i f hf
    split at h
    ·rename_i hv
     cases h
     have hf':first= #[]:=by rw[←z'Z];exact hf
     subst hf'
     refine Zlh (cs:=cs.toList) (us:=gs.map (G.v σ)) (by simpa using ho) ?_ hk
     rw[Zce σ h1,List.map_map]
     exact y'k fun g hg=>G.isV_d (z'o.1 hv g hg)
    ·cases h
   ·cases h
  ·cases h
 ·rename_i c ho
  unfold Zio at h
  split at h
  ·rename_i az ts
   split at h
   ·rename_i x t hx ht
    have e1:az= #[x]:=by rw[←z'Z];exact hx
    have e2:ts= #[t]:=by rw[←z'Z];exact ht
    subst e1;subst e2
    split at h
    ·rename_i h1;exact ZnP T ho (by rw[z'U h1];exact Zmq h hk)
    ·cases h
   ·cases h
  ·rename_i az ts
   split at h
   ·rename_i x y hx
    have e1:az= #[x,y]:=by rw[←z'Z];exact hx
    subst e1
    split at h
    ·rename_i h1 h2
     unfold Zfd at h
     split at h
     ·split at h
      ·rename_i hkk
       cases h
       simp only[decide_eq_true_eq]at hkk
       subst hkk
       exact ZtR ho (z'U h1 σ) (z'U h2 σ) hk
      ·cases h
     ·cases h
    ·cases h
   ·rename_i x y z hx
    have e1:az= #[x,y,z]:=by rw[←z'Z];exact hx
    subst e1
    split at h
    ·rename_i h1 h2 h3
     split at h
     ·rename_i u hu
      obtain⟨k,a,b,rfl,rfl,rfl⟩:=Zkt hu
      obtain⟨k',a',c,e1,rfl,rfl⟩:=Zkt h
      obtain⟨rfl,rfl⟩:=G.int.inj e1
      exact ZsE ho (z'U h1 σ) (z'U h2 σ) (z'U h3 σ) hk
     ·cases h
    ·cases h
   ·cases h
  ·rename_i az ts
   split at h
   ·rename_i x y hx
    have e1:az= #[x,y]:=by rw[←z'Z];exact hx
    subst e1
    split at h
    ·rename_i h1 h2
     unfold ZnC at h
     split at h
     ·split at h
      ·rename_i hkk
       cases h
       simp only[decide_eq_true_eq]at hkk
       subst hkk
       exact ZtS ho (z'U h1 σ) (z'U h2 σ) hk
      ·cases h
     ·cases h
    ·cases h
   ·cases h
  ·cases h
 ·cases h
theorem ZgL {P:Program} (T:Tab P) {env:Env} {op:Op} {g:G} (h:ZgK T env op=some g) {lo:Nat→Prop} {hi:Nat} (he:BelE lo hi env):Bel lo hi g:=by
 unfold ZgK at h
 split at h
 ·exact x'v h he
 ·exact x'v h he
 ·unfold ZfX at h
  split at h
  ·rename_i h1 h2 h3;exact ZoJ h (x'v h2 he) (x'v h3 he)
  ·cases h
 ·unfold Zex at h
  split at h
  ·split at h
   ·split at h
    ·cases h;exact Bel.bool
    ·cases h
   ·cases h
  ·exact Zgn h
  ·exact Zgn h
  ·split at h
   ·rename_i hb;cases h;exact Zp9 hb
   ·exact ZoB h
  ·cases h
 ·unfold ZfY at h
  split at h
  ·exact Zr7 h
  ·cases h
 ·unfold Zbl at h
  split at h
  ·rename_i h1;exact Zif h (x'v h1 he)
  ·cases h
 ·unfold ZeA at h
  split at h
  ·rename_i h1;exact Znx h (x'v h1 he)
  ·cases h
 ·unfold Zbm at h
  split at h
  ·rename_i h1 h2
   split at h
   ·unfold Zih at h
    split at h
    ·split at h
     ·cases h;exact(x'v h1 he).ptr_o
     ·cases h
    ·cases h
   ·exact Zii h (x'v h1 he)
  ·cases h
 ·unfold ZeB at h
  split at h
  ·exact Znz h
  ·cases h
 ·unfold Zcx at h
  split at h
  ·rename_i h1;exact Zkk h (x'v h1 he)
  ·cases h
 ·unfold ZbY at h
  split at h
  ·rename_i h1;exact Zqn h (x'v h1 he)
  ·cases h
 ·unfold Zey at h
  split at h
  ·exact ZlW h he
  ·exact Znt h he
 ·unfold ZaG at h
  exact Zht h he
 ·unfold ZeC at h
  split at h
  ·rename_i h1 h2 h3 h4;exact ZnG h (x'v h1 he)
  ·cases h
 ·unfold Zez at h
  split at h
  ·exact ZoF h
  ·cases h
 ·unfold v'B at h
  split at h
  ·rename_i h1
   unfold ZnD at h
   split at h<;>cases h
   exact Bel.ifc (x'v h1 he)
  ·cases h
 ·unfold ZbX at h
  split at h
  ·rename_i gs h1
   unfold Zql at h
   split at h
   ·split at h
    ·rename_i hv;cases h;exact Bel.fn hv (ZcD he h1)
    ·cases h
   ·cases h
  ·cases h
 ·unfold Zio at h
  split at h
  ·split at h
   ·split at h
    ·exact Zkp h
    ·cases h
   ·cases h
  ·split at h
   ·split at h
    ·exact Zks h
    ·cases h
   ·split at h
    ·split at h
     ·exact Zks h
     ·cases h
    ·cases h
   ·cases h
  ·split at h
   ·split at h
    ·exact Zqk h
    ·cases h
   ·cases h
  ·cases h
 ·cases h
end Go.Vc
