/- Calls at fixed data, reckoned out: one operation that makes a value. No condition. -/
import Derived.Test.YthlkpnjjkgmlkaaGreatEb
namespace Go.Vc
set_option linter.unusedSimpArgs false
set_option linter.unusedVariables false
open Go
def Zcf (x:Option G) (dflt top:Nat):Option Nat:=match x with
 |none=>some dflt
 |some (.int _ (.ofNat n))=>match Nat.ble n top with|true=>some n|false=>none
 |_=>none
theorem ZaX {x:Option G} {dflt top n:Nat} (h:Zcf x dflt top=some n) (hd:dflt≤top) (σ:Nm):dC (x.map (G.d σ)) top∧dV (x.map (G.d σ)) dflt=n∧n≤top:=by
 unfold Zcf at h
 split at h
 ·cases h;exact⟨trivial,rfl,hd⟩
 ·split at h
  ·rename_i hb
   cases h
   have:=z'F hb
   refine⟨?_,rfl,this⟩
   simp only[y'l,G.d,dC,Int.ofNat_eq_natCast]
   omega
  ·cases h
 ·cases h
theorem ZnQ {x:G} {dflt top n:Nat} (h:Zcf (some x) dflt top=some n) (σ:Nm):dV (some (x.d σ)) 0=n:=by
 cases x with
 |int k m=>cases m with
  |ofNat m=>simp only[Zcf]at h;split at h<;>cases h;rfl
  |negSucc m=>cases h
 |_=>cases h
theorem ZkV (s:List UInt8) (a b:Nat):(x'R s).extract a b=x'R ((s.take b).drop a):=by
 apply ByteArray.ext
 simp[x'R,ByteArray.extract,ByteArray.copySlice,List.extract_eq_take_drop,List.drop_take]
def Ze3 (kd:Kd) (x:G) (lo hi mx:Option G):Option G:=match mx with
 |some _=>none
 |none=>match kd,x with
  | .str,.str s=>match Zcf hi s.length s.length with
   |some h=>match Zcf lo 0 h with|some l=>some (.str ((s.take h).drop l))|none=>none
   |none=>none
  | .slice _ esz _ _ _,.sl full esz' rows=>match Nat.beq esz' esz,Zcf hi rows.length rows.length with
   |true,some h=>match Zcf lo 0 h with
    |some l=>match hi with|none=>some (.sl full esz (rows.drop l))|some _=>some (.sl false esz ((rows.take h).drop l))
    |none=>none
   |_,_=>none
  | .slice _ esz _ _ _,.own b n=>match Zcf hi n n with
   |some h=>match Zcf lo 0 h with
    |some l=>match lo with|none=>some (.own b h)|some _=>some (.off b (l*esz) (h-l) l)
    |none=>none
   |none=>none
  | .slice ..,.nils=>match Zcf hi 0 0,Zcf lo 0 0 with|some _,some _=>some .nils|_,_=>none
  |_,_=>none
theorem ZnZ {kd:Kd} {x g:G} {lo hi mx:Option G} (h:Ze3 kd x lo hi mx=some g) {σ:Nm} {K:D→Prop} (hk:K (g.d σ)):cSlice kd (x.d σ) (lo.map (G.d σ)) (hi.map (G.d σ)) (mx.map (G.d σ)) K:=by
 unfold Ze3 at h
 split at h
 ·cases h
 split at h
 ·rename_i s
  split at h
  ·rename_i hh e1
   split at h
   ·rename_i ll e2
    cases h
    obtain⟨a1,a2,a3⟩:=ZaX e1 (z'c _) σ
    obtain⟨b1,b2,b3⟩:=ZaX e2 (z'm _) σ
    simp only[G.d,cSlice,x'k,v'7,a2]
    exact⟨⟨a1,b1⟩,by rw[b2,ZkV];exact hk⟩
   ·cases h
  ·cases h
 ·rename_i e esz eb ea ez full esz' rows
  split at h
  ·rename_i hh hb e1
   split at h
   ·rename_i ll e2
    obtain⟨a1,a2,a3⟩:=ZaX e1 (z'c _) σ
    obtain⟨b1,b2,b3⟩:=ZaX e2 (z'm _) σ
    simp only[G.d,cSlice,x'k,G.dr_eq,z'i]
    refine⟨⟨z's hb,trivial,a1,by rw[a2];exact b1⟩,?_⟩
    cases hi with
    |none=>
     cases h
     simp only[x'k,G.d,G.dr_eq, ←List.map_drop]at hk⊢
     rw[show dV (Option.map (G.d σ) lo) 0=ll from b2];exact hk
    |some hg=>
     cases h
     simp only[y'l,G.d,G.dr_eq]at hk a2⊢
     have a2':dV (some (G.d σ hg)) 0=hh:=ZnQ e1 σ
     rw[a2',show dV (Option.map (G.d σ) lo) 0=ll from b2, ←List.map_take, ←List.map_drop];exact hk
   ·cases h
  ·cases h
 ·rename_i e esz eb ea ez b n
  split at h
  ·rename_i hh e1
   split at h
   ·rename_i ll e2
    obtain⟨a1,a2,a3⟩:=ZaX e1 (z'c _) σ
    obtain⟨b1,b2,b3⟩:=ZaX e2 (z'm _) σ
    have hs:G.d σ (.own b n)= .gs (some ((σ b).1,(σ b).2)) n:=rfl
    rw[hs]
    simp only[cSlice,x'k]
    refine⟨⟨a1,by rw[a2];exact b1⟩,?_⟩
    cases lo with
    |none=>cases h;simp only[x'k];rw[a2];exact hk
    |some lg=>
     cases h
     simp only[y'l]at b2⊢
     rw[a2,b2];exact hk
   ·cases h
  ·cases h
 ·split at h
  ·rename_i e1 e2
   cases h
   obtain⟨a1,a2,a3⟩:=ZaX e1 (z'c _) σ
   obtain⟨b1,b2,b3⟩:=ZaX e2 (z'c _) σ
   exact⟨⟨a1,b1⟩,hk⟩
  ·cases h
 ·cases h
theorem ZmO {kd:Kd} {x g:G} {lo hi mx:Option G} (h:Ze3 kd x lo hi mx=some g) {a:Nat→Prop} {b:Nat} (hx:Bel a b x):Bel a b g:=by
 unfold Ze3 at h
 split at h
 ·cases h
 split at h
 ·split at h
  ·split at h<;>cases h;exact fun _ _ _=>rfl
  ·cases h
 ·split at h
  ·split at h
   ·split at h<;>cases h
    ·exact Bel.sl fun r hr=>hx.sl_r r (List.mem_of_mem_drop hr)
    ·exact Bel.sl fun r hr=>hx.sl_r r (v's (List.mem_of_mem_drop hr))
   ·cases h
  ·cases h
 ·split at h
  ·split at h
   ·split at h<;>cases h
    ·exact hx.own_n
    ·exact hx.own_off
   ·cases h
  ·cases h
 ·split at h<;>cases h;exact fun _ _ _=>rfl
 ·cases h
def Zha (k:IntKind):List (List G)→Option (List Int)
 |[]=>some []
 |[.int j n]::r=>match kTag j == kTag k,Zha k r with
  |true,some l=>some (n::l)
  |_,_=>none
 |_::_=>none
theorem Zj3 {k:IntKind} (σ:Nm) {rows:List (List G)} {l:List Int} (h:Zha k rows=some l):numsOf k (rows.map (·.map (G.d σ)))=some l:=by
 induction rows generalizing l with
 |nil=>cases h;rfl
 |cons row r ih=>
  unfold Zha at h
  split at h
  ·rename_i e;cases e
  ·rename_i j n r' e
   cases e
   split at h
   ·rename_i l' h1 h2
    cases h
    simp only[z'p,y'a,G.d,numsOf,h1,ih h2]
   ·cases h
  ·cases h
def Zfz (ke a b:Kd) (x:G):Option G:=match a,b,x with
 | .int _,.int k,.int _ n=>some (.int k (k.wrap n))
 | .slice _ _ _ _ _,.str,.sl _ 1 rows=>match ke with
  | .int .i32=>match Zha .i32 rows with|some ns=>some (.str (ZdV ns).data.toList)|none=>none
  | .int .u8=>match Zha .u8 rows with|some ns=>some (.str (ZdF ns).data.toList)|none=>none
  |_=>none
 | .str,.str,.str s=>some (.str s)
 |_,_,_=>none
theorem ZjO {ke a b:Kd} {x g:G} (h:Zfz ke a b x=some g) {σ:Nm} {K:D→Prop} (hk:K (g.d σ)):cConvS ke a b (x.d σ) K:=by
 unfold Zfz at h
 split at h
 ·cases h;exact hk
 ·split at h
  ·split at h
   ·rename_i e;cases h
    simp only[G.d,G.dr_eq,cConvS,Zj3 σ e];exact hk
   ·cases h
  ·split at h
   ·rename_i e;cases h
    simp only[G.d,G.dr_eq,cConvS,Zj3 σ e];exact hk
   ·cases h
  ·cases h
 ·cases h;exact hk
 ·cases h
theorem ZnT {ke a b:Kd} {x g:G} (h:Zfz ke a b x=some g) {lo:Nat→Prop} {hi:Nat}:Bel lo hi g:=by
 unfold Zfz at h
 split at h
 ·cases h;exact fun _ _ _=>rfl
 ·split at h
  ·split at h<;>cases h;exact fun _ _ _=>rfl
  ·split at h<;>cases h;exact fun _ _ _=>rfl
  ·cases h
 ·cases h;exact fun _ _ _=>rfl
 ·cases h
def ZmL (P:Program) (t:TypeId) (x:G):Option G:=match P.underlying t with
 |some (.interface _)=>none
 |some _=>some (.ifc t x)
 |none=>none
theorem Zrf {P:Program} {t:TypeId} {x g:G} (h:ZmL P t x=some g) {σ:Nm} {K:D→Prop} (hk:K (g.d σ)):ZoX P t (x.d σ) K:=by
 unfold ZmL at h
 split at h
 ·cases h
 ·rename_i d hno hu
  cases h
  exact⟨⟨d,hu,fun ms e=>hno ms e⟩,hk⟩
 ·cases h
def Zh0 (kd:Kd) (x:G):Option G:=match kd,x with
 | .slice ..,.sl _ _ rows=>some (.int .i64 (Int.ofNat rows.length))
 | .slice ..,.own _ n=>some (.int .i64 (Int.ofNat n))
 | .slice ..,.nils=>some (.int .i64 (Int.ofNat 0))
 | .slice ..,.off _ _ n _=>some (.int .i64 (Int.ofNat n))
 | .str,.str s=>some (.int .i64 (Int.ofNat s.length))
 |_,_=>none
theorem ZlB {kd:Kd} {x g:G} (h:Zh0 kd x=some g) {σ:Nm} {K:D→Prop} (hk:K (g.d σ)):cLen kd (x.d σ) K:=by
 unfold Zh0 at h
 split at h<;>cases h
 ·simp only[G.d,G.dr_eq,cLen,z'i]at hk⊢;exact hk
 ·exact hk
 ·exact hk
 ·exact hk
 ·simp only[G.d,cLen,v'7]at hk⊢;exact hk
theorem ZjV {kd:Kd} {x g:G} (h:Zh0 kd x=some g) {lo:Nat→Prop} {hi:Nat}:Bel lo hi g:=by
 unfold Zh0 at h
 split at h<;>cases h<;>exact fun _ _ _=>rfl
def Zem (esz:Nat):Nat→List G→List (List G)
 |0,_=>[]
 |n+1,l=>l.take esz::Zem esz n (l.drop esz)
theorem ZbD (σ:Nm) (esz:Nat): ∀(n:Nat) (l:List G),w'Y esz n (l.map (G.d σ))=(Zem esz n l).map (·.map (G.d σ))
 |0,l=>rfl
 |n+1,l=>by rw[w'Y,Zem,z'p, ←List.map_take, ←List.map_drop,ZbD σ esz n]
theorem Zdb {lo:Nat→Prop} {hi:Nat} (esz:Nat): ∀(n:Nat) (l:List G),BelL lo hi l→BelR lo hi (Zem esz n l)
 |0,l,_,r,hr=>by cases hr
 |n+1,l,h,r,hr=>by
  rcases z'v.1 hr with rfl|hr
  ·exact h.take _
  ·exact Zdb esz n _ (h.drop _) r hr
noncomputable def Zal (kd:Kd) (n:Nat) (env:Env) (ps:List (Nat×Operand)):Option G:=match kd with
 | .slice e esz _ _ ez=>match ZbR ez with
  |some z=>match Zc9 env (fun i=>some (i*esz,esz)) (List.replicate n z).flatten ps with
   |some l=>match l.all Zek&&Nat.ble (n*esz) 16777216 with|true=>some (.sl true esz (Zem esz n l))|false=>none
   |none=>none
  |none=>none
 |_=>none
theorem ZhS {kd:Kd} {n:Nat} {env:Env} {ps:List (Nat×Operand)} {g:G} (h:Zal kd n env ps=some g) {σ:Nm} {H:Heap} {K:D→Heap→Prop} (hk:K (g.d σ) H):
  cBuildSlice kd n (ps.map fun p=>(p.1,evD (cE σ env) p.2)) H K:=by
 unfold Zal at h
 split at h
 ·split at h
  ·rename_i z hz
   split at h
   ·rename_i l hl
    split at h
    ·rename_i hb
     cases h
     rw[z'd]at hb
     have hf:=Zef σ ps _ l hl
     have e:((List.replicate n z).flatten).map (G.d σ)=(List.replicate n (z.map (G.d σ))).flatten:=by simp[List.map_flatten]
     rw[e]at hf
     simp only[cBuildSlice,ZbE hz σ,hf]
     exact⟨⟨ZaF hb.1 σ,z'F hb.2⟩,by rw[ZbD, ←G.dr_eq];exact hk⟩
    ·cases h
   ·cases h
  ·cases h
 ·cases h
theorem Zg2 {kd:Kd} {n:Nat} {env:Env} {ps:List (Nat×Operand)} {g:G} (h:Zal kd n env ps=some g) {lo:Nat→Prop} {hi:Nat} (he:BelE lo hi env):Bel lo hi g:=by
 unfold Zal at h
 split at h
 ·split at h
  ·rename_i z hz
   split at h
   ·rename_i l hl
    split at h
    ·cases h
     refine Bel.sl (Zdb _ _ _ (Zda he ps _ l (fun g hg=>?_) hl))
     obtain⟨r,hr,hg⟩:=List.mem_flatten.1 hg
     exact ZaZ hz g ((List.mem_replicate.1 hr).2▸hg)
    ·cases h
   ·cases h
  ·cases h
 ·cases h
noncomputable def gXs (env:Env):List Operand→Option (List G)
 |[]=>some []
 |x::r=>match gX env x with
  |some g=>match gXs env r with|some l=>some (g::l)|none=>none
  |none=>none
theorem Zb5 {env:Env} (σ:Nm): ∀{l:List Operand} {gs:List G},gXs env l=some gs→l.map (evD (cE σ env))=gs.map (G.d σ)
 |[],gs,h=>by cases h;rfl
 |x::r,gs,h=>by
  unfold gXs at h
  split at h
  ·rename_i g hg
   split at h
   ·rename_i l hl
    cases h
    rw[z'p,z'p,z'2 hg σ,Zb5 σ hl]
   ·cases h
  ·cases h
theorem Zcs {env:Env} {lo:Nat→Prop} {hi:Nat} (he:BelE lo hi env): ∀{l:List Operand} {gs:List G},gXs env l=some gs→BelL lo hi gs
 |[],gs,h=>by cases h;intro g hg;cases hg
 |x::r,gs,h=>by
  unfold gXs at h
  split at h
  ·rename_i g hg
   split at h
   ·rename_i l hl
    cases h
    intro y hy
    rcases z'v.1 hy with rfl|hy
    ·exact x'F hg he
    ·exact Zcs he hl y hy
   ·cases h
  ·cases h
noncomputable def gXo (env:Env):Option Operand→Option (Option G)
 |none=>some none
 |some x=>match gX env x with|some g=>some (some g)|none=>none
theorem Ze5 {env:Env} {x:Option Operand} {g:Option G} (h:gXo env x=some g) (σ:Nm):x.map (evD (cE σ env))=g.map (G.d σ):=by
 unfold gXo at h
 split at h
 ·cases h;rfl
 ·split at h
  ·rename_i hg;cases h;rw[y'l,y'l,z'2 hg σ]
  ·cases h
theorem ZsZ {P:Program} {o:Oper} {E:Operand→D} {H:Heap} {K:D→Heap→Prop} {x y:Operand} {ts:Array TypeId} {k:IntKind} {a b:Int} (ho:o.op= .call ⟨.builtin .max, #[x,y],ts⟩) (ha:E x= .is (.int k a)) (hb:E y= .is (.int k b)) (hk:K (.is (.int k (max a b))) H):Op1 P o E H K:=by
 refine Op1.value (d:= .is (.int k (max a b))) (fun w L0 ε hi hx=>?_) hk
 have h1:=hx x (by simp[ho,Op.operands,Call.operands])
 have h2:=hx y (by simp[ho,Op.operands,Call.operands])
 rw[ha]at h1;rw[hb]at h2
 have h1':ε x= .int k a:=h1
 have h2':ε y= .int k b:=h2
 refine⟨.int k (max a b),?_,rfl⟩
 simp only[execOp,ho,resolve,invoke,builtin]
 simp[go_sem,h1',h2',Builtin.max_,Builtin.max2]
 split<;>omega
theorem ZrP {P:Program} {o:Oper} {E:Operand→D} {H:Heap} {K:D→Heap→Prop} {x y z:Operand} {ts:Array TypeId} {k:IntKind} {a b c:Int} (ho:o.op= .call ⟨.builtin .max, #[x,y,z],ts⟩) (ha:E x= .is (.int k a)) (hb:E y= .is (.int k b)) (hc:E z= .is (.int k c)) (hk:K (.is (.int k (max (max a b) c))) H):Op1 P o E H K:=by
 refine Op1.value (d:= .is (.int k (max (max a b) c))) (fun w L0 ε hi hx=>?_) hk
 have h1:=hx x (by simp[ho,Op.operands,Call.operands])
 have h2:=hx y (by simp[ho,Op.operands,Call.operands])
 have h3:=hx z (by simp[ho,Op.operands,Call.operands])
 rw[ha]at h1;rw[hb]at h2;rw[hc]at h3
 have h1':ε x= .int k a:=h1
 have h2':ε y= .int k b:=h2
 have h3':ε z= .int k c:=h3
 refine⟨.int k (max (max a b) c),?_,rfl⟩
 simp only[execOp,ho,resolve,invoke,builtin]
 simp[go_sem,h1',h2',h3',Builtin.max_,Builtin.max2]
 split<;>split<;>omega
def ZeY (x y:G):Option G:=match x,y with
 | .int k a,.int k' b=>match decide (k'=k)with|true=>some (.int k (max a b))|false=>none
 |_,_=>none
theorem ZjZ {x y g:G} (h:ZeY x y=some g): ∃k a b,x= .int k a∧y= .int k b∧g= .int k (max a b):=by
 unfold ZeY at h
 split at h
 ·split at h
  ·rename_i hk
   simp only[decide_eq_true_eq]at hk
   subst hk
   exact⟨_,_,_,rfl,rfl,(z'W h).symm⟩
  ·cases h
 ·cases h
theorem ZjY {x y g:G} (h:ZeY x y=some g) {lo:Nat→Prop} {hi:Nat}:Bel lo hi g:=by
 unfold ZeY at h
 split at h
 ·split at h
  ·cases h;exact Bel.int
  ·cases h
 ·cases h
theorem Zs0 {P:Program} {o:Oper} {E:Operand→D} {H:Heap} {K:D→Heap→Prop} {x y:Operand} {ts:Array TypeId} {k:IntKind} {a b:Int} (ho:o.op= .call ⟨.builtin .min, #[x,y],ts⟩) (ha:E x= .is (.int k a)) (hb:E y= .is (.int k b)) (hk:K (.is (.int k (min a b))) H):Op1 P o E H K:=by
 refine Op1.value (d:= .is (.int k (min a b))) (fun w L0 ε hi hx=>?_) hk
 have h1:=hx x (by simp[ho,Op.operands,Call.operands])
 have h2:=hx y (by simp[ho,Op.operands,Call.operands])
 rw[ha]at h1;rw[hb]at h2
 have h1':ε x= .int k a:=h1
 have h2':ε y= .int k b:=h2
 refine⟨.int k (min a b),?_,rfl⟩
 simp only[execOp,ho,resolve,invoke,builtin]
 simp[go_sem,h1',h2',Builtin.min_,Builtin.min2]
 split<;>omega
def ZmK (x y:G):Option G:=match x,y with
 | .int k a,.int k' b=>match decide (k'=k)with|true=>some (.int k (min a b))|false=>none
 |_,_=>none
theorem Zpm {x y g:G} (h:ZmK x y=some g) {lo:Nat→Prop} {hi:Nat}:Bel lo hi g:=by
 unfold ZmK at h
 split at h
 ·split at h
  ·cases h;exact Bel.int
  ·cases h
 ·cases h
def Zpn (fn:Fn) (first:List Operand) (gs:List G):Option G:=match fn,first with
 | .func f,[]=>match gs.all G.isV with|true=>some (.fn f gs)|false=>none
 |_,_=>none
noncomputable def ZdJ (n esz:Nat) (ty:TyI) (env:Env) (ps:List (Nat×Operand)):Option G:=match ZbR ty.zero with
 |some z=>match Zc9 env (fun i=>some (i*esz,esz)) z ps with
  |some l=>match l.all Zek with|true=>some (.agg l)|false=>none
  |none=>none
 |none=>none
theorem Zlb {n esz:Nat} {ty:TyI} {env:Env} {ps:List (Nat×Operand)} {g:G} (h:ZdJ n esz ty env ps=some g) {lo:Nat→Prop} {hi:Nat} (he:BelE lo hi env):Bel lo hi g:=by
 unfold ZdJ at h
 split at h
 ·rename_i z hz
  split at h
  ·rename_i l hl
   split at h
   ·cases h;exact Bel.agg (Zda he ps z l (ZaZ hz) hl)
   ·cases h
  ·cases h
 ·cases h
theorem ZmA {P:Program} (T:Tab P) {o:Oper} {t:TypeId} {n esz:Nat} {ea:Bool} {env:Env} {ps:List (Nat×Operand)} {g:G} (ho:o.op= .build t ps.toArray) (hk0:kdT (T.get t)= .array n esz ea) (h:ZdJ n esz (T.get t) env ps=some g) {σ:Nm} {H:Heap} {K:D→Heap→Prop} (hk:K (g.d σ) H):Op1 P o (evD (cE σ env)) H K:=by
 unfold ZdJ at h
 split at h
 ·rename_i z hz
  split at h
  ·rename_i l hl
   split at h
   ·rename_i hone
    cases h
    refine ZeG T (l:=l.map (G.d σ)) ho hk0 ?_ (ZaF hone σ) (by simpa only[G.d,G.dl_eq]using hk)
    rw[ZbE hz σ]
    exact Zef σ ps z l hl
   ·cases h
  ·cases h
 ·cases h
noncomputable def ZhY (n esz:Nat) (x i:G):Option G:=match x,i with
 | .ptr b off,.int _ m=>match ixN n m with|some j=>some (.ptr b (off+j*esz))|none=>none
 |_,_=>none
noncomputable def Zpg (P:Program) (t:TypeId) (x y:G):Option Bool:=match P.underlying t,x,y with
 |some (.int _),.int k a,.int k' b=>match Nat.beq (kTag k) (kTag k')with|true=>some (a == b)|false=>none
 |some .string,.str a,.str b=>some (eqB a b)
 |some .bool,.bool a,.bool b=>some (a == b)
 |_,_,_=>none
noncomputable def ZjP (P:Program) (xs ys:List G):List Field→Option Bool
 |[]=>some true
 |f::r=>match decide (f.name= "_")with
  |true=>ZjP P xs ys r
  |false=>match gIx xs f.offset,gIx ys f.offset with
   |some x,some y=>match Zpg P f.type x y with
    |some true=>ZjP P xs ys r
    |some false=>some false
    |none=>none
   |_,_=>none
noncomputable def Zph (P:Program) (t:TypeId) (xs ys:List G):Option Bool:=match P.underlying t with
 |some (.struct fs)=>match P.stoodInHeld t,P.eqGuardType P.depth t,xs.all G.isV&&ys.all G.isV with
  |false,false,true=>ZjP P xs ys fs.toList
  |_,_,_=>none
 |_=>none
theorem Zlv {P:Program} {t:TypeId} {x y:G} {r:Bool} (h:Zpg P t x y=some r) {σ:Nm} {xs ys:Array Value} {i d:Nat} (h1:xs[i]?=some (x.v σ)) (h2:ys[i]?=some (y.v σ)) (w:World):
  (part t xs i).run P w= .ok (x.v σ) w∧(part t ys i).run P w= .ok (y.v σ) w∧(Op.equalIn (d+1) t (x.v σ) (y.v σ)).run P w= .ok r w:=by
 unfold Zpg at h
 split at h
 ·rename_i k0 k a k' b hu
  split at h
  ·rename_i hk
   obtain rfl:=ZeA (beq_iff_eq.2 (z's hk))
   cases h
   exact⟨by simp[part,isAgg,run_underlying hu,h1],by simp[part,isAgg,run_underlying hu,h2],run_equalIn_int w d t k k0 a b hu⟩
  ·cases h
 ·rename_i a b hu
  cases h
  refine⟨by simp[part,isAgg,run_underlying hu,h1],by simp[part,isAgg,run_underlying hu,h2],?_⟩
  have:=run_equalIn_string w d t (x'R a) (x'R b) hu
  rw[show(G.str a).v σ= .string (x'R a) from rfl,show(G.str b).v σ= .string (x'R b) from rfl,this,ByteArray.toList_eq,ByteArray.toList_eq,ZgV]
  exact congrArg (fun b=>Result.ok b w) (show(a == b)=decide (a=b) by by_cases e:a=b<;>simp[e])
 ·rename_i a b hu
  cases h
  exact⟨by simp[part,isAgg,run_underlying hu,h1],by simp[part,isAgg,run_underlying hu,h2],run_equalIn_bool' w d t a b hu⟩
 ·cases h
theorem ZhU {P:Program} {xs ys:List G} {σ:Nm} {d:Nat}: ∀{fs:List Field} {r:Bool},ZjP P xs ys fs=some r→ ∀w,(Op.eqFields (d+1) (xs.map (G.v σ)).toArray (ys.map (G.v σ)).toArray fs).run P w= .ok r w
 |[],r,h,w=>by cases h;rfl
 |f::fs,r,h,w=>by
  unfold ZjP at h
  unfold Op.eqFields
  split at h
  ·rename_i hn
   rw[if_neg (by simpa using hn)]
   exact ZhU h w
  ·rename_i hn
   rw[if_pos (by simpa using hn)]
   split at h
   ·rename_i x y hx hy
    rw[w'T]at hx hy
    have e1:((xs.map (G.v σ)).toArray)[f.offset]?=some (x.v σ):=by simp[hx]
    have e2:((ys.map (G.v σ)).toArray)[f.offset]?=some (y.v σ):=by simp[hy]
    split at h
    ·rename_i hq
     obtain⟨k1,k2,k3⟩:=Zlv hq e1 e2 (d:=d) w
     rw[z'h k1,z'h k2,z'h k3]
     exact ZhU h w
    ·rename_i hq
     obtain⟨k1,k2,k3⟩:=Zlv hq e1 e2 (d:=d) w
     cases h
     rw[z'h k1,z'h k2,z'h k3]
     rfl
    ·cases h
   ·cases h
theorem Zrc {P:Program} {t:TypeId} {xs ys:List G} {r:Bool} (h:Zph P t xs ys=some r) (σ:Nm):EqS P t (xs.map (G.v σ)) (ys.map (G.v σ)) r∧xs.map (G.d σ)=(xs.map (G.v σ)).map D.is∧ys.map (G.d σ)=(ys.map (G.v σ)).map D.is:=by
 unfold Zph at h
 split at h
 ·rename_i fs hu
  split at h
  ·rename_i h1 h2 h3
   rw[z'd]at h3
   have key: ∀{l:List G},l.all G.isV=true→l.map (G.d σ)=(l.map (G.v σ)).map D.is:=fun{l} hl=>by
    rw[List.map_map]
    refine y'N fun g hg=>?_
    have:=z'l.1 hl g hg
    cases g<;>first|rfl|cases this
   have hf:P.fieldsOf t=fs:=by simp[Program.fieldsOf,hu]
   refine⟨⟨h2,fun w=>?_⟩,key h3.1,key h3.2⟩
   rw[show(10000:Nat)=9999+1 from rfl,run_equalIn_agg w 9999 t _ _ (by rw[hf];exact hu) h1,hf]
   exact ZhU h w
  ·cases h
 ·cases h
theorem Zp8 {P:Program} {o:Oper} {E:Operand→D} {H:Heap} {K:D→Heap→Prop} {op:BinOp} {t u e:TypeId} {x y:Operand} {p:Option Addr} {r':Bool} (ho:o.op= .binOp op t x y u) (hu:P.underlying t=some (.pointer e)) (hx0:E x= .is (.pointer p)) (hy0:E y= .is (.pointer none))
  (hr:Zfy op p.isNone=some r') (hk:K (.is (.bool r')) H):Op1 P o E H K:=by
 refine Op1.value (d:= .is (.bool r')) (fun w L0 ε hi hx=>?_) hk
 have h1:=hx x (by simp[ho,Op.operands])
 have h2:=hx y (by simp[ho,Op.operands])
 rw[hx0]at h1;rw[hy0]at h2
 have h1':ε x= .pointer p:=h1
 have h2':ε y= .pointer none:=h2
 have hu':P.underlying t=some (.pointer (P.pointee t)):=by simp[Program.pointee,hu]
 have hg:(eqGuard op t x y (.pointer p) (.pointer none)).run P w= .ok () w:=x'U trivial
 refine⟨.bool r',?_,rfl⟩
 simp only[execOp,ho,h1',h2']
 refine(z'h (a:= .bool r') (w':=w) ?_).trans rfl
 rw[z'h hg]
 cases op<;>simp only[Zfy,z'L,reduceCtorEq]at hr
 ·subst hr;exact run_eql_pointer_nil w t p hu'
 ·subst hr;exact run_neq_pointer_nil w t p hu'
noncomputable def Zcr (P:Program) (op:BinOp) (t:TypeId) (nil:Bool):Option G:=match P.underlying t with
 |some (.pointer _)=>match Zfy op nil with|some r=>some (.bool r)|none=>none
 |_=>none
theorem Zf9 {P:Program} {op:BinOp} {t:TypeId} {nil:Bool} {g:G} (h:Zcr P op t nil=some g) {lo:Nat→Prop} {hi:Nat}:Bel lo hi g:=by
 unfold Zcr at h
 split at h
 ·split at h
  ·cases h;exact Bel.bool
  ·cases h
 ·cases h
theorem Zhd {P:Program} {op:BinOp} {t u:TypeId} {nil:Bool} {g:G} {o:Oper} {x y:Operand} {env:Env} {p:Option Addr} {σ:Nm} {H:Heap} {K:D→Heap→Prop} (ho:o.op= .binOp op t x y u) (h:Zcr P op t nil=some g) (hp:p.isNone=nil) (h1:evD (cE σ env) x= .is (.pointer p)) (h2:evD (cE σ env) y= .is (.pointer none)) (hk:K (g.d σ) H):Op1 P o (evD (cE σ env)) H K:=by
 unfold Zcr at h
 split at h
 ·rename_i e hu
  split at h
  ·rename_i r hr
   cases h
   exact Zp8 ho hu h1 h2 (by rw[hp];exact hr) hk
  ·cases h
 ·cases h
def Zk3 (k:IntKind) (x y:Int):Int:=k.wrap ((BitVec.ofInt k.bits x^^^BitVec.ofInt k.bits y).toNat:Nat)
theorem Zs3 {P:Program} {o:Oper} {E:Operand→D} {H:Heap} {t u:TypeId} {x y:Operand} {k:IntKind} {a b:Int} {K:D→Heap→Prop} (ho:o.op= .binOp .xor t x y u) (ha:E x= .is (.int k a)) (hb:E y= .is (.int k b))
  (hk:K (.is (.int k (Zk3 k a b))) H):Op1 P o E H K:=by
 refine Op1.value (d:= .is (.int k (Zk3 k a b))) (fun w L0 ε hi hx=>?_) hk
 have h1:=hx x (by simp[ho,Op.operands])
 have h2:=hx y (by simp[ho,Op.operands])
 rw[ha]at h1;rw[hb]at h2
 have h1':ε x= .int k a:=h1
 have h2':ε y= .int k b:=h2
 have hg:(eqGuard .xor t x y (.int k a) (.int k b)).run P w= .ok () w:=x'U trivial
 refine⟨.int k (Zk3 k a b),?_,rfl⟩
 simp only[execOp,ho,h1',h2']
 rw[z'h (a:=Value.int k (Zk3 k a b)) (w':=w) (by rw[z'h hg];simp only[binOp,ne_eq,not_true_eq_false,if_false,Op.intBits];rfl)]
 rfl
def Zjo (k:IntKind) (x y:Int):Int:=k.wrap ((BitVec.ofInt k.bits x&&&BitVec.ofInt k.bits y).toNat:Nat)
theorem ZsX {P:Program} {o:Oper} {E:Operand→D} {H:Heap} {t u:TypeId} {x y:Operand} {k:IntKind} {a b:Int} {K:D→Heap→Prop} (ho:o.op= .binOp .and t x y u) (ha:E x= .is (.int k a)) (hb:E y= .is (.int k b))
  (hk:K (.is (.int k (Zjo k a b))) H):Op1 P o E H K:=by
 refine Op1.value (d:= .is (.int k (Zjo k a b))) (fun w L0 ε hi hx=>?_) hk
 have h1:=hx x (by simp[ho,Op.operands])
 have h2:=hx y (by simp[ho,Op.operands])
 rw[ha]at h1;rw[hb]at h2
 have h1':ε x= .int k a:=h1
 have h2':ε y= .int k b:=h2
 have hg:(eqGuard .and t x y (.int k a) (.int k b)).run P w= .ok () w:=x'U trivial
 refine⟨.int k (Zjo k a b),?_,rfl⟩
 simp only[execOp,ho,h1',h2']
 rw[z'h (a:=Value.int k (Zjo k a b)) (w':=w) (by rw[z'h hg];simp only[binOp,ne_eq,not_true_eq_false,if_false,Op.intBits];rfl)]
 rfl
def ZkS (k:IntKind) (x y:Int):Int:=x.fdiv (2^min y.toNat k.bits)
theorem Zs1 {P:Program} {o:Oper} {E:Operand→D} {H:Heap} {t u:TypeId} {x y:Operand} {k k':IntKind} {a b:Int} {K:D→Heap→Prop} (ho:o.op= .binOp .shr t x y u) (ha:E x= .is (.int k a)) (hb:E y= .is (.int k' b)) (h0:0≤b)
  (hk:K (.is (.int k (ZkS k a b))) H):Op1 P o E H K:=by
 refine Op1.value (d:= .is (.int k (ZkS k a b))) (fun w L0 ε hi hx=>?_) hk
 have h1:=hx x (by simp[ho,Op.operands])
 have h2:=hx y (by simp[ho,Op.operands])
 rw[ha]at h1;rw[hb]at h2
 have h1':ε x= .int k a:=h1
 have h2':ε y= .int k' b:=h2
 have hg:(eqGuard .shr t x y (.int k a) (.int k' b)).run P w= .ok () w:=x'U trivial
 refine⟨.int k (ZkS k a b),?_,rfl⟩
 simp only[execOp,ho,h1',h2']
 rw[z'h (a:=Value.int k (ZkS k a b)) (w':=w) (by rw[z'h hg];simp only[binOp,Op.shift];rw[if_neg (by omega)];rfl)]
 rfl
def Zg1 (op:BinOp) (x y:G):Option G:=match op,x,y with
 | .xor,.int k a,.int k' b=>match decide (k'=k)with|true=>some (.int k (Zk3 k a b))|false=>none
 | .and,.int k a,.int k' b=>match decide (k'=k)with|true=>some (.int k (Zjo k a b))|false=>none
 | .shr,.int k a,.int _ b=>match decide (0≤b)with|true=>some (.int k (ZkS k a b))|false=>none
 |_,_,_=>none
theorem ZnP {op:BinOp} {x y g:G} (h:Zg1 op x y=some g) {lo:Nat→Prop} {hi:Nat}:Bel lo hi g:=by
 unfold Zg1 at h
 split at h
 ·split at h<;>cases h;exact Bel.int
 ·split at h<;>cases h;exact Bel.int
 ·split at h<;>cases h;exact Bel.int
 ·cases h
theorem Zpc {P:Program} {op:BinOp} {t u:TypeId} {gx gy g:G} {o:Oper} {x y:Operand} {env:Env} {σ:Nm} {H:Heap} {K:D→Heap→Prop} (ho:o.op= .binOp op t x y u) (h:Zg1 op gx gy=some g) (h1:evD (cE σ env) x=gx.d σ) (h2:evD (cE σ env) y=gy.d σ) (hk:K (g.d σ) H):Op1 P o (evD (cE σ env)) H K:=by
 unfold Zg1 at h
 split at h
 ·split at h
  ·rename_i hq;simp only[decide_eq_true_eq]at hq;subst hq;cases h;exact Zs3 ho h1 h2 hk
  ·cases h
 ·split at h
  ·rename_i hq;simp only[decide_eq_true_eq]at hq;subst hq;cases h;exact ZsX ho h1 h2 hk
  ·cases h
 ·split at h
  ·rename_i hq;simp only[decide_eq_true_eq]at hq;cases h;exact Zs1 ho h1 h2 hq hk
  ·cases h
 ·cases h
noncomputable def ZfF {P:Program} (T:Tab P) (env:Env) (c:Operand) (a:Operand) (b:Operand):Option G:=match gX env c,gX env a,gX env b with
 |some c,some a,some b=>Zhc c a b
 |_,_,_=>none
noncomputable def Zer {P:Program} (T:Tab P) (env:Env) (op:BinOp) (t:TypeId) (x:Operand) (y:Operand):Option G:=match gX env x,gX env y with
 |some (.agg xs),some (.agg ys)=>match Zph P t xs ys with
  |some r=>match Zfy op r with|some r'=>some (.bool r')|none=>none
  |none=>none
 |some (.ptr _ _),some (.val (.pointer none))=>Zcr P op t false
 |some (.val (.pointer none)),some (.val (.pointer none))=>Zcr P op t true
 |some x,some y=>match ZjL (kdT (T.get t)) op x y with
  |some g=>some g
  |none=>Zg1 op x y
 |_,_=>none
noncomputable def ZfG {P:Program} (T:Tab P) (env:Env) (op:UnOp) (x:Operand):Option G:=match gX env x with|some x=>gUn op x|none=>none
noncomputable def Zbd {P:Program} (T:Tab P) (env:Env) (t:TypeId) (x:Operand) (f:Nat):Option G:=match gX env x with|some x=>Zbb (fieldAt (kdT (T.get t)) f) x|none=>none
noncomputable def Zeu {P:Program} (T:Tab P) (env:Env) (t:TypeId) (x:Operand) (f:Nat):Option G:=match gX env x with|some x=>ZeW (fieldAt (kdT (T.get t)) f) x|none=>none
noncomputable def Zbe {P:Program} (T:Tab P) (env:Env) (t:TypeId) (x:Operand) (i:Operand):Option G:=match gX env x,gX env i with
 |some x,some i=>match kdT (T.get t)with
  | .array n esz _=>ZhY n esz x i
  |kd=>Zbc kd x i
 |_,_=>none
noncomputable def Zev {P:Program} (T:Tab P) (env:Env) (t:TypeId) (x:Operand) (i:Operand):Option G:=match gX env x,gX env i with
 |some x,some i=>ZeX (kdT (T.get t)) x i
 |_,_=>none
noncomputable def Zcn {P:Program} (T:Tab P) (env:Env) (x:Operand) (i:Nat):Option G:=match gX env x with|some x=>ZcA x i|none=>none
noncomputable def ZbQ {P:Program} (T:Tab P) (env:Env) (x:Operand):Option G:=match gX env x with|some x=>Zj2 x|none=>none
noncomputable def Zes {P:Program} (T:Tab P) (env:Env) (t:TypeId) (ps:Array (Nat×Operand)):Option G:=match kdT (T.get t)with
 | .array n esz _=>ZdJ n esz (T.get t) env ps.toList
 |_=>ZeS (T.get t) env ps.toList
noncomputable def Zat {P:Program} (T:Tab P) (env:Env) (t:TypeId) (n:Nat) (ps:Array (Nat×Operand)):Option G:=Zal (kdT (T.get t)) n env ps.toList
noncomputable def Zew {P:Program} (T:Tab P) (env:Env) (t:TypeId) (x:Operand) (lo:Option Operand) (hi:Option Operand) (mx:Option Operand):Option G:=match gX env x,gXo env lo,gXo env hi,gXo env mx with
 |some x,some lo,some hi,some mx=>Ze3 (kdT (T.get t)) x lo hi mx
 |_,_,_,_=>none
noncomputable def Zet {P:Program} (T:Tab P) (env:Env) (t:TypeId) (u:TypeId) (x:Operand):Option G:=match gX env x with|some x=>Zfz (kdElem T.get (kdT (T.get t))) (kdT (T.get t)) (kdT (T.get u)) x|none=>none
noncomputable def v'A {P:Program} (T:Tab P) (env:Env) (t:TypeId) (x:Operand):Option G:=match gX env x with|some x=>ZmL P t x|none=>none
noncomputable def ZbP {P:Program} (T:Tab P) (env:Env) (fn:Fn) (first:Array Operand) (cs:Array Operand):Option G:=match gXs env cs.toList with|some gs=>Zpn fn first.toList gs|none=>none
noncomputable def Zh5 {P:Program} (T:Tab P) (env:Env) (c:Call):Option G:=match c with
 |⟨.builtin .len,az,ts⟩=>match az.toList,ts.toList with
  |[x],[t]=>match gX env x with|some x=>Zh0 (kdT (T.get t)) x|none=>none
  |_,_=>none
 |⟨.builtin .max,az,ts⟩=>match az.toList with
  |[x,y]=>match gX env x,gX env y with
   |some x,some y=>ZeY x y
   |_,_=>none
  |[x,y,z]=>match gX env x,gX env y,gX env z with
   |some x,some y,some z=>match ZeY x y with|some u=>ZeY u z|none=>none
   |_,_,_=>none
  |_=>none
 |⟨.builtin .min,az,ts⟩=>match az.toList with
  |[x,y]=>match gX env x,gX env y with
   |some x,some y=>ZmK x y
   |_,_=>none
  |_=>none
 |_=>none
noncomputable def Zgt {P:Program} (T:Tab P) (env:Env) (op:Op):Option G:=match op with
 | .move x=>gX env x
 | .assign x=>gX env x
 | .pick c a b=>ZfF T env c a b
 | .binOp op t x y _=>Zer T env op t x y
 | .unOp op _ x=>ZfG T env op x
 | .fieldAddr t x f=>Zbd T env t x f
 | .field t x f=>Zeu T env t x f
 | .indexAddr t x i=>Zbe T env t x i
 | .index t x i=>Zev T env t x i
 | .extract x i=>Zcn T env x i
 | .nilCheck x=>ZbQ T env x
 | .build t ps=>Zes T env t ps
 | .buildSlice t n ps=>Zat T env t n ps
 | .slice t x lo hi mx=>Zew T env t x lo hi mx
 | .convert t u x=>Zet T env t u x
 | .makeInterface t x=>v'A T env t x
 | .makeFunc fn first cs=>ZbP T env fn first cs
 | .call c=>Zh5 T env c
 |_=>none
theorem Zh6 {P:Program} (T:Tab P) {env:Env} {o:Oper} {g:G} (h:Zgt T env o.op=some g) {σ:Nm} {H:Heap} {K:D→Heap→Prop} (hk:K (g.d σ) H):Op1 P o (evD (cE σ env)) H K:=by
 unfold Zgt at h
 split at h
 ·rename_i ho;exact Zhu (.inl ho) (by rw[z'2 h];exact hk)
 ·rename_i ho;exact Zhu (.inr ho) (by rw[z'2 h];exact hk)
 ·rename_i ho
  unfold ZfF at h
  split at h
  ·rename_i h1 h2 h3;exact Zow ho (by rw[z'2 h1,z'2 h2,z'2 h3];exact Zps h hk)
  ·cases h
 ·rename_i ho
  unfold Zer at h
  split at h
  ·rename_i h1 h2
   split at h
   ·rename_i r hr
    split at h
    ·rename_i r' hr'
     cases h
     obtain⟨q1,q2,q3⟩:=Zrc hr σ
     exact Op1.eqS ho q1 (by rw[z'2 h1,G.d,G.dl_eq,q2]) (by rw[z'2 h2,G.d,G.dl_eq,q3]) hr' hk
    ·cases h
   ·cases h
  ·rename_i h1 h2;exact Zhd ho h rfl (z'2 h1 σ) (z'2 h2 σ) hk
  ·rename_i h1 h2;exact Zhd ho h rfl (z'2 h1 σ) (z'2 h2 σ) hk
  ·rename_i h1 h2
   split at h
   ·rename_i hb;cases h;exact ZqL T ho (by rw[z'2 h1,z'2 h2];exact Zra hb hk)
   ·exact Zpc ho h (z'2 h1 σ) (z'2 h2 σ) hk
  ·cases h
 ·rename_i ho
  unfold ZfG at h
  split at h
  ·rename_i h1;exact Zs2 ho (by rw[z'2 h1];exact Zss h hk)
  ·cases h
 ·rename_i ho
  unfold Zbd at h
  split at h
  ·rename_i h1;exact Zgc T ho (by rw[z'2 h1];exact Zi0 h hk)
  ·cases h
 ·rename_i ho
  unfold Zeu at h
  split at h
  ·rename_i h1;exact Zl2 T ho (by rw[z'2 h1];exact ZnU h hk)
  ·cases h
 ·rename_i ho
  unfold Zbe at h
  split at h
  ·rename_i h1 h2
   split at h
   ·rename_i n esz ea hkd
    unfold ZhY at h
    split at h
    ·split at h
     ·rename_i hix
      cases h
      obtain⟨rfl,hlt⟩:=Zhi hix
      exact ZkG T ho hkd (z'2 h1 σ) (z'2 h2 σ) (by omega) (by rw[z'b];exact hk)
     ·cases h
    ·cases h
   ·exact Zgd T ho (by rw[z'2 h1,z'2 h2];exact Zi1 h hk)
  ·cases h
 ·rename_i ho
  unfold Zev at h
  split at h
  ·rename_i h1 h2;exact Zl4 T ho (by rw[z'2 h1,z'2 h2];exact ZnV h hk)
  ·cases h
 ·rename_i ho
  unfold Zcn at h
  split at h
  ·rename_i h1;exact ZiO ho (by rw[z'2 h1];exact Zlc h hk)
  ·cases h
 ·rename_i ho
  unfold ZbQ at h
  split at h
  ·rename_i h1;exact ZqO ho (by rw[z'2 h1];exact Zrg h hk)
  ·cases h
 ·rename_i t ps ho
  unfold Zes at h
  split at h
  ·rename_i n esz ea hkd;exact ZmA T (ps:=ps.toList) (by simpa using ho) hkd h hk
  ·exact Zl1 T (ps:=ps.toList) (by simpa using ho) (ZnR h hk)
 ·rename_i t n ps ho
  unfold Zat at h
  exact Zfk T (ps:=ps.toList) (by simpa using ho) (ZhS h hk)
 ·rename_i ho
  unfold Zew at h
  split at h
  ·rename_i h1 h2 h3 h4;exact Zl7 T ho (by rw[z'2 h1,Ze5 h2,Ze5 h3,Ze5 h4];exact ZnZ h hk)
  ·cases h
 ·rename_i ho
  unfold Zet at h
  split at h
  ·rename_i h1;exact Zif T ho (by rw[z'2 h1];exact ZjO h hk)
  ·cases h
 ·rename_i ho
  unfold v'A at h
  split at h
  ·rename_i h1;exact ZqN ho (by rw[z'2 h1];exact Zrf h hk)
  ·cases h
 ·rename_i fn first cs ho
  unfold ZbP at h
  split at h
  ·rename_i gs h1
   unfold Zpn at h
   split at h
   ·rename_i f hf
    split at h
    ·rename_i hv
     cases h
     have hf':first= #[]:=by rw[←Array.toList_inj];exact hf
     subst hf'
     refine w'h (cs:=cs.toList) (us:=gs.map (G.v σ)) (by simpa using ho) ?_ hk
     rw[Zb5 σ h1,List.map_map]
     exact y'N fun g hg=>G.isV_d (z'l.1 hv g hg)
    ·cases h
   ·cases h
  ·cases h
 ·rename_i c ho
  unfold Zh5 at h
  split at h
  ·rename_i az ts
   split at h
   ·rename_i x t hx ht
    have e1:az= #[x]:=by rw[←Array.toList_inj];exact hx
    have e2:ts= #[t]:=by rw[←Array.toList_inj];exact ht
    subst e1;subst e2
    split at h
    ·rename_i h1;exact Zm3 T ho (by rw[z'2 h1];exact ZlB h hk)
    ·cases h
   ·cases h
  ·rename_i az ts
   split at h
   ·rename_i x y hx
    have e1:az= #[x,y]:=by rw[←Array.toList_inj];exact hx
    subst e1
    split at h
    ·rename_i h1 h2
     unfold ZeY at h
     split at h
     ·split at h
      ·rename_i hkk
       cases h
       simp only[decide_eq_true_eq]at hkk
       subst hkk
       exact ZsZ ho (z'2 h1 σ) (z'2 h2 σ) hk
      ·cases h
     ·cases h
    ·cases h
   ·rename_i x y z hx
    have e1:az= #[x,y,z]:=by rw[←Array.toList_inj];exact hx
    subst e1
    split at h
    ·rename_i h1 h2 h3
     split at h
     ·rename_i u hu
      obtain⟨k,a,b,rfl,rfl,rfl⟩:=ZjZ hu
      obtain⟨k',a',c,e1,rfl,rfl⟩:=ZjZ h
      obtain⟨rfl,rfl⟩:=G.int.inj e1
      exact ZrP ho (z'2 h1 σ) (z'2 h2 σ) (z'2 h3 σ) hk
     ·cases h
    ·cases h
   ·cases h
  ·rename_i az ts
   split at h
   ·rename_i x y hx
    have e1:az= #[x,y]:=by rw[←Array.toList_inj];exact hx
    subst e1
    split at h
    ·rename_i h1 h2
     unfold ZmK at h
     split at h
     ·split at h
      ·rename_i hkk
       cases h
       simp only[decide_eq_true_eq]at hkk
       subst hkk
       exact Zs0 ho (z'2 h1 σ) (z'2 h2 σ) hk
      ·cases h
     ·cases h
    ·cases h
   ·cases h
  ·cases h
 ·cases h
theorem Zgu {P:Program} (T:Tab P) {env:Env} {op:Op} {g:G} (h:Zgt T env op=some g) {lo:Nat→Prop} {hi:Nat} (he:BelE lo hi env):Bel lo hi g:=by
 unfold Zgt at h
 split at h
 ·exact x'F h he
 ·exact x'F h he
 ·unfold ZfF at h
  split at h
  ·rename_i h1 h2 h3;exact ZnX h (x'F h2 he) (x'F h3 he)
  ·cases h
 ·unfold Zer at h
  split at h
  ·split at h
   ·split at h
    ·cases h;exact Bel.bool
    ·cases h
   ·cases h
  ·exact Zf9 h
  ·exact Zf9 h
  ·split at h
   ·rename_i hb;cases h;exact Zpb hb
   ·exact ZnP h
  ·cases h
 ·unfold ZfG at h
  split at h
  ·exact Zrj h
  ·cases h
 ·unfold Zbd at h
  split at h
  ·rename_i h1;exact ZhW h (x'F h1 he)
  ·cases h
 ·unfold Zeu at h
  split at h
  ·rename_i h1;exact ZmF h (x'F h1 he)
  ·cases h
 ·unfold Zbe at h
  split at h
  ·rename_i h1 h2
   split at h
   ·unfold ZhY at h
    split at h
    ·split at h
     ·cases h;exact(x'F h1 he).ptr_o
     ·cases h
    ·cases h
   ·exact ZhZ h (x'F h1 he)
  ·cases h
 ·unfold Zev at h
  split at h
  ·exact ZmH h
  ·cases h
 ·unfold Zcn at h
  split at h
  ·rename_i h1;exact ZjQ h (x'F h1 he)
  ·cases h
 ·unfold ZbQ at h
  split at h
  ·rename_i h1;exact Zpp h (x'F h1 he)
  ·cases h
 ·unfold Zes at h
  split at h
  ·exact Zlb h he
  ·exact ZmB h he
 ·unfold Zat at h
  exact Zg2 h he
 ·unfold Zew at h
  split at h
  ·rename_i h1 h2 h3 h4;exact ZmO h (x'F h1 he)
  ·cases h
 ·unfold Zet at h
  split at h
  ·exact ZnT h
  ·cases h
 ·unfold v'A at h
  split at h
  ·rename_i h1
   unfold ZmL at h
   split at h<;>cases h
   exact Bel.ifc (x'F h1 he)
  ·cases h
 ·unfold ZbP at h
  split at h
  ·rename_i gs h1
   unfold Zpn at h
   split at h
   ·split at h
    ·rename_i hv;cases h;exact Bel.fn hv (Zcs he h1)
    ·cases h
   ·cases h
  ·cases h
 ·unfold Zh5 at h
  split at h
  ·split at h
   ·split at h
    ·exact ZjV h
    ·cases h
   ·cases h
  ·split at h
   ·split at h
    ·exact ZjY h
    ·cases h
   ·split at h
    ·split at h
     ·exact ZjY h
     ·cases h
    ·cases h
   ·cases h
  ·split at h
   ·split at h
    ·exact Zpm h
    ·cases h
   ·cases h
  ·cases h
 ·cases h
end Go.Vc
