/- Calls at fixed data, reckoned out: one operation that makes a value. No condition. -/
import Derived.Test.YthlkpnjjkgmlkaaGreatEb
namespace Go.Vc
set_option linter.unusedSimpArgs false
set_option linter.unusedVariables false
open Go
def Zc1 (x:Option G) (dflt top:Nat):Option Nat:=match x with
 |none=>some dflt
 |some (.int _ (.ofNat n))=>match Nat.ble n top with|true=>some n|false=>none
 |_=>none
theorem ZbM {x:Option G} {dflt top n:Nat} (h:Zc1 x dflt top=some n) (hd:dflt≤top) (σ:Nm):dC (x.map (G.d σ)) top∧dV (x.map (G.d σ)) dflt=n∧n≤top:=by
 unfold Zc1 at h
 split at h
 ·cases h;exact⟨trivial,rfl,hd⟩
 ·split at h
  ·rename_i hb
   cases h
   have:=z'J hb
   refine⟨?_,rfl,this⟩
   simp only[y'D,G.d,dC,Int.ofNat_eq_natCast]
   omega
  ·cases h
 ·cases h
theorem Zpb {x:G} {dflt top n:Nat} (h:Zc1 (some x) dflt top=some n) (σ:Nm):dV (some (x.d σ)) 0=n:=by
 cases x with
 |int k m=>cases m with
  |ofNat m=>simp only[Zc1]at h;split at h<;>cases h;rfl
  |negSucc m=>cases h
 |_=>cases h
theorem Zmf (s:List UInt8) (a b:Nat):(w'm s).extract a b=w'm ((s.take b).drop a):=by
 apply ByteArray.ext
 simp[w'm,ByteArray.extract,ByteArray.copySlice,List.extract_eq_take_drop,List.drop_take]
def Zf0 (kd:Kd) (x:G) (lo hi mx:Option G):Option G:=match mx with
 |some _=>none
 |none=>match kd,x with
  | .str,.str s=>match Zc1 hi s.length s.length with
   |some h=>match Zc1 lo 0 h with|some l=>some (.str ((s.take h).drop l))|none=>none
   |none=>none
  | .slice _ esz _ _ _,.sl full esz' rows=>match Nat.beq esz' esz,Zc1 hi rows.length rows.length with
   |true,some h=>match Zc1 lo 0 h with
    |some l=>match hi with|none=>some (.sl full esz (rows.drop l))|some _=>some (.sl false esz ((rows.take h).drop l))
    |none=>none
   |_,_=>none
  | .slice _ esz _ _ _,.own b n=>match Zc1 hi n n with
   |some h=>match Zc1 lo 0 h with
    |some l=>match lo with|none=>some (.own b h)|some _=>some (.off b (l*esz) (h-l) l)
    |none=>none
   |none=>none
  | .slice ..,.nils=>match Zc1 hi 0 0,Zc1 lo 0 0 with|some _,some _=>some .nils|_,_=>none
  |_,_=>none
theorem Zpl {kd:Kd} {x g:G} {lo hi mx:Option G} (h:Zf0 kd x lo hi mx=some g) {σ:Nm} {K:D→Prop} (hk:K (g.d σ)):cSlice kd (x.d σ) (lo.map (G.d σ)) (hi.map (G.d σ)) (mx.map (G.d σ)) K:=by
 unfold Zf0 at h
 split at h
 ·cases h
 split at h
 ·rename_i s
  split at h
  ·rename_i hh e1
   split at h
   ·rename_i ll e2
    cases h
    obtain⟨a1,a2,a3⟩:=ZbM e1 (z'h _) σ
    obtain⟨b1,b2,b3⟩:=ZbM e2 (z'A _) σ
    simp only[G.d,cSlice,x'M,Za7,a2]
    exact⟨⟨a1,b1⟩,by rw[b2,Zmf];exact hk⟩
   ·cases h
  ·cases h
 ·rename_i e esz eb ea ez full esz' rows
  split at h
  ·rename_i hh hb e1
   split at h
   ·rename_i ll e2
    obtain⟨a1,a2,a3⟩:=ZbM e1 (z'h _) σ
    obtain⟨b1,b2,b3⟩:=ZbM e2 (z'A _) σ
    simp only[G.d,cSlice,x'M,G.dr_eq,z'm]
    refine⟨⟨z't hb,trivial,a1,by rw[a2];exact b1⟩,?_⟩
    cases hi with
    |none=>
     cases h
     simp only[x'M,G.d,G.dr_eq, ←List.map_drop]at hk⊢
     rw[show dV (Option.map (G.d σ) lo) 0=ll from b2];exact hk
    |some hg=>
     cases h
     simp only[y'D,G.d,G.dr_eq]at hk a2⊢
     have a2':dV (some (G.d σ hg)) 0=hh:=Zpb e1 σ
     rw[a2',show dV (Option.map (G.d σ) lo) 0=ll from b2, ←List.map_take, ←List.map_drop];exact hk
   ·cases h
  ·cases h
 ·rename_i e esz eb ea ez b n
  split at h
  ·rename_i hh e1
   split at h
   ·rename_i ll e2
    obtain⟨a1,a2,a3⟩:=ZbM e1 (z'h _) σ
    obtain⟨b1,b2,b3⟩:=ZbM e2 (z'A _) σ
    have hs:G.d σ (.own b n)= .gs (some ((σ b).1,(σ b).2)) n:=rfl
    rw[hs]
    simp only[cSlice,x'M]
    refine⟨⟨a1,by rw[a2];exact b1⟩,?_⟩
    cases lo with
    |none=>cases h;simp only[x'M];rw[a2];exact hk
    |some lg=>
     cases h
     simp only[y'D]at b2⊢
     rw[a2,b2];exact hk
   ·cases h
  ·cases h
 ·split at h
  ·rename_i e1 e2
   cases h
   obtain⟨a1,a2,a3⟩:=ZbM e1 (z'h _) σ
   obtain⟨b1,b2,b3⟩:=ZbM e2 (z'h _) σ
   exact⟨⟨a1,b1⟩,hk⟩
  ·cases h
 ·cases h
theorem Zoe {kd:Kd} {x g:G} {lo hi mx:Option G} (h:Zf0 kd x lo hi mx=some g) {a:Nat→Prop} {b:Nat} (hx:Bel a b x):Bel a b g:=by
 unfold Zf0 at h
 split at h
 ·cases h
 split at h
 ·split at h
  ·split at h<;>cases h;exact fun _ _ _=>rfl
  ·cases h
 ·split at h
  ·split at h
   ·split at h<;>cases h
    ·exact Bel.sl fun r hr=>hx.sl_r r (List.mem_of_mem_drop hr)
    ·exact Bel.sl fun r hr=>hx.sl_r r (Zaj (List.mem_of_mem_drop hr))
   ·cases h
  ·cases h
 ·split at h
  ·split at h
   ·split at h<;>cases h
    ·exact hx.own_n
    ·exact hx.own_off
   ·cases h
  ·cases h
 ·split at h<;>cases h;exact fun _ _ _=>rfl
 ·cases h
def Zic (k:IntKind):List (List G)→Option (List Int)
 |[]=>some []
 |[.int j n]::r=>match kTag j == kTag k,Zic k r with
  |true,some l=>some (n::l)
  |_,_=>none
 |_::_=>none
theorem Zll {k:IntKind} (σ:Nm) {rows:List (List G)} {l:List Int} (h:Zic k rows=some l):numsOf k (rows.map (·.map (G.d σ)))=some l:=by
 induction rows generalizing l with
 |nil=>cases h;rfl
 |cons row r ih=>
  unfold Zic at h
  split at h
  ·rename_i e;cases e
  ·rename_i j n r' e
   cases e
   split at h
   ·rename_i l' h1 h2
    cases h
    simp only[z's,y'Q,G.d,numsOf,h1,ih h2]
   ·cases h
  ·cases h
def ZgA (ke a b:Kd) (x:G):Option G:=match a,b,x with
 | .int _,.int k,.int _ n=>some (.int k (k.wrap n))
 | .slice _ _ _ _ _,.str,.sl _ 1 rows=>match ke with
  | .int .i32=>match Zic .i32 rows with|some ns=>some (.str (ZeR ns).data.toList)|none=>none
  | .int .u8=>match Zic .u8 rows with|some ns=>some (.str (Zez ns).data.toList)|none=>none
  |_=>none
 | .str,.str,.str s=>some (.str s)
 |_,_,_=>none
theorem Zk6 {ke a b:Kd} {x g:G} (h:ZgA ke a b x=some g) {σ:Nm} {K:D→Prop} (hk:K (g.d σ)):cConvS ke a b (x.d σ) K:=by
 unfold ZgA at h
 split at h
 ·cases h;exact hk
 ·split at h
  ·split at h
   ·rename_i e;cases h
    simp only[G.d,G.dr_eq,cConvS,Zll σ e];exact hk
   ·cases h
  ·split at h
   ·rename_i e;cases h
    simp only[G.d,G.dr_eq,cConvS,Zll σ e];exact hk
   ·cases h
  ·cases h
 ·cases h;exact hk
 ·cases h
theorem Zpf {ke a b:Kd} {x g:G} (h:ZgA ke a b x=some g) {lo:Nat→Prop} {hi:Nat}:Bel lo hi g:=by
 unfold ZgA at h
 split at h
 ·cases h;exact fun _ _ _=>rfl
 ·split at h
  ·split at h<;>cases h;exact fun _ _ _=>rfl
  ·split at h<;>cases h;exact fun _ _ _=>rfl
  ·cases h
 ·cases h;exact fun _ _ _=>rfl
 ·cases h
def Zob (P:Program) (t:TypeId) (x:G):Option G:=match P.underlying t with
 |some (.interface _)=>none
 |some _=>some (.ifc t x)
 |none=>none
theorem ZsB {P:Program} {t:TypeId} {x g:G} (h:Zob P t x=some g) {σ:Nm} {K:D→Prop} (hk:K (g.d σ)):Zqg P t (x.d σ) K:=by
 unfold Zob at h
 split at h
 ·cases h
 ·rename_i d hno hu
  cases h
  exact⟨⟨d,hu,fun ms e=>hno ms e⟩,hk⟩
 ·cases h
def Zi0 (kd:Kd) (x:G):Option G:=match kd,x with
 | .slice ..,.sl _ _ rows=>some (.int .i64 (Int.ofNat rows.length))
 | .slice ..,.own _ n=>some (.int .i64 (Int.ofNat n))
 | .slice ..,.nils=>some (.int .i64 (Int.ofNat 0))
 | .slice ..,.off _ _ n _=>some (.int .i64 (Int.ofNat n))
 | .str,.str s=>some (.int .i64 (Int.ofNat s.length))
 |_,_=>none
theorem Zm0 {kd:Kd} {x g:G} (h:Zi0 kd x=some g) {σ:Nm} {K:D→Prop} (hk:K (g.d σ)):cLen kd (x.d σ) K:=by
 unfold Zi0 at h
 split at h<;>cases h
 ·simp only[G.d,G.dr_eq,cLen,z'm]at hk⊢;exact hk
 ·exact hk
 ·exact hk
 ·exact hk
 ·simp only[G.d,cLen,Za7]at hk⊢;exact hk
theorem Zld {kd:Kd} {x g:G} (h:Zi0 kd x=some g) {lo:Nat→Prop} {hi:Nat}:Bel lo hi g:=by
 unfold Zi0 at h
 split at h<;>cases h<;>exact fun _ _ _=>rfl
def Zfh (esz:Nat):Nat→List G→List (List G)
 |0,_=>[]
 |n+1,l=>l.take esz::Zfh esz n (l.drop esz)
theorem Zcr (σ:Nm) (esz:Nat): ∀(n:Nat) (l:List G),v'H esz n (l.map (G.d σ))=(Zfh esz n l).map (·.map (G.d σ))
 |0,l=>rfl
 |n+1,l=>by rw[v'H,Zfh,z's, ←List.map_take, ←List.map_drop,Zcr σ esz n]
theorem Zd4 {lo:Nat→Prop} {hi:Nat} (esz:Nat): ∀(n:Nat) (l:List G),BelL lo hi l→BelR lo hi (Zfh esz n l)
 |0,l,_,r,hr=>by cases hr
 |n+1,l,h,r,hr=>by
  rcases z'F.1 hr with rfl|hr
  ·exact h.take _
  ·exact Zd4 esz n _ (h.drop _) r hr
noncomputable def Zbj (kd:Kd) (n:Nat) (env:Env) (ps:List (Nat×Operand)):Option G:=match kd with
 | .slice e esz _ _ ez=>match ZcG ez with
  |some z=>match Zd2 env (fun i=>some (i*esz,esz)) (List.replicate n z).flatten ps with
   |some l=>match l.all Zff&&Nat.ble (n*esz) 16777216 with|true=>some (.sl true esz (Zfh esz n l))|false=>none
   |none=>none
  |none=>none
 |_=>none
theorem ZiS {kd:Kd} {n:Nat} {env:Env} {ps:List (Nat×Operand)} {g:G} (h:Zbj kd n env ps=some g) {σ:Nm} {H:Heap} {K:D→Heap→Prop} (hk:K (g.d σ) H):
  cBuildSlice kd n (ps.map fun p=>(p.1,evD (cE σ env) p.2)) H K:=by
 unfold Zbj at h
 split at h
 ·split at h
  ·rename_i z hz
   split at h
   ·rename_i l hl
    split at h
    ·rename_i hb
     cases h
     rw[z'f]at hb
     have hf:=Zfa σ ps _ l hl
     have e:((List.replicate n z).flatten).map (G.d σ)=(List.replicate n (z.map (G.d σ))).flatten:=by simp[List.map_flatten]
     rw[e]at hf
     simp only[cBuildSlice,Zcs hz σ,hf]
     exact⟨⟨Zbz hb.1 σ,z'J hb.2⟩,by rw[Zcr, ←G.dr_eq];exact hk⟩
    ·cases h
   ·cases h
  ·cases h
 ·cases h
theorem Zh4 {kd:Kd} {n:Nat} {env:Env} {ps:List (Nat×Operand)} {g:G} (h:Zbj kd n env ps=some g) {lo:Nat→Prop} {hi:Nat} (he:BelE lo hi env):Bel lo hi g:=by
 unfold Zbj at h
 split at h
 ·split at h
  ·rename_i z hz
   split at h
   ·rename_i l hl
    split at h
    ·cases h
     refine Bel.sl (Zd4 _ _ _ (Zd3 he ps _ l (fun g hg=>?_) hl))
     obtain⟨r,hr,hg⟩:=List.mem_flatten.1 hg
     exact ZbO hz g ((List.mem_replicate.1 hr).2▸hg)
    ·cases h
   ·cases h
  ·cases h
 ·cases h
noncomputable def gXs (env:Env):List Operand→Option (List G)
 |[]=>some []
 |x::r=>match gX env x with
  |some g=>match gXs env r with|some l=>some (g::l)|none=>none
  |none=>none
theorem ZeH {env:Env} (σ:Nm): ∀{l:List Operand} {gs:List G},gXs env l=some gs→l.map (evD (cE σ env))=gs.map (G.d σ)
 |[],gs,h=>by cases h;rfl
 |x::r,gs,h=>by
  unfold gXs at h
  split at h
  ·rename_i g hg
   split at h
   ·rename_i l hl
    cases h
    rw[z's,z's,z'3 hg σ,ZeH σ hl]
   ·cases h
  ·cases h
theorem Zdi {env:Env} {lo:Nat→Prop} {hi:Nat} (he:BelE lo hi env): ∀{l:List Operand} {gs:List G},gXs env l=some gs→BelL lo hi gs
 |[],gs,h=>by cases h;intro g hg;cases hg
 |x::r,gs,h=>by
  unfold gXs at h
  split at h
  ·rename_i g hg
   split at h
   ·rename_i l hl
    cases h
    intro y hy
    rcases z'F.1 hy with rfl|hy
    ·exact x'7 hg he
    ·exact Zdi he hl y hy
   ·cases h
  ·cases h
noncomputable def gXo (env:Env):Option Operand→Option (Option G)
 |none=>some none
 |some x=>match gX env x with|some g=>some (some g)|none=>none
theorem Zf2 {env:Env} {x:Option Operand} {g:Option G} (h:gXo env x=some g) (σ:Nm):x.map (evD (cE σ env))=g.map (G.d σ):=by
 unfold gXo at h
 split at h
 ·cases h;rfl
 ·split at h
  ·rename_i hg;cases h;rw[y'D,y'D,z'3 hg σ]
  ·cases h
theorem ZuB {P:Program} {o:Oper} {E:Operand→D} {H:Heap} {K:D→Heap→Prop} {x y:Operand} {ts:Array TypeId} {k:IntKind} {a b:Int} (ho:o.op= .call ⟨.builtin .max, #[x,y],ts⟩) (ha:E x= .is (.int k a)) (hb:E y= .is (.int k b)) (hk:K (.is (.int k (max a b))) H):Op1 P o E H K:=by
 refine Op1.value (d:= .is (.int k (max a b))) (fun w L0 ε hi hx=>?_) hk
 have h1:=hx x (by simp[ho,Op.operands,Call.operands])
 have h2:=hx y (by simp[ho,Op.operands,Call.operands])
 rw[ha]at h1;rw[hb]at h2
 have h1':ε x= .int k a:=h1
 have h2':ε y= .int k b:=h2
 refine⟨.int k (max a b),?_,rfl⟩
 simp only[execOp,ho,resolve,invoke,builtin]
 simp[go_sem,h1',h2',Builtin.max_,Builtin.max2]
 split<;>omega
theorem Ztl {P:Program} {o:Oper} {E:Operand→D} {H:Heap} {K:D→Heap→Prop} {x y z:Operand} {ts:Array TypeId} {k:IntKind} {a b c:Int} (ho:o.op= .call ⟨.builtin .max, #[x,y,z],ts⟩) (ha:E x= .is (.int k a)) (hb:E y= .is (.int k b)) (hc:E z= .is (.int k c)) (hk:K (.is (.int k (max (max a b) c))) H):Op1 P o E H K:=by
 refine Op1.value (d:= .is (.int k (max (max a b) c))) (fun w L0 ε hi hx=>?_) hk
 have h1:=hx x (by simp[ho,Op.operands,Call.operands])
 have h2:=hx y (by simp[ho,Op.operands,Call.operands])
 have h3:=hx z (by simp[ho,Op.operands,Call.operands])
 rw[ha]at h1;rw[hb]at h2;rw[hc]at h3
 have h1':ε x= .int k a:=h1
 have h2':ε y= .int k b:=h2
 have h3':ε z= .int k c:=h3
 refine⟨.int k (max (max a b) c),?_,rfl⟩
 simp only[execOp,ho,resolve,invoke,builtin]
 simp[go_sem,h1',h2',h3',Builtin.max_,Builtin.max2]
 split<;>split<;>omega
def ZfV (x y:G):Option G:=match x,y with
 | .int k a,.int k' b=>match decide (k'=k)with|true=>some (.int k (max a b))|false=>none
 |_,_=>none
theorem Zlh {x y g:G} (h:ZfV x y=some g): ∃k a b,x= .int k a∧y= .int k b∧g= .int k (max a b):=by
 unfold ZfV at h
 split at h
 ·split at h
  ·rename_i hk
   simp only[decide_eq_true_eq]at hk
   subst hk
   exact⟨_,_,_,rfl,rfl,(z'O h).symm⟩
  ·cases h
 ·cases h
theorem Zlg {x y g:G} (h:ZfV x y=some g) {lo:Nat→Prop} {hi:Nat}:Bel lo hi g:=by
 unfold ZfV at h
 split at h
 ·split at h
  ·cases h;exact Bel.int
  ·cases h
 ·cases h
theorem ZuC {P:Program} {o:Oper} {E:Operand→D} {H:Heap} {K:D→Heap→Prop} {x y:Operand} {ts:Array TypeId} {k:IntKind} {a b:Int} (ho:o.op= .call ⟨.builtin .min, #[x,y],ts⟩) (ha:E x= .is (.int k a)) (hb:E y= .is (.int k b)) (hk:K (.is (.int k (min a b))) H):Op1 P o E H K:=by
 refine Op1.value (d:= .is (.int k (min a b))) (fun w L0 ε hi hx=>?_) hk
 have h1:=hx x (by simp[ho,Op.operands,Call.operands])
 have h2:=hx y (by simp[ho,Op.operands,Call.operands])
 rw[ha]at h1;rw[hb]at h2
 have h1':ε x= .int k a:=h1
 have h2':ε y= .int k b:=h2
 refine⟨.int k (min a b),?_,rfl⟩
 simp only[execOp,ho,resolve,invoke,builtin]
 simp[go_sem,h1',h2',Builtin.min_,Builtin.min2]
 split<;>omega
def Zoa (x y:G):Option G:=match x,y with
 | .int k a,.int k' b=>match decide (k'=k)with|true=>some (.int k (min a b))|false=>none
 |_,_=>none
theorem ZqL {x y g:G} (h:Zoa x y=some g) {lo:Nat→Prop} {hi:Nat}:Bel lo hi g:=by
 unfold Zoa at h
 split at h
 ·split at h
  ·cases h;exact Bel.int
  ·cases h
 ·cases h
def ZqM (fn:Fn) (first:List Operand) (gs:List G):Option G:=match fn,first with
 | .func f,[]=>match gs.all G.isV with|true=>some (.fn f gs)|false=>none
 |_,_=>none
noncomputable def ZeD (n esz:Nat) (ty:TyI) (env:Env) (ps:List (Nat×Operand)):Option G:=match ZcG ty.zero with
 |some z=>match Zd2 env (fun i=>some (i*esz,esz)) z ps with
  |some l=>match l.all Zff with|true=>some (.agg l)|false=>none
  |none=>none
 |none=>none
theorem Zmv {n esz:Nat} {ty:TyI} {env:Env} {ps:List (Nat×Operand)} {g:G} (h:ZeD n esz ty env ps=some g) {lo:Nat→Prop} {hi:Nat} (he:BelE lo hi env):Bel lo hi g:=by
 unfold ZeD at h
 split at h
 ·rename_i z hz
  split at h
  ·rename_i l hl
   split at h
   ·cases h;exact Bel.agg (Zd3 he ps z l (ZbO hz) hl)
   ·cases h
  ·cases h
 ·cases h
theorem Zn0 {P:Program} (T:Tab P) {o:Oper} {t:TypeId} {n esz:Nat} {ea:Bool} {env:Env} {ps:List (Nat×Operand)} {g:G} (ho:o.op= .build t ps.toArray) (hk0:kdT (T.get t)= .array n esz ea) (h:ZeD n esz (T.get t) env ps=some g) {σ:Nm} {H:Heap} {K:D→Heap→Prop} (hk:K (g.d σ) H):Op1 P o (evD (cE σ env)) H K:=by
 unfold ZeD at h
 split at h
 ·rename_i z hz
  split at h
  ·rename_i l hl
   split at h
   ·rename_i hone
    cases h
    refine ZfB T (l:=l.map (G.d σ)) ho hk0 ?_ (Zbz hone σ) (by simpa only[G.d,G.dl_eq]using hk)
    rw[Zcs hz σ]
    exact Zfa σ ps z l hl
   ·cases h
  ·cases h
 ·cases h
noncomputable def ZiY (n esz:Nat) (x i:G):Option G:=match x,i with
 | .ptr b off,.int _ m=>match ixN n m with|some j=>some (.ptr b (off+j*esz))|none=>none
 |_,_=>none
noncomputable def ZqF (P:Program) (t:TypeId) (x y:G):Option Bool:=match P.underlying t,x,y with
 |some (.int _),.int k a,.int k' b=>match Nat.beq (kTag k) (kTag k')with|true=>some (a == b)|false=>none
 |some .string,.str a,.str b=>some (eqB a b)
 |some .bool,.bool a,.bool b=>some (a == b)
 |_,_,_=>none
noncomputable def Zk7 (P:Program) (xs ys:List G):List Field→Option Bool
 |[]=>some true
 |f::r=>match decide (f.name= "_")with
  |true=>Zk7 P xs ys r
  |false=>match gIx xs f.offset,gIx ys f.offset with
   |some x,some y=>match ZqF P f.type x y with
    |some true=>Zk7 P xs ys r
    |some false=>some false
    |none=>none
   |_,_=>none
noncomputable def ZqG (P:Program) (t:TypeId) (xs ys:List G):Option Bool:=match P.underlying t with
 |some (.struct fs)=>match P.stoodInHeld t,P.eqGuardType P.depth t,xs.all G.isV&&ys.all G.isV with
  |false,false,true=>Zk7 P xs ys fs.toList
  |_,_,_=>none
 |_=>none
theorem ZmU {P:Program} {t:TypeId} {x y:G} {r:Bool} (h:ZqF P t x y=some r) {σ:Nm} {xs ys:Array Value} {i d:Nat} (h1:xs[i]?=some (x.v σ)) (h2:ys[i]?=some (y.v σ)) (w:World):
  (part t xs i).run P w= .ok (x.v σ) w∧(part t ys i).run P w= .ok (y.v σ) w∧(Op.equalIn (d+1) t (x.v σ) (y.v σ)).run P w= .ok r w:=by
 unfold ZqF at h
 split at h
 ·rename_i k0 k a k' b hu
  split at h
  ·rename_i hk
   obtain rfl:=Zfu (beq_iff_eq.2 (z't hk))
   cases h
   exact⟨by simp[part,isAgg,run_underlying hu,h1],by simp[part,isAgg,run_underlying hu,h2],run_equalIn_int w d t k k0 a b hu⟩
  ·cases h
 ·rename_i a b hu
  cases h
  refine⟨by simp[part,isAgg,run_underlying hu,h1],by simp[part,isAgg,run_underlying hu,h2],?_⟩
  have:=run_equalIn_string w d t (w'm a) (w'm b) hu
  rw[show(G.str a).v σ= .string (w'm a) from rfl,show(G.str b).v σ= .string (w'm b) from rfl,this,ByteArray.toList_eq,ByteArray.toList_eq,ZhY]
  exact congrArg (fun b=>Result.ok b w) (show(a == b)=decide (a=b) by by_cases e:a=b<;>simp[e])
 ·rename_i a b hu
  cases h
  exact⟨by simp[part,isAgg,run_underlying hu,h1],by simp[part,isAgg,run_underlying hu,h2],run_equalIn_bool' w d t a b hu⟩
 ·cases h
theorem ZiU {P:Program} {xs ys:List G} {σ:Nm} {d:Nat}: ∀{fs:List Field} {r:Bool},Zk7 P xs ys fs=some r→ ∀w,(Op.eqFields (d+1) (xs.map (G.v σ)).toArray (ys.map (G.v σ)).toArray fs).run P w= .ok r w
 |[],r,h,w=>by cases h;rfl
 |f::fs,r,h,w=>by
  unfold Zk7 at h
  unfold Op.eqFields
  split at h
  ·rename_i hn
   rw[if_neg (by simpa using hn)]
   exact ZiU h w
  ·rename_i hn
   rw[if_pos (by simpa using hn)]
   split at h
   ·rename_i x y hx hy
    rw[v'F]at hx hy
    have e1:((xs.map (G.v σ)).toArray)[f.offset]?=some (x.v σ):=by simp[hx]
    have e2:((ys.map (G.v σ)).toArray)[f.offset]?=some (y.v σ):=by simp[hy]
    split at h
    ·rename_i hq
     obtain⟨k1,k2,k3⟩:=ZmU hq e1 e2 (d:=d) w
     rw[z'k k1,z'k k2,z'k k3]
     exact ZiU h w
    ·rename_i hq
     obtain⟨k1,k2,k3⟩:=ZmU hq e1 e2 (d:=d) w
     cases h
     rw[z'k k1,z'k k2,z'k k3]
     rfl
    ·cases h
   ·cases h
theorem Zsy {P:Program} {t:TypeId} {xs ys:List G} {r:Bool} (h:ZqG P t xs ys=some r) (σ:Nm):EqS P t (xs.map (G.v σ)) (ys.map (G.v σ)) r∧xs.map (G.d σ)=(xs.map (G.v σ)).map D.is∧ys.map (G.d σ)=(ys.map (G.v σ)).map D.is:=by
 unfold ZqG at h
 split at h
 ·rename_i fs hu
  split at h
  ·rename_i h1 h2 h3
   rw[z'f]at h3
   have key: ∀{l:List G},l.all G.isV=true→l.map (G.d σ)=(l.map (G.v σ)).map D.is:=fun{l} hl=>by
    rw[List.map_map]
    refine y'R fun g hg=>?_
    have:=z'q.1 hl g hg
    cases g<;>first|rfl|cases this
   have hf:P.fieldsOf t=fs:=by simp[Program.fieldsOf,hu]
   refine⟨⟨h2,fun w=>?_⟩,key h3.1,key h3.2⟩
   rw[show(10000:Nat)=9999+1 from rfl,run_equalIn_agg w 9999 t _ _ (by rw[hf];exact hu) h1,hf]
   exact ZiU h w
  ·cases h
 ·cases h
theorem Zrs {P:Program} {o:Oper} {E:Operand→D} {H:Heap} {K:D→Heap→Prop} {op:BinOp} {t u e:TypeId} {x y:Operand} {p:Option Addr} {r':Bool} (ho:o.op= .binOp op t x y u) (hu:P.underlying t=some (.pointer e)) (hx0:E x= .is (.pointer p)) (hy0:E y= .is (.pointer none))
  (hr:Zgz op p.isNone=some r') (hk:K (.is (.bool r')) H):Op1 P o E H K:=by
 refine Op1.value (d:= .is (.bool r')) (fun w L0 ε hi hx=>?_) hk
 have h1:=hx x (by simp[ho,Op.operands])
 have h2:=hx y (by simp[ho,Op.operands])
 rw[hx0]at h1;rw[hy0]at h2
 have h1':ε x= .pointer p:=h1
 have h2':ε y= .pointer none:=h2
 have hu':P.underlying t=some (.pointer (P.pointee t)):=by simp[Program.pointee,hu]
 have hg:(eqGuard op t x y (.pointer p) (.pointer none)).run P w= .ok () w:=w's trivial
 refine⟨.bool r',?_,rfl⟩
 simp only[execOp,ho,h1',h2']
 refine(z'k (a:= .bool r') (w':=w) ?_).trans rfl
 rw[z'k hg]
 cases op<;>simp only[Zgz,z'H,reduceCtorEq]at hr
 ·subst hr;exact run_eql_pointer_nil w t p hu'
 ·subst hr;exact run_neq_pointer_nil w t p hu'
noncomputable def Zdh (P:Program) (op:BinOp) (t:TypeId) (nil:Bool):Option G:=match P.underlying t with
 |some (.pointer _)=>match Zgz op nil with|some r=>some (.bool r)|none=>none
 |_=>none
theorem Zhb {P:Program} {op:BinOp} {t:TypeId} {nil:Bool} {g:G} (h:Zdh P op t nil=some g) {lo:Nat→Prop} {hi:Nat}:Bel lo hi g:=by
 unfold Zdh at h
 split at h
 ·split at h
  ·cases h;exact Bel.bool
  ·cases h
 ·cases h
theorem Zif {P:Program} {op:BinOp} {t u:TypeId} {nil:Bool} {g:G} {o:Oper} {x y:Operand} {env:Env} {p:Option Addr} {σ:Nm} {H:Heap} {K:D→Heap→Prop} (ho:o.op= .binOp op t x y u) (h:Zdh P op t nil=some g) (hp:p.isNone=nil) (h1:evD (cE σ env) x= .is (.pointer p)) (h2:evD (cE σ env) y= .is (.pointer none)) (hk:K (g.d σ) H):Op1 P o (evD (cE σ env)) H K:=by
 unfold Zdh at h
 split at h
 ·rename_i e hu
  split at h
  ·rename_i r hr
   cases h
   exact Zrs ho hu h1 h2 (by rw[hp];exact hr) hk
  ·cases h
 ·cases h
def Zmp (k:IntKind) (x y:Int):Int:=k.wrap ((BitVec.ofInt k.bits x^^^BitVec.ofInt k.bits y).toNat:Nat)
theorem ZuF {P:Program} {o:Oper} {E:Operand→D} {H:Heap} {t u:TypeId} {x y:Operand} {k:IntKind} {a b:Int} {K:D→Heap→Prop} (ho:o.op= .binOp .xor t x y u) (ha:E x= .is (.int k a)) (hb:E y= .is (.int k b))
  (hk:K (.is (.int k (Zmp k a b))) H):Op1 P o E H K:=by
 refine Op1.value (d:= .is (.int k (Zmp k a b))) (fun w L0 ε hi hx=>?_) hk
 have h1:=hx x (by simp[ho,Op.operands])
 have h2:=hx y (by simp[ho,Op.operands])
 rw[ha]at h1;rw[hb]at h2
 have h1':ε x= .int k a:=h1
 have h2':ε y= .int k b:=h2
 have hg:(eqGuard .xor t x y (.int k a) (.int k b)).run P w= .ok () w:=w's trivial
 refine⟨.int k (Zmp k a b),?_,rfl⟩
 simp only[execOp,ho,h1',h2']
 rw[z'k (a:=Value.int k (Zmp k a b)) (w':=w) (by rw[z'k hg];simp only[binOp,ne_eq,not_true_eq_false,if_false,Op.intBits];rfl)]
 rfl
def ZkH (k:IntKind) (x y:Int):Int:=k.wrap ((BitVec.ofInt k.bits x&&&BitVec.ofInt k.bits y).toNat:Nat)
theorem Zuy {P:Program} {o:Oper} {E:Operand→D} {H:Heap} {t u:TypeId} {x y:Operand} {k:IntKind} {a b:Int} {K:D→Heap→Prop} (ho:o.op= .binOp .and t x y u) (ha:E x= .is (.int k a)) (hb:E y= .is (.int k b))
  (hk:K (.is (.int k (ZkH k a b))) H):Op1 P o E H K:=by
 refine Op1.value (d:= .is (.int k (ZkH k a b))) (fun w L0 ε hi hx=>?_) hk
 have h1:=hx x (by simp[ho,Op.operands])
 have h2:=hx y (by simp[ho,Op.operands])
 rw[ha]at h1;rw[hb]at h2
 have h1':ε x= .int k a:=h1
 have h2':ε y= .int k b:=h2
 have hg:(eqGuard .and t x y (.int k a) (.int k b)).run P w= .ok () w:=w's trivial
 refine⟨.int k (ZkH k a b),?_,rfl⟩
 simp only[execOp,ho,h1',h2']
 rw[z'k (a:=Value.int k (ZkH k a b)) (w':=w) (by rw[z'k hg];simp only[binOp,ne_eq,not_true_eq_false,if_false,Op.intBits];rfl)]
 rfl
def Zmd (k:IntKind) (x y:Int):Int:=x.fdiv (2^min y.toNat k.bits)
theorem ZuD {P:Program} {o:Oper} {E:Operand→D} {H:Heap} {t u:TypeId} {x y:Operand} {k k':IntKind} {a b:Int} {K:D→Heap→Prop} (ho:o.op= .binOp .shr t x y u) (ha:E x= .is (.int k a)) (hb:E y= .is (.int k' b)) (h0:0≤b)
  (hk:K (.is (.int k (Zmd k a b))) H):Op1 P o E H K:=by
 refine Op1.value (d:= .is (.int k (Zmd k a b))) (fun w L0 ε hi hx=>?_) hk
 have h1:=hx x (by simp[ho,Op.operands])
 have h2:=hx y (by simp[ho,Op.operands])
 rw[ha]at h1;rw[hb]at h2
 have h1':ε x= .int k a:=h1
 have h2':ε y= .int k' b:=h2
 have hg:(eqGuard .shr t x y (.int k a) (.int k' b)).run P w= .ok () w:=w's trivial
 refine⟨.int k (Zmd k a b),?_,rfl⟩
 simp only[execOp,ho,h1',h2']
 rw[z'k (a:=Value.int k (Zmd k a b)) (w':=w) (by rw[z'k hg];simp only[binOp,Op.shift];rw[if_neg (by omega)];rfl)]
 rfl
def Zh3 (op:BinOp) (x y:G):Option G:=match op,x,y with
 | .xor,.int k a,.int k' b=>match decide (k'=k)with|true=>some (.int k (Zmp k a b))|false=>none
 | .and,.int k a,.int k' b=>match decide (k'=k)with|true=>some (.int k (ZkH k a b))|false=>none
 | .shr,.int k a,.int _ b=>match decide (0≤b)with|true=>some (.int k (Zmd k a b))|false=>none
 |_,_,_=>none
theorem Zpa {op:BinOp} {x y g:G} (h:Zh3 op x y=some g) {lo:Nat→Prop} {hi:Nat}:Bel lo hi g:=by
 unfold Zh3 at h
 split at h
 ·split at h<;>cases h;exact Bel.int
 ·split at h<;>cases h;exact Bel.int
 ·split at h<;>cases h;exact Bel.int
 ·cases h
theorem ZqB {P:Program} {op:BinOp} {t u:TypeId} {gx gy g:G} {o:Oper} {x y:Operand} {env:Env} {σ:Nm} {H:Heap} {K:D→Heap→Prop} (ho:o.op= .binOp op t x y u) (h:Zh3 op gx gy=some g) (h1:evD (cE σ env) x=gx.d σ) (h2:evD (cE σ env) y=gy.d σ) (hk:K (g.d σ) H):Op1 P o (evD (cE σ env)) H K:=by
 unfold Zh3 at h
 split at h
 ·split at h
  ·rename_i hq;simp only[decide_eq_true_eq]at hq;subst hq;cases h;exact ZuF ho h1 h2 hk
  ·cases h
 ·split at h
  ·rename_i hq;simp only[decide_eq_true_eq]at hq;subst hq;cases h;exact Zuy ho h1 h2 hk
  ·cases h
 ·split at h
  ·rename_i hq;simp only[decide_eq_true_eq]at hq;cases h;exact ZuD ho h1 h2 hq hk
  ·cases h
 ·cases h
noncomputable def ZgG {P:Program} (T:Tab P) (env:Env) (c:Operand) (a:Operand) (b:Operand):Option G:=match gX env c,gX env a,gX env b with
 |some c,some a,some b=>Zie c a b
 |_,_,_=>none
noncomputable def Zfm {P:Program} (T:Tab P) (env:Env) (op:BinOp) (t:TypeId) (x:Operand) (y:Operand):Option G:=match gX env x,gX env y with
 |some (.agg xs),some (.agg ys)=>match ZqG P t xs ys with
  |some r=>match Zgz op r with|some r'=>some (.bool r')|none=>none
  |none=>none
 |some (.ptr _ _),some (.val (.pointer none))=>Zdh P op t false
 |some (.val (.pointer none)),some (.val (.pointer none))=>Zdh P op t true
 |some x,some y=>match Zk4 (kdT (T.get t)) op x y with
  |some g=>some g
  |none=>Zh3 op x y
 |_,_=>none
noncomputable def ZgH {P:Program} (T:Tab P) (env:Env) (op:UnOp) (x:Operand):Option G:=match gX env x with|some x=>gUn op x|none=>none
noncomputable def ZbZ {P:Program} (T:Tab P) (env:Env) (t:TypeId) (x:Operand) (f:Nat):Option G:=match gX env x with|some x=>ZbX (fieldAt (kdT (T.get t)) f) x|none=>none
noncomputable def Zfp {P:Program} (T:Tab P) (env:Env) (t:TypeId) (x:Operand) (f:Nat):Option G:=match gX env x with|some x=>ZfT (fieldAt (kdT (T.get t)) f) x|none=>none
noncomputable def Zb0 {P:Program} (T:Tab P) (env:Env) (t:TypeId) (x:Operand) (i:Operand):Option G:=match gX env x,gX env i with
 |some x,some i=>match kdT (T.get t)with
  | .array n esz _=>ZiY n esz x i
  |kd=>ZbY kd x i
 |_,_=>none
noncomputable def Zfq {P:Program} (T:Tab P) (env:Env) (t:TypeId) (x:Operand) (i:Operand):Option G:=match gX env x,gX env i with
 |some x,some i=>ZfU (kdT (T.get t)) x i
 |_,_=>none
noncomputable def Zdb {P:Program} (T:Tab P) (env:Env) (x:Operand) (i:Nat):Option G:=match gX env x with|some x=>Zdw x i|none=>none
noncomputable def ZcF {P:Program} (T:Tab P) (env:Env) (x:Operand):Option G:=match gX env x with|some x=>Zlk x|none=>none
noncomputable def Zfn {P:Program} (T:Tab P) (env:Env) (t:TypeId) (ps:Array (Nat×Operand)):Option G:=match kdT (T.get t)with
 | .array n esz _=>ZeD n esz (T.get t) env ps.toList
 |_=>ZfP (T.get t) env ps.toList
noncomputable def Zbp {P:Program} (T:Tab P) (env:Env) (t:TypeId) (n:Nat) (ps:Array (Nat×Operand)):Option G:=Zbj (kdT (T.get t)) n env ps.toList
noncomputable def Zfr {P:Program} (T:Tab P) (env:Env) (t:TypeId) (x:Operand) (lo:Option Operand) (hi:Option Operand) (mx:Option Operand):Option G:=match gX env x,gXo env lo,gXo env hi,gXo env mx with
 |some x,some lo,some hi,some mx=>Zf0 (kdT (T.get t)) x lo hi mx
 |_,_,_,_=>none
noncomputable def Zfo {P:Program} (T:Tab P) (env:Env) (t:TypeId) (u:TypeId) (x:Operand):Option G:=match gX env x with|some x=>ZgA (kdElem T.get (kdT (T.get t))) (kdT (T.get t)) (kdT (T.get u)) x|none=>none
noncomputable def Zar {P:Program} (T:Tab P) (env:Env) (t:TypeId) (x:Operand):Option G:=match gX env x with|some x=>Zob P t x|none=>none
noncomputable def ZcE {P:Program} (T:Tab P) (env:Env) (fn:Fn) (first:Array Operand) (cs:Array Operand):Option G:=match gXs env cs.toList with|some gs=>ZqM fn first.toList gs|none=>none
noncomputable def Zi5 {P:Program} (T:Tab P) (env:Env) (c:Call):Option G:=match c with
 |⟨.builtin .len,as,ts⟩=>match as.toList,ts.toList with
  |[x],[t]=>match gX env x with|some x=>Zi0 (kdT (T.get t)) x|none=>none
  |_,_=>none
 |⟨.builtin .max,as,ts⟩=>match as.toList with
  |[x,y]=>match gX env x,gX env y with
   |some x,some y=>ZfV x y
   |_,_=>none
  |[x,y,z]=>match gX env x,gX env y,gX env z with
   |some x,some y,some z=>match ZfV x y with|some u=>ZfV u z|none=>none
   |_,_,_=>none
  |_=>none
 |⟨.builtin .min,as,ts⟩=>match as.toList with
  |[x,y]=>match gX env x,gX env y with
   |some x,some y=>Zoa x y
   |_,_=>none
  |_=>none
 |_=>none
noncomputable def Zhz {P:Program} (T:Tab P) (env:Env) (op:Op):Option G:=match op with
 | .move x=>gX env x
 | .assign x=>gX env x
 | .pick c a b=>ZgG T env c a b
 | .binOp op t x y _=>Zfm T env op t x y
 | .unOp op _ x=>ZgH T env op x
 | .fieldAddr t x f=>ZbZ T env t x f
 | .field t x f=>Zfp T env t x f
 | .indexAddr t x i=>Zb0 T env t x i
 | .index t x i=>Zfq T env t x i
 | .extract x i=>Zdb T env x i
 | .nilCheck x=>ZcF T env x
 | .build t ps=>Zfn T env t ps
 | .buildSlice t n ps=>Zbp T env t n ps
 | .slice t x lo hi mx=>Zfr T env t x lo hi mx
 | .convert t u x=>Zfo T env t u x
 | .makeInterface t x=>Zar T env t x
 | .makeFunc fn first cs=>ZcE T env fn first cs
 | .call c=>Zi5 T env c
 |_=>none
theorem Zi6 {P:Program} (T:Tab P) {env:Env} {o:Oper} {g:G} (h:Zhz T env o.op=some g) {σ:Nm} {H:Heap} {K:D→Heap→Prop} (hk:K (g.d σ) H):Op1 P o (evD (cE σ env)) H K:=by
 unfold Zhz at h
 split at h
 ·rename_i ho;exact Zit (.inl ho) (by rw[z'3 h];exact hk)
 ·rename_i ho;exact Zit (.inr ho) (by rw[z'3 h];exact hk)
 ·rename_i ho
  unfold ZgG at h
  split at h
  ·rename_i h1 h2 h3;exact ZpJ ho (by rw[z'3 h1,z'3 h2,z'3 h3];exact ZqQ h hk)
  ·cases h
 ·rename_i ho
  unfold Zfm at h
  split at h
  ·rename_i h1 h2
   split at h
   ·rename_i r hr
    split at h
    ·rename_i r' hr'
     cases h
     obtain⟨q1,q2,q3⟩:=Zsy hr σ
     exact Op1.eqS ho q1 (by rw[z'3 h1,G.d,G.dl_eq,q2]) (by rw[z'3 h2,G.d,G.dl_eq,q3]) hr' hk
    ·cases h
   ·cases h
  ·rename_i h1 h2;exact Zif ho h rfl (z'3 h1 σ) (z'3 h2 σ) hk
  ·rename_i h1 h2;exact Zif ho h rfl (z'3 h1 σ) (z'3 h2 σ) hk
  ·rename_i h1 h2
   split at h
   ·rename_i hb;cases h;exact Zr7 T ho (by rw[z'3 h1,z'3 h2];exact Zsw hb hk)
   ·exact ZqB ho h (z'3 h1 σ) (z'3 h2 σ) hk
  ·cases h
 ·rename_i ho
  unfold ZgH at h
  split at h
  ·rename_i h1;exact ZuE ho (by rw[z'3 h1];exact Zt0 h hk)
  ·cases h
 ·rename_i ho
  unfold ZbZ at h
  split at h
  ·rename_i h1;exact Zhg T ho (by rw[z'3 h1];exact Zkf h hk)
  ·cases h
 ·rename_i ho
  unfold Zfp at h
  split at h
  ·rename_i h1;exact Znl T ho (by rw[z'3 h1];exact Zpg h hk)
  ·cases h
 ·rename_i ho
  unfold Zb0 at h
  split at h
  ·rename_i h1 h2
   split at h
   ·rename_i n esz ea hkd
    unfold ZiY at h
    split at h
    ·split at h
     ·rename_i hix
      cases h
      obtain⟨rfl,hlt⟩:=Zil hix
      exact ZlV T ho hkd (z'3 h1 σ) (z'3 h2 σ) (by omega) (by rw[z'e];exact hk)
     ·cases h
    ·cases h
   ·exact Zhh T ho (by rw[z'3 h1,z'3 h2];exact Zkg h hk)
  ·cases h
 ·rename_i ho
  unfold Zfq at h
  split at h
  ·rename_i h1 h2;exact Znm T ho (by rw[z'3 h1,z'3 h2];exact Zph h hk)
  ·cases h
 ·rename_i ho
  unfold Zdb at h
  split at h
  ·rename_i h1;exact ZjW ho (by rw[z'3 h1];exact Zmw h hk)
  ·cases h
 ·rename_i ho
  unfold ZcF at h
  split at h
  ·rename_i h1;exact Zsa ho (by rw[z'3 h1];exact ZsC h hk)
  ·cases h
 ·rename_i t ps ho
  unfold Zfn at h
  split at h
  ·rename_i n esz ea hkd;exact Zn0 T (ps:=ps.toList) (by simpa using ho) hkd h hk
  ·exact Znk T (ps:=ps.toList) (by simpa using ho) (Zpc h hk)
 ·rename_i t n ps ho
  unfold Zbp at h
  exact Zgj T (ps:=ps.toList) (by simpa using ho) (ZiS h hk)
 ·rename_i ho
  unfold Zfr at h
  split at h
  ·rename_i h1 h2 h3 h4;exact Znp T ho (by rw[z'3 h1,Zf2 h2,Zf2 h3,Zf2 h4];exact Zpl h hk)
  ·cases h
 ·rename_i ho
  unfold Zfo at h
  split at h
  ·rename_i h1;exact Zjf T ho (by rw[z'3 h1];exact Zk6 h hk)
  ·cases h
 ·rename_i ho
  unfold Zar at h
  split at h
  ·rename_i h1;exact Zr9 ho (by rw[z'3 h1];exact ZsB h hk)
  ·cases h
 ·rename_i fn first cs ho
  unfold ZcE at h
  split at h
  ·rename_i gs h1
   unfold ZqM at h
   split at h
   ·rename_i f hf
    split at h
    ·rename_i hv
     cases h
     have hf':first= #[]:=by rw[←y'h];exact hf
     subst hf'
     refine ZhK (cs:=cs.toList) (us:=gs.map (G.v σ)) (by simpa using ho) ?_ hk
     rw[ZeH σ h1,List.map_map]
     exact y'R fun g hg=>G.isV_d (z'q.1 hv g hg)
    ·cases h
   ·cases h
  ·cases h
 ·rename_i c ho
  unfold Zi5 at h
  split at h
  ·rename_i as ts
   split at h
   ·rename_i x t hx ht
    have e1:as= #[x]:=by rw[←y'h];exact hx
    have e2:ts= #[t]:=by rw[←y'h];exact ht
    subst e1;subst e2
    split at h
    ·rename_i h1;exact Zop T ho (by rw[z'3 h1];exact Zm0 h hk)
    ·cases h
   ·cases h
  ·rename_i as ts
   split at h
   ·rename_i x y hx
    have e1:as= #[x,y]:=by rw[←y'h];exact hx
    subst e1
    split at h
    ·rename_i h1 h2
     unfold ZfV at h
     split at h
     ·split at h
      ·rename_i hkk
       cases h
       simp only[decide_eq_true_eq]at hkk
       subst hkk
       exact ZuB ho (z'3 h1 σ) (z'3 h2 σ) hk
      ·cases h
     ·cases h
    ·cases h
   ·rename_i x y z hx
    have e1:as= #[x,y,z]:=by rw[←y'h];exact hx
    subst e1
    split at h
    ·rename_i h1 h2 h3
     split at h
     ·rename_i u hu
      obtain⟨k,a,b,rfl,rfl,rfl⟩:=Zlh hu
      obtain⟨k',a',c,e1,rfl,rfl⟩:=Zlh h
      obtain⟨rfl,rfl⟩:=G.int.inj e1
      exact Ztl ho (z'3 h1 σ) (z'3 h2 σ) (z'3 h3 σ) hk
     ·cases h
    ·cases h
   ·cases h
  ·rename_i as ts
   split at h
   ·rename_i x y hx
    have e1:as= #[x,y]:=by rw[←y'h];exact hx
    subst e1
    split at h
    ·rename_i h1 h2
     unfold Zoa at h
     split at h
     ·split at h
      ·rename_i hkk
       cases h
       simp only[decide_eq_true_eq]at hkk
       subst hkk
       exact ZuC ho (z'3 h1 σ) (z'3 h2 σ) hk
      ·cases h
     ·cases h
    ·cases h
   ·cases h
  ·cases h
 ·cases h
theorem ZhA {P:Program} (T:Tab P) {env:Env} {op:Op} {g:G} (h:Zhz T env op=some g) {lo:Nat→Prop} {hi:Nat} (he:BelE lo hi env):Bel lo hi g:=by
 unfold Zhz at h
 split at h
 ·exact x'7 h he
 ·exact x'7 h he
 ·unfold ZgG at h
  split at h
  ·rename_i h1 h2 h3;exact Zpj h (x'7 h2 he) (x'7 h3 he)
  ·cases h
 ·unfold Zfm at h
  split at h
  ·split at h
   ·split at h
    ·cases h;exact Bel.bool
    ·cases h
   ·cases h
  ·exact Zhb h
  ·exact Zhb h
  ·split at h
   ·rename_i hb;cases h;exact ZqA hb
   ·exact Zpa h
  ·cases h
 ·unfold ZgH at h
  split at h
  ·exact ZsG h
  ·cases h
 ·unfold ZbZ at h
  split at h
  ·rename_i h1;exact ZiW h (x'7 h1 he)
  ·cases h
 ·unfold Zfp at h
  split at h
  ·rename_i h1;exact Zn5 h (x'7 h1 he)
  ·cases h
 ·unfold Zb0 at h
  split at h
  ·rename_i h1 h2
   split at h
   ·unfold ZiY at h
    split at h
    ·split at h
     ·cases h;exact(x'7 h1 he).ptr_o
     ·cases h
    ·cases h
   ·exact ZiZ h (x'7 h1 he)
  ·cases h
 ·unfold Zfq at h
  split at h
  ·exact Zn7 h
  ·cases h
 ·unfold Zdb at h
  split at h
  ·rename_i h1;exact Zk8 h (x'7 h1 he)
  ·cases h
 ·unfold ZcF at h
  split at h
  ·rename_i h1;exact ZqO h (x'7 h1 he)
  ·cases h
 ·unfold Zfn at h
  split at h
  ·exact Zmv h he
  ·exact Zn1 h he
 ·unfold Zbp at h
  exact Zh4 h he
 ·unfold Zfr at h
  split at h
  ·rename_i h1 h2 h3 h4;exact Zoe h (x'7 h1 he)
  ·cases h
 ·unfold Zfo at h
  split at h
  ·exact Zpf h
  ·cases h
 ·unfold Zar at h
  split at h
  ·rename_i h1
   unfold Zob at h
   split at h<;>cases h
   exact Bel.ifc (x'7 h1 he)
  ·cases h
 ·unfold ZcE at h
  split at h
  ·rename_i gs h1
   unfold ZqM at h
   split at h
   ·split at h
    ·rename_i hv;cases h;exact Bel.fn hv (Zdi he h1)
    ·cases h
   ·cases h
  ·cases h
 ·unfold Zi5 at h
  split at h
  ·split at h
   ·split at h
    ·exact Zld h
    ·cases h
   ·cases h
  ·split at h
   ·split at h
    ·exact Zlg h
    ·cases h
   ·split at h
    ·split at h
     ·exact Zlg h
     ·cases h
    ·cases h
   ·cases h
  ·split at h
   ·split at h
    ·exact ZqL h
    ·cases h
   ·cases h
  ·cases h
 ·cases h
end Go.Vc
