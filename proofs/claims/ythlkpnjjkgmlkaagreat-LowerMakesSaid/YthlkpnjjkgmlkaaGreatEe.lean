/- Calls at fixed data, reckoned out: append; any operation but a call. No condition. -/
import Derived.Test.YthlkpnjjkgmlkaaGreatEd
namespace Go.Vc
set_option linter.unusedSimpArgs false
set_option linter.unusedVariables false
open Go
theorem ZiN {P:Program} (T:Tab P) {o:Oper} {E:Operand→D} {H:Heap} {K:D→Heap→Prop} {s x:Operand} {t e:TypeId} {esz eb n:Nat} {ea:Bool} {ez:List Value} {g:Option (Nat×Nat)} {news:List D} (ho:o.op= .call ⟨.builtin .append, #[s,x], #[t,t]⟩)
  (hkd:kdT (T.get t)= .slice e esz eb ea ez) (hs0:E s= .gs g n) (hsrc:srcOk esz (E x) H news 0) (hk:K (.gs g n) H):Op1 P o E H K:=by
 obtain⟨hu,hkn,hsz,hbt,_,hze⟩:=x'Z T hkd
 obtain⟨d,inf,z,h1,h2,h3,h4,_,h6,h7,h8⟩:=x'y hkn
 refine Op1.value (d:= .gs g n) (fun w L0 ε hi hx=>?_) hk
 have hx1:=hx s (by simp[ho,Op.operands,Call.operands])
 have hx2:=hx x (by simp[ho,Op.operands,Call.operands])
 rw[hs0,Rel]at hx1
 obtain⟨nv,k1,k2,k3,k4⟩:=ZcW hi hsrc hx2
 have run: ∀(r:Value),(Builtin.append_ #[t,t] o.type #[ε s,ε x]).run P w= .ok r w→(execOp ε o).run P w= .ok (.value r) w:=fun r hr=>
  Zdy ho (s:=Builtin.append_ #[t,t] o.type (#[s,x].map ε)) rfl (by simpa using hr)
 refine⟨sv g n,run _ ?_,rfl,hx1.2⟩
 rw[hx1.1]
 have hg:=hx1.2
 rcases k4 with⟨_,hxv⟩|⟨ad,c,hxv,_⟩
 ·rw[hxv]
  cases g with
  |none=>obtain rfl:n=0:=hg;simp[sv,Builtin.append_,run_underlying hu,sizeOf,typeInfo,h2,Builtin.lenOf,Builtin.firstCells]
  |some p=>
   have hnc:n≤p.2:=hg
   simp[sv,Builtin.append_,run_underlying hu,sizeOf,typeInfo,h2,Builtin.lenOf,Builtin.firstCells,hnc,storeCells]
 ·rw[hxv]
  cases g with
  |none=>obtain rfl:n=0:=hg;simp[sv,Builtin.append_,run_underlying hu,sizeOf,typeInfo,h2,Builtin.lenOf,Builtin.firstCells,loadCells,loadCellsFrom]
  |some p=>
   have hnc:n≤p.2:=hg
   simp[sv,Builtin.append_,run_underlying hu,sizeOf,typeInfo,h2,Builtin.lenOf,Builtin.firstCells,hnc,storeCells,loadCells,loadCellsFrom]
noncomputable def Ze4 (esz:Nat) (x:G) (V:Vh):Option (List G×Nat):=match x with
 | .sl _ esz' rows=>match Nat.beq esz' esz with|true=>some (rows.flatten,rows.length)|false=>none
 | .nils=>some ([],0)
 | .own b n=>match v'Q V b with
  |some c=>match Nat.ble (n*esz) c.l.length with|true=>some (c.l.take (n*esz),n)|false=>none
  |none=>none
 | .off b o n _=>match v'Q V b with
  |some c=>match Nat.ble (o+n*esz) c.l.length with|true=>some ((c.l.drop o).take (n*esz),n)|false=>none
  |none=>none
 |_=>none
theorem ZdM {esz m:Nat} {x:G} {V:Vh} {news:List G} (h:Ze4 esz x V=some (news,m)) {σ:Nm} (hn:(Vn σ V).blocks.Nodup):srcOk esz (x.d σ) (Vn σ V) (news.map (G.d σ)) m:=by
 unfold Ze4 at h
 split at h
 ·split at h
  ·rename_i hb
   cases h
   simp only[G.d,G.dr_eq,srcOk,z'i,List.map_flatten]
   exact⟨z's hb,trivial,trivial⟩
  ·cases h
 ·cases h;exact⟨rfl,rfl⟩
 ·rename_i b n
  split at h
  ·rename_i c hc
   split at h
   ·rename_i hb
    cases h
    obtain⟨ty',n',hcc⟩:=VB.c_cells σ b c (w'0 hc)
    have hcc':=hcc c.l
    rw[VB.put_l]at hcc'
    have hg:=w'y hn hc
    rw[hcc']at hg
    exact⟨_,_,_,hg,by rw[z'i];exact z'F hb,by rw[List.map_take],rfl⟩
   ·cases h
  ·cases h
 ·rename_i b off n c'
  split at h
  ·rename_i c hc
   split at h
   ·rename_i hb
    cases h
    obtain⟨ty',n',hcc⟩:=VB.c_cells σ b c (w'0 hc)
    have hcc':=hcc c.l
    rw[VB.put_l]at hcc'
    have hg:=w'y hn hc
    rw[hcc']at hg
    exact⟨_,_,_,hg,by rw[z'i];exact z'F hb,by rw[List.map_take,List.map_drop],rfl⟩
   ·cases h
  ·cases h
 ·cases h
theorem Zka {esz m:Nat} {x:G} {V:Vh} {news:List G} (h:Ze4 esz x V=some (news,m)) {lo:Nat→Prop} {hi:Nat} (hx:Bel lo hi x) (hV:VOk lo hi V):BelL lo hi news:=by
 unfold Ze4 at h
 split at h
 ·split at h
  ·cases h
   intro g hg
   obtain⟨r,hr,hg⟩:=List.mem_flatten.1 hg
   exact hx.sl_r r hr g hg
  ·cases h
 ·cases h;intro g hg;cases hg
 ·split at h
  ·rename_i hc
   split at h
   ·cases h;exact BelL.take (hV _ _ (v'h hc)).2.2 _
   ·cases h
  ·cases h
 ·split at h
  ·rename_i hc
   split at h
   ·cases h;exact BelL.take (BelL.drop (hV _ _ (v'h hc)).2.2 _) _
   ·cases h
  ·cases h
 ·cases h
theorem Zkb {esz m:Nat} {x:G} {V:Vh} {news:List G} (h:Ze4 esz x V=some (news,m)) {σ:Nm} (hn:(Vn σ V).blocks.Nodup) {K:List D→Nat→Prop} (hk:K (news.map (G.d σ)) m):cSrc esz (x.d σ) (Vn σ V) K:=by
 unfold Ze4 at h
 split at h
 ·split at h
  ·rename_i hb
   cases h
   simp only[G.d,G.dr_eq,cSrc,z'i,List.map_flatten]at hk⊢
   exact⟨z's hb,hk⟩
  ·cases h
 ·cases h;exact hk
 ·rename_i b n
  split at h
  ·rename_i c hc
   split at h
   ·rename_i hb
    cases h
    obtain⟨ty',n',hcc⟩:=VB.c_cells σ b c (w'0 hc)
    have hcc':=hcc c.l
    rw[VB.put_l]at hcc'
    have hg:=w'y hn hc
    rw[hcc']at hg
    simp only[G.d,cSrc,hg,z'i]
    exact⟨z'F hb,by rw[←List.map_take];exact hk⟩
   ·cases h
  ·cases h
 ·rename_i b off n c'
  split at h
  ·rename_i c hc
   split at h
   ·rename_i hb
    cases h
    obtain⟨ty',n',hcc⟩:=VB.c_cells σ b c (w'0 hc)
    have hcc':=hcc c.l
    rw[VB.put_l]at hcc'
    have hg:=w'y hn hc
    rw[hcc']at hg
    simp only[G.d,cSrc,hg,z'i]
    exact⟨z'F hb,by rw[←List.map_drop, ←List.map_take];exact hk⟩
   ·cases h
  ·cases h
 ·cases h
noncomputable def Zja (esz b o n:Nat) (news:List G) (m:Nat) (V:Vh) (nx:Nat):Option (G×Vh×Nat):=match v'Q V b with
 |some c=>match Nat.ble (o+Nat.min m n*esz) c.l.length with
  |true=>v'z (Zep c.l o (news.take (Nat.min m n*esz))) fun l=>Zdq V b (c.put l) fun V'=>some (.int .i64 (Int.ofNat (Nat.min m n)),V',nx)
  |false=>none
 |none=>none
noncomputable def ZmC (kd:Kd) (d x:G) (V:Vh) (nx:Nat):Option (G×Vh×Nat):=match kd with
 | .slice _ esz _ _ _=>match Ze4 esz x V with
  |some (news,m)=>match d with
   | .nils=>some (.int .i64 (Int.ofNat 0),V,nx)
   | .own b n=>Zja esz b 0 n news m V nx
   | .off b o n _=>Zja esz b o n news m V nx
   |_=>none
  |none=>none
 |_=>none
theorem Zj6 {lo:Nat→Prop} {esz b o n m nx nx':Nat} {news:List G} {V V':Vh} {g:G} (h:Zja esz b o n news m V nx=some (g,V',nx')) (hV:VOk lo nx V) (hb:BelL lo nx news):(nx≤nx'∧VOk lo nx' V'∧Bel lo nx' g)∧
  ∀(σ:Nm) (K:D→Heap→Prop),(Vn σ V).blocks.Nodup→(∀σ':Nm,(∀i,i<nx→σ' i=σ i)→K (g.d σ') (Vn σ' V'))→cPut esz (σ b).1 o n (news.map (G.d σ)) m (Vn σ V) K:=by
 unfold Zja at h
 split at h
 ·rename_i c hc
  split at h
  ·rename_i hle
   simp only[x'S,ZaN,z'L,Prod.mk.injEq]at h
   obtain⟨rfl,rfl,rfl⟩:=h
   have hcl:=(hV _ _ (v'h hc)).2.2
   refine⟨⟨z'c _,Zmj hV hc (by rw[VB.put_c (w'0 hc)];exact Zdc _ _ _ hcl (hb.take _)),Bel.int⟩,fun σ K hn hk=>?_⟩
   obtain⟨ty',n',hcc⟩:=VB.c_cells σ b c (w'0 hc)
   have hcc':=hcc c.l
   rw[VB.put_l]at hcc'
   have hg:=w'y hn hc
   rw[hcc']at hg
   unfold cPut
   rw[hg]
   simp only[z'i]
   refine⟨z'F hle,?_⟩
   rw[←List.map_take,Zeq, ←hcc,ZiZ hn hc]
   exact hk σ fun _ _=>rfl
  ·cases h
 ·cases h
theorem Zpd {P:Program} (T:Tab P) {o:Oper} {lo:Nat→Prop} {nx nx':Nat} {env:Env} {V V':Vh} {t u:TypeId} {s x:Operand} {gs gx g:G} (ho:o.op= .call ⟨.builtin .copy, #[s,x], #[t,u]⟩) (hV:VOk lo nx V) (he:BelE lo nx env)
  (h1:gX env s=some gs) (h2:gX env x=some gx) (h:ZmC (kdT (T.get t)) gs gx V nx=some (g,V',nx')):w'C P o lo env V nx g V' nx':=by
 have hbx:=x'F h2 he
 unfold ZmC at h
 split at h
 ·rename_i e esz eb ea ez hkd
  split at h
  ·rename_i news m hsrc
   have hnb:=Zka hsrc hbx hV
   split at h
   ·cases h
    refine⟨⟨z'c _,hV,Bel.int⟩,fun σ K hn hk=>ZkE T ho ?_⟩
    rw[hkd,z'2 h1,z'2 h2]
    unfold cCopy
    refine Zkb hsrc hn ?_
    exact hk σ fun _ _=>rfl
   ·obtain⟨a1,a2⟩:=Zj6 h hV hnb
    refine⟨a1,fun σ K hn hk=>ZkE T ho ?_⟩
    rw[hkd,z'2 h1,z'2 h2]
    unfold cCopy
    refine Zkb hsrc hn ?_
    exact a2 σ K hn hk
   ·obtain⟨a1,a2⟩:=Zj6 h hV hnb
    refine⟨a1,fun σ K hn hk=>ZkE T ho ?_⟩
    rw[hkd,z'2 h1,z'2 h2]
    unfold cCopy
    refine Zkb hsrc hn ?_
    exact a2 σ K hn hk
   ·cases h
  ·cases h
 ·cases h
def ZgY (esz eb n:Nat):Bool:=Nat.blt 0 esz&&(Nat.blt 0 eb&&Nat.ble (n*eb) 140737488355328)
noncomputable def ZhR (kd:Kd) (s x:G) (V:Vh) (nx:Nat):Option (G×Vh×Nat):=match kd with
 | .slice e esz eb _ _=>match Ze4 esz x V with
  |none=>none
  |some (news,m)=>match m with
   |0=>match s with
    | .own b n=>some (.own b n,V,nx)
    | .nils=>some (.nils,V,nx)
    |_=>none
   |m+1=>match s with
    | .nils=>match ZgY esz eb (0+(m+1))with
     |true=>v'z news fun l=>some (.own nx (0+(m+1)),(nx,.gro e esz l)::V,nx+1)
     |false=>none
    | .own b n=>match v'Q V b with
     |some (.gro e' esz' l)=>match ZgY esz eb (n+(m+1))&&(Nat.beq e' e&&(Nat.beq esz' esz&&Nat.beq l.length (n*esz)))with
      |true=>v'z (l++news) fun l=>Znl V b fun W=>some (.own nx (n+(m+1)),(nx,.gro e esz l)::W,nx+1)
      |false=>none
     |_=>none
    | .sl true esz' rows=>match ZgY esz eb (rows.length+(m+1))&&Nat.beq esz' esz with
     |true=>v'z (rows.flatten++news) fun l=>some (.own nx (rows.length+(m+1)),(nx,.gro e esz l)::V,nx+1)
     |false=>none
    |_=>none
 |_=>none
theorem Zgq {esz eb n:Nat} (h:ZgY esz eb n=true):0<esz∧0<eb∧n*eb≤140737488355328:=by
 simp only[ZgY,z'd]at h
 exact⟨z'F h.1,z'F h.2.1,z'F h.2.2⟩
theorem Zmz {P:Program} (T:Tab P) {o:Oper} {lo:Nat→Prop} {nx nx':Nat} {env:Env} {V V':Vh} {t:TypeId} {s x:Operand} {gs gx g:G} (ho:o.op= .call ⟨.builtin .append, #[s,x], #[t,t]⟩) (hlo: ∀i,nx≤i→lo i) (hV:VOk lo nx V) (he:BelE lo nx env)
  (h1:gX env s=some gs) (h2:gX env x=some gx) (h:ZhR (kdT (T.get t)) gs gx V nx=some (g,V',nx')):w'C P o lo env V nx g V' nx':=by
 have hbs:=x'F h1 he
 have hbx:=x'F h2 he
 have grown: ∀{e esz n m:Nat} {W:Vh} {l:List G},VOk lo nx W→BelL lo nx l→(∀(σ:Nm) (K:D→Heap→Prop),(Vn σ V).blocks.Nodup→(∀b cap,K (.gs (some (b,cap)) (n+m)) ((b,.cells e (cap*esz) (l.map (G.d σ)))::Vn σ W))→Op1 P o (evD (cE σ env)) (Vn σ V) K)→
   w'C P o lo env V nx (.own nx (n+m)) ((nx,.gro e esz l)::W) (nx+1):=by
  intro e esz n m W l hW hl hop
  refine⟨⟨Nat.le_succ _,(hW.mono (Nat.le_succ _)).cons (hlo _ (z'c _)) (Nat.lt_succ_self _) (hl.mono (Nat.le_succ _)),Bel.own (hlo _ (z'c _)) (Nat.lt_succ_self _)⟩,fun σ K hn hk=>hop σ K hn fun b cap=>?_⟩
  have:=hk (nm1 σ nx (b,cap)) v'q
  have e1:Vn (nm1 σ nx (b,cap)) W=Vn σ W:=v'x hW fun i _ hi=>v'q i hi
  have e2:l.map (G.d (nm1 σ nx (b,cap)))=l.map (G.d σ):=hl.dls fun i _ hi=>v'q i hi
  simpa only[G.d,Zbu,Zfe,VB.c,e1,e2]using this
 unfold ZhR at h
 split at h
 ·rename_i e esz eb ea ez hkd
  split at h
  ·cases h
  ·rename_i news m hsrc
   have hnb:=Zka hsrc hbx hV
   split at h
   ·split at h<;>cases h
    ·refine⟨⟨z'c _,hV,hbs⟩,fun σ K hn hk=>?_⟩
     have hS:=ZdM hsrc hn
     rw[←z'2 h2 σ]at hS
     exact ZiN T ho hkd (z'2 h1 σ) hS (hk σ fun _ _=>rfl)
    ·refine⟨⟨z'c _,hV,hbs⟩,fun σ K hn hk=>?_⟩
     have hS:=ZdM hsrc hn
     rw[←z'2 h2 σ]at hS
     exact ZiN T ho hkd (z'2 h1 σ) hS (hk σ fun _ _=>rfl)
   ·rename_i m
    split at h
    ·split at h
     ·rename_i hb
      simp only[x'S,z'L,Prod.mk.injEq]at h
      obtain⟨rfl,rfl,rfl⟩:=h
      refine grown hV hnb fun σ K hn hK=>Zht T ho ?_
      rw[hkd,z'2 h1,z'2 h2]
      refine⟨fun g' l'=>shp g' e esz l' (Vn σ V),[],news.map (G.d σ),m+1,⟨Vn σ V,y't _,fun _ _=>y't _⟩,by simp,ZdM hsrc hn,Zgq hb,fun g' hg'=>?_⟩
      cases g' with
      |none=>have:0+(m+1)=0:=hg';omega
      |some p=>rw[y'h];exact hK p.1 p.2
     ·cases h
    ·rename_i b n
     split at h
     ·rename_i e' esz' l hc
      split at h
      ·rename_i hb
       simp only[x'S,Zk0,z'L,Prod.mk.injEq]at h
       obtain⟨rfl,rfl,rfl⟩:=h
       rw[z'd,z'd,z'd]at hb
       obtain⟨b1,b2,b3,b4⟩:=hb
       obtain rfl:=z's b2
       obtain rfl:=z's b3
       refine grown (Zr5 hV) (BelL.app (hV _ _ (v'h hc)).2.2 hnb) fun σ K hn hK=>Zht T ho ?_
       rw[hkd,z'2 h1,z'2 h2]
       refine⟨fun g' l'=>shp g' e' esz' l' (Vn σ (ZcX V b)),l.map (G.d σ),news.map (G.d σ),m+1,⟨Vn σ (ZcX V b),ZoS σ hc,fun _ _=>y't _⟩,by rw[z'i];exact z's b4,ZdM hsrc hn,Zgq b1,fun g' hg'=>?_⟩
       cases g' with
       |none=>have:n+(m+1)=0:=hg';omega
       |some p=>rw[←List.map_append];exact hK p.1 p.2
      ·cases h
     ·cases h
    ·rename_i esz' rows
     split at h
     ·rename_i hb
      simp only[x'S,z'L,Prod.mk.injEq]at h
      obtain⟨rfl,rfl,rfl⟩:=h
      rw[z'd]at hb
      obtain rfl:=z's hb.2
      have hrb:BelL lo nx rows.flatten:=fun g hg=>by
       obtain⟨r,hr,hg⟩:=List.mem_flatten.1 hg
       exact hbs.sl_r r hr g hg
      refine grown hV (BelL.app hrb hnb) fun σ K hn hK=>Zht T ho ?_
      rw[hkd,z'2 h1,z'2 h2]
      simp only[G.d,G.dr_eq,cAppS,cAppend]
      refine⟨news.map (G.d σ),m+1,ZdM hsrc hn,⟨trivial,by rw[z'i];exact Zgq hb.1⟩,fun h0=>(by cases h0),fun _ b cap _ _=>?_⟩
      rw[z'i, ←List.map_flatten, ←List.map_append]
      exact hK b cap
     ·cases h
    ·cases h
 ·cases h
noncomputable def gOp {P:Program} (T:Tab P) (env:Env) (V:Vh) (nx:Nat) (op:Op):Option (G×Vh×Nat):=match op with
 | .load t x=>match gX env x with
  |some a=>match Zeg (T.get t) a V with|some g=>some (g,V,nx)|none=>none
  |none=>none
 | .alloc t=>ZeR t (T.get t) V nx
 | .box t x=>match gX env x with|some x=>ZjM t x V nx|none=>none
 | .store t a x=>match gX env a,gX env x with
  |some a,some x=>Zhe (T.get t).known (T.get t).size a x V nx
  |_,_=>none
 | .makeSlice t l c=>match gX env l,gX env c with
  |some l,some c=>Zg8 (kdT (T.get t)) l c V nx
  |_,_=>none
 | .call ⟨.builtin .append,az,ts⟩=>match az.toList,ts.toList with
  |[s,x],[t,u]=>match Nat.beq t u,gX env s,gX env x with
   |true,some s,some x=>ZhR (kdT (T.get t)) s x V nx
   |_,_,_=>none
  |_,_=>none
 | .call ⟨.builtin .copy,az,ts⟩=>match az.toList,ts.toList with
  |[s,x],[t,_]=>match gX env s,gX env x with
   |some s,some x=>ZmC (kdT (T.get t)) s x V nx
   |_,_=>none
  |_,_=>none
 | .makeMap t r=>match gXo env r with|some r=>Zgr P t r V nx|none=>none
 | .call ⟨.builtin .delete,az,ts⟩=>match az.toList,ts.toList with
  |[m,k],[t,_]=>match gX env m,gX env k with
   |some (.mp b),some k=>Zpe P t b k V nx
   |_,_=>none
  |_,_=>none
 | .call ⟨.builtin .len,az,ts⟩=>match az.toList,ts.toList with
  |[x],[t]=>match gX env x with
   |some (.mp b)=>ZmJ P t b V nx
   |some x=>match Zh0 (kdT (T.get t)) x with|some g=>some (g,V,nx)|none=>none
   |none=>none
  |_,_=>none
 | .range t x=>match gX env x with|some x=>Zj7 (kdT (T.get t)) x V nx|none=>none
 | .next x true=>match gX env x with|some x=>ZmM x V nx|none=>none
 | .mapUpdate t m k v=>match gX env m,gX env k,gX env v with
  |some m,some k,some v=>ZfC P t m k v V nx
  |_,_,_=>none
 | .insert t m k v=>match gX env m,gX env k,gX env v with
  |some m,some k,some v=>ZfC P t m k v V nx
  |_,_,_=>none
 | .lookup t m k ok=>match gX env m,gX env k with
  |some m,some k=>match ZfB P t m k ok V with|some g=>some (g,V,nx)|none=>none
  |_,_=>none
 |op=>match Zgt T env op with|some g=>some (g,V,nx)|none=>none
theorem ZnW {P:Program} (T:Tab P) {o:Oper} {lo:Nat→Prop} {nx nx':Nat} {env:Env} {V V':Vh} {g:G} (hlo: ∀i,nx≤i→lo i) (hV:VOk lo nx V) (he:BelE lo nx env) (h:gOp T env V nx o.op=some (g,V',nx')):w'C P o lo env V nx g V' nx':=by
 unfold gOp at h
 split at h
 ·rename_i ho
  split at h
  ·rename_i a ha
   split at h
   ·rename_i g hg
    cases h
    refine⟨⟨z'c _,hV,Ziz hg (x'F ha he) hV⟩,fun σ K hn hk=>ZkH T ho ?_⟩
    rw[z'2 ha]
    exact ZjW hg hn (hk σ fun _ _=>rfl)
   ·cases h
  ·cases h
 ·rename_i ho;exact Zix T ho hlo hV h
 ·rename_i ho
  split at h
  ·rename_i hx;exact Zlu ho hlo hV he hx h
  ·cases h
 ·rename_i ho
  split at h
  ·rename_i ha hx;exact Zn0 T ho hV he ha hx h
  ·cases h
 ·rename_i ho
  split at h
  ·rename_i h1 h2;exact ZjX T ho hlo hV h1 h2 h
  ·cases h
 ·rename_i az ts ho
  split at h
  ·rename_i s x t u hx ht
   have e1:az= #[s,x]:=by rw[←Array.toList_inj];exact hx
   have e2:ts= #[t,u]:=by rw[←Array.toList_inj];exact ht
   subst e1;subst e2
   split at h
   ·rename_i hb h1 h2
    obtain rfl:=z's hb
    exact Zmz T ho hlo hV he h1 h2 h
   ·cases h
  ·cases h
 ·rename_i az ts ho
  split at h
  ·rename_i s x t u hx ht
   have e1:az= #[s,x]:=by rw[←Array.toList_inj];exact hx
   have e2:ts= #[t,u]:=by rw[←Array.toList_inj];exact ht
   subst e1;subst e2
   split at h
   ·rename_i h1 h2;exact Zpd T ho hV he h1 h2 h
   ·cases h
  ·cases h
 ·rename_i ho
  split at h
  ·rename_i hr;exact Zld ho hlo hV hr h
  ·cases h
 ·rename_i az ts ho
  split at h
  ·rename_i m k t u hx ht
   have e1:az= #[m,k]:=by rw[←Array.toList_inj];exact hx
   have e2:ts= #[t,u]:=by rw[←Array.toList_inj];exact ht
   subst e1;subst e2
   split at h
   ·rename_i h1 h2;exact Zrb ho hV h1 h2 h
   ·cases h
  ·cases h
 ·rename_i az ts ho
  split at h
  ·rename_i x t hx ht
   have e1:az= #[x]:=by rw[←Array.toList_inj];exact hx
   have e2:ts= #[t]:=by rw[←Array.toList_inj];exact ht
   subst e1;subst e2
   split at h
   ·rename_i h1;exact Zpl ho hV h1 h
   ·rename_i _ h1
    split at h
    ·rename_i g hg
     cases h
     exact⟨⟨z'c _,hV,ZjV hg⟩,fun σ K hn hk=>Zm3 T ho (by rw[z'2 h1];exact ZlB hg (hk σ fun _ _=>rfl))⟩
    ·cases h
   ·cases h
  ·cases h
 ·rename_i ho
  split at h
  ·rename_i hx;exact ZnY T ho hlo hV hx h
  ·cases h
 ·rename_i ho
  split at h
  ·rename_i hx;exact Zpo ho hV hx h
  ·cases h
 ·rename_i ho
  split at h
  ·rename_i h1 h2 h3;exact Zg9 (.inl ho) hV he h1 h2 h3 h
  ·cases h
 ·rename_i ho
  split at h
  ·rename_i h1 h2 h3;exact Zg9 (.inr ho) hV he h1 h2 h3 h
  ·cases h
 ·rename_i ho
  split at h
  ·rename_i h1 h2
   split at h
   ·rename_i hg;cases h;obtain⟨q1,q2⟩:=Zg7 ho hV h1 h2 hg;exact⟨⟨z'c _,hV,q1⟩,fun σ K hn hk=>q2 σ K hn (hk σ fun _ _=>rfl)⟩
   ·cases h
  ·cases h
 ·split at h
  ·rename_i g hg
   cases h
   exact⟨⟨z'c _,hV,Zgu T hg he⟩,fun σ K hn hk=>Zh6 T hg (hk σ fun _ _=>rfl)⟩
  ·cases h
end Go.Vc
