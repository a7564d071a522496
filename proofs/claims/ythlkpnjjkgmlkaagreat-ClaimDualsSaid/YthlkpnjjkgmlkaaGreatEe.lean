/- Calls at fixed data, reckoned out: append; any operation but a call. No condition. -/
import Derived.Test.YthlkpnjjkgmlkaaGreatEd
namespace Go.Vc
set_option linter.unusedSimpArgs false
set_option linter.unusedVariables false
open Go
theorem ZjV {P:Program} (T:Tab P) {o:Oper} {E:Operand→D} {H:Heap} {K:D→Heap→Prop} {s x:Operand} {t e:TypeId} {esz eb n:Nat} {ea:Bool} {ez:List Value} {g:Option (Nat×Nat)} {news:List D} (ho:o.op= .call ⟨.builtin .append, #[s,x], #[t,t]⟩)
  (hkd:kdT (T.get t)= .slice e esz eb ea ez) (hs0:E s= .gs g n) (hsrc:srcOk esz (E x) H news 0) (hk:K (.gs g n) H):Op1 P o E H K:=by
 obtain⟨hu,hkn,hsz,hbt,_,hze⟩:=w'C T hkd
 obtain⟨d,inf,z,h1,h2,h3,h4,_,h6,h7,h8⟩:=x'0 hkn
 refine Op1.value (d:= .gs g n) (fun w L0 ε hi hx=>?_) hk
 have hx1:=hx s (by simp[ho,Op.operands,Call.operands])
 have hx2:=hx x (by simp[ho,Op.operands,Call.operands])
 rw[hs0,Rel]at hx1
 obtain⟨nv,k1,k2,k3,k4⟩:=ZdT hi hsrc hx2
 have run: ∀(r:Value),(Builtin.append_ #[t,t] o.type #[ε s,ε x]).run P w= .ok r w→(execOp ε o).run P w= .ok (.value r) w:=fun r hr=>
  Zer ho (s:=Builtin.append_ #[t,t] o.type (#[s,x].map ε)) rfl (by simpa using hr)
 refine⟨sv g n,run _ ?_,rfl,hx1.2⟩
 rw[hx1.1]
 have hg:=hx1.2
 rcases k4 with⟨_,hxv⟩|⟨ad,c,hxv,_⟩
 ·rw[hxv]
  cases g with
  |none=>obtain rfl:n=0:=hg;simp[sv,Builtin.append_,run_underlying hu,sizeOf,typeInfo,h2,Builtin.lenOf,Builtin.firstCells]
  |some p=>
   have hnc:n≤p.2:=hg
   simp[sv,Builtin.append_,run_underlying hu,sizeOf,typeInfo,h2,Builtin.lenOf,Builtin.firstCells,hnc,storeCells]
 ·rw[hxv]
  cases g with
  |none=>obtain rfl:n=0:=hg;simp[sv,Builtin.append_,run_underlying hu,sizeOf,typeInfo,h2,Builtin.lenOf,Builtin.firstCells,loadCells,loadCellsFrom]
  |some p=>
   have hnc:n≤p.2:=hg
   simp[sv,Builtin.append_,run_underlying hu,sizeOf,typeInfo,h2,Builtin.lenOf,Builtin.firstCells,hnc,storeCells,loadCells,loadCellsFrom]
noncomputable def Zf1 (esz:Nat) (x:G) (V:Vh):Option (List G×Nat):=match x with
 | .sl _ esz' rows=>match Nat.beq esz' esz with|true=>some (rows.flatten,rows.length)|false=>none
 | .nils=>some ([],0)
 | .own b n=>match ZaN V b with
  |some c=>match Nat.ble (n*esz) c.l.length with|true=>some (c.l.take (n*esz),n)|false=>none
  |none=>none
 | .off b o n _=>match ZaN V b with
  |some c=>match Nat.ble (o+n*esz) c.l.length with|true=>some ((c.l.drop o).take (n*esz),n)|false=>none
  |none=>none
 |_=>none
theorem ZeG {esz m:Nat} {x:G} {V:Vh} {news:List G} (h:Zf1 esz x V=some (news,m)) {σ:Nm} (hn:(Vn σ V).blocks.Nodup):srcOk esz (x.d σ) (Vn σ V) (news.map (G.d σ)) m:=by
 unfold Zf1 at h
 split at h
 ·split at h
  ·rename_i hb
   cases h
   simp only[G.d,G.dr_eq,srcOk,z'm,List.map_flatten]
   exact⟨z't hb,trivial,trivial⟩
  ·cases h
 ·cases h;exact⟨rfl,rfl⟩
 ·rename_i b n
  split at h
  ·rename_i c hc
   split at h
   ·rename_i hb
    cases h
    obtain⟨ty',n',hcc⟩:=VB.c_cells σ b c (v'K hc)
    have hcc':=hcc c.l
    rw[VB.put_l]at hcc'
    have hg:=v'h hn hc
    rw[hcc']at hg
    exact⟨_,_,_,hg,by rw[z'm];exact z'J hb,by rw[List.map_take],rfl⟩
   ·cases h
  ·cases h
 ·rename_i b off n c'
  split at h
  ·rename_i c hc
   split at h
   ·rename_i hb
    cases h
    obtain⟨ty',n',hcc⟩:=VB.c_cells σ b c (v'K hc)
    have hcc':=hcc c.l
    rw[VB.put_l]at hcc'
    have hg:=v'h hn hc
    rw[hcc']at hg
    exact⟨_,_,_,hg,by rw[z'm];exact z'J hb,by rw[List.map_take,List.map_drop],rfl⟩
   ·cases h
  ·cases h
 ·cases h
theorem Zls {esz m:Nat} {x:G} {V:Vh} {news:List G} (h:Zf1 esz x V=some (news,m)) {lo:Nat→Prop} {hi:Nat} (hx:Bel lo hi x) (hV:VOk lo hi V):BelL lo hi news:=by
 unfold Zf1 at h
 split at h
 ·split at h
  ·cases h
   intro g hg
   obtain⟨r,hr,hg⟩:=List.mem_flatten.1 hg
   exact hx.sl_r r hr g hg
  ·cases h
 ·cases h;intro g hg;cases hg
 ·split at h
  ·rename_i hc
   split at h
   ·cases h;exact BelL.take (hV _ _ (v'5 hc)).2.2 _
   ·cases h
  ·cases h
 ·split at h
  ·rename_i hc
   split at h
   ·cases h;exact BelL.take (BelL.drop (hV _ _ (v'5 hc)).2.2 _) _
   ·cases h
  ·cases h
 ·cases h
theorem Zlt {esz m:Nat} {x:G} {V:Vh} {news:List G} (h:Zf1 esz x V=some (news,m)) {σ:Nm} (hn:(Vn σ V).blocks.Nodup) {K:List D→Nat→Prop} (hk:K (news.map (G.d σ)) m):cSrc esz (x.d σ) (Vn σ V) K:=by
 unfold Zf1 at h
 split at h
 ·split at h
  ·rename_i hb
   cases h
   simp only[G.d,G.dr_eq,cSrc,z'm,List.map_flatten]at hk⊢
   exact⟨z't hb,hk⟩
  ·cases h
 ·cases h;exact hk
 ·rename_i b n
  split at h
  ·rename_i c hc
   split at h
   ·rename_i hb
    cases h
    obtain⟨ty',n',hcc⟩:=VB.c_cells σ b c (v'K hc)
    have hcc':=hcc c.l
    rw[VB.put_l]at hcc'
    have hg:=v'h hn hc
    rw[hcc']at hg
    simp only[G.d,cSrc,hg,z'm]
    exact⟨z'J hb,by rw[←List.map_take];exact hk⟩
   ·cases h
  ·cases h
 ·rename_i b off n c'
  split at h
  ·rename_i c hc
   split at h
   ·rename_i hb
    cases h
    obtain⟨ty',n',hcc⟩:=VB.c_cells σ b c (v'K hc)
    have hcc':=hcc c.l
    rw[VB.put_l]at hcc'
    have hg:=v'h hn hc
    rw[hcc']at hg
    simp only[G.d,cSrc,hg,z'm]
    exact⟨z'J hb,by rw[←List.map_drop, ←List.map_take];exact hk⟩
   ·cases h
  ·cases h
 ·cases h
noncomputable def Zkr (esz b o n:Nat) (news:List G) (m:Nat) (V:Vh) (nx:Nat):Option (G×Vh×Nat):=match ZaN V b with
 |some c=>match Nat.ble (o+Nat.min m n*esz) c.l.length with
  |true=>Zaq (Zfk c.l o (news.take (Nat.min m n*esz))) fun l=>Zee V b (c.put l) fun V'=>some (.int .i64 (Int.ofNat (Nat.min m n)),V',nx)
  |false=>none
 |none=>none
noncomputable def Zn2 (kd:Kd) (d x:G) (V:Vh) (nx:Nat):Option (G×Vh×Nat):=match kd with
 | .slice _ esz _ _ _=>match Zf1 esz x V with
  |some (news,m)=>match d with
   | .nils=>some (.int .i64 (Int.ofNat 0),V,nx)
   | .own b n=>Zkr esz b 0 n news m V nx
   | .off b o n _=>Zkr esz b o n news m V nx
   |_=>none
  |none=>none
 |_=>none
theorem Zlo {lo:Nat→Prop} {esz b o n m nx nx':Nat} {news:List G} {V V':Vh} {g:G} (h:Zkr esz b o n news m V nx=some (g,V',nx')) (hV:VOk lo nx V) (hb:BelL lo nx news):(nx≤nx'∧VOk lo nx' V'∧Bel lo nx' g)∧
  ∀(σ:Nm) (K:D→Heap→Prop),(Vn σ V).blocks.Nodup→(∀σ':Nm,(∀i,i<nx→σ' i=σ i)→K (g.d σ') (Vn σ' V'))→cPut esz (σ b).1 o n (news.map (G.d σ)) m (Vn σ V) K:=by
 unfold Zkr at h
 split at h
 ·rename_i c hc
  split at h
  ·rename_i hle
   simp only[w'n,ZbH,z'H,Prod.mk.injEq]at h
   obtain⟨rfl,rfl,rfl⟩:=h
   have hcl:=(hV _ _ (v'5 hc)).2.2
   refine⟨⟨z'h _,ZnH hV hc (by rw[VB.put_c (v'K hc)];exact Zd5 _ _ _ hcl (hb.take _)),Bel.int⟩,fun σ K hn hk=>?_⟩
   obtain⟨ty',n',hcc⟩:=VB.c_cells σ b c (v'K hc)
   have hcc':=hcc c.l
   rw[VB.put_l]at hcc'
   have hg:=v'h hn hc
   rw[hcc']at hg
   unfold cPut
   rw[hg]
   simp only[z'm]
   refine⟨z'J hle,?_⟩
   rw[←List.map_take,Zfl, ←hcc,Zke hn hc]
   exact hk σ fun _ _=>rfl
  ·cases h
 ·cases h
theorem ZqC {P:Program} (T:Tab P) {o:Oper} {lo:Nat→Prop} {nx nx':Nat} {env:Env} {V V':Vh} {t u:TypeId} {s x:Operand} {gs gx g:G} (ho:o.op= .call ⟨.builtin .copy, #[s,x], #[t,u]⟩) (hV:VOk lo nx V) (he:BelE lo nx env)
  (h1:gX env s=some gs) (h2:gX env x=some gx) (h:Zn2 (kdT (T.get t)) gs gx V nx=some (g,V',nx')):v'j P o lo env V nx g V' nx':=by
 have hbx:=x'7 h2 he
 unfold Zn2 at h
 split at h
 ·rename_i e esz eb ea ez hkd
  split at h
  ·rename_i news m hsrc
   have hnb:=Zls hsrc hbx hV
   split at h
   ·cases h
    refine⟨⟨z'h _,hV,Bel.int⟩,fun σ K hn hk=>ZlU T ho ?_⟩
    rw[hkd,z'3 h1,z'3 h2]
    unfold cCopy
    refine Zlt hsrc hn ?_
    exact hk σ fun _ _=>rfl
   ·obtain⟨a1,a2⟩:=Zlo h hV hnb
    refine⟨a1,fun σ K hn hk=>ZlU T ho ?_⟩
    rw[hkd,z'3 h1,z'3 h2]
    unfold cCopy
    refine Zlt hsrc hn ?_
    exact a2 σ K hn hk
   ·obtain⟨a1,a2⟩:=Zlo h hV hnb
    refine⟨a1,fun σ K hn hk=>ZlU T ho ?_⟩
    rw[hkd,z'3 h1,z'3 h2]
    unfold cCopy
    refine Zlt hsrc hn ?_
    exact a2 σ K hn hk
   ·cases h
  ·cases h
 ·cases h
def Zh0 (esz eb n:Nat):Bool:=Nat.blt 0 esz&&(Nat.blt 0 eb&&Nat.ble (n*eb) 140737488355328)
noncomputable def ZiR (kd:Kd) (s x:G) (V:Vh) (nx:Nat):Option (G×Vh×Nat):=match kd with
 | .slice e esz eb _ _=>match Zf1 esz x V with
  |none=>none
  |some (news,m)=>match m with
   |0=>match s with
    | .own b n=>some (.own b n,V,nx)
    | .nils=>some (.nils,V,nx)
    |_=>none
   |m+1=>match s with
    | .nils=>match Zh0 esz eb (0+(m+1))with
     |true=>Zaq news fun l=>some (.own nx (0+(m+1)),(nx,.gro e esz l)::V,nx+1)
     |false=>none
    | .own b n=>match ZaN V b with
     |some (.gro e' esz' l)=>match Zh0 esz eb (n+(m+1))&&(Nat.beq e' e&&(Nat.beq esz' esz&&Nat.beq l.length (n*esz)))with
      |true=>Zaq (l++news) fun l=>ZoJ V b fun W=>some (.own nx (n+(m+1)),(nx,.gro e esz l)::W,nx+1)
      |false=>none
     |_=>none
    | .sl true esz' rows=>match Zh0 esz eb (rows.length+(m+1))&&Nat.beq esz' esz with
     |true=>Zaq (rows.flatten++news) fun l=>some (.own nx (rows.length+(m+1)),(nx,.gro e esz l)::V,nx+1)
     |false=>none
    |_=>none
 |_=>none
theorem Zhv {esz eb n:Nat} (h:Zh0 esz eb n=true):0<esz∧0<eb∧n*eb≤140737488355328:=by
 simp only[Zh0,z'f]at h
 exact⟨z'J h.1,z'J h.2.1,z'J h.2.2⟩
theorem ZnZ {P:Program} (T:Tab P) {o:Oper} {lo:Nat→Prop} {nx nx':Nat} {env:Env} {V V':Vh} {t:TypeId} {s x:Operand} {gs gx g:G} (ho:o.op= .call ⟨.builtin .append, #[s,x], #[t,t]⟩) (hlo: ∀i,nx≤i→lo i) (hV:VOk lo nx V) (he:BelE lo nx env)
  (h1:gX env s=some gs) (h2:gX env x=some gx) (h:ZiR (kdT (T.get t)) gs gx V nx=some (g,V',nx')):v'j P o lo env V nx g V' nx':=by
 have hbs:=x'7 h1 he
 have hbx:=x'7 h2 he
 have grown: ∀{e esz n m:Nat} {W:Vh} {l:List G},VOk lo nx W→BelL lo nx l→(∀(σ:Nm) (K:D→Heap→Prop),(Vn σ V).blocks.Nodup→(∀b cap,K (.gs (some (b,cap)) (n+m)) ((b,.cells e (cap*esz) (l.map (G.d σ)))::Vn σ W))→Op1 P o (evD (cE σ env)) (Vn σ V) K)→
   v'j P o lo env V nx (.own nx (n+m)) ((nx,.gro e esz l)::W) (nx+1):=by
  intro e esz n m W l hW hl hop
  refine⟨⟨Nat.le_succ _,(hW.mono (Nat.le_succ _)).cons (hlo _ (z'h _)) (Nat.lt_succ_self _) (hl.mono (Nat.le_succ _)),Bel.own (hlo _ (z'h _)) (Nat.lt_succ_self _)⟩,fun σ K hn hk=>hop σ K hn fun b cap=>?_⟩
  have:=hk (nm1 σ nx (b,cap)) Zaf
  have e1:Vn (nm1 σ nx (b,cap)) W=Vn σ W:=Zap hW fun i _ hi=>Zaf i hi
  have e2:l.map (G.d (nm1 σ nx (b,cap)))=l.map (G.d σ):=hl.dls fun i _ hi=>Zaf i hi
  simpa only[G.d,Zcf,Zgc,VB.c,e1,e2]using this
 unfold ZiR at h
 split at h
 ·rename_i e esz eb ea ez hkd
  split at h
  ·cases h
  ·rename_i news m hsrc
   have hnb:=Zls hsrc hbx hV
   split at h
   ·split at h<;>cases h
    ·refine⟨⟨z'h _,hV,hbs⟩,fun σ K hn hk=>?_⟩
     have hS:=ZeG hsrc hn
     rw[←z'3 h2 σ]at hS
     exact ZjV T ho hkd (z'3 h1 σ) hS (hk σ fun _ _=>rfl)
    ·refine⟨⟨z'h _,hV,hbs⟩,fun σ K hn hk=>?_⟩
     have hS:=ZeG hsrc hn
     rw[←z'3 h2 σ]at hS
     exact ZjV T ho hkd (z'3 h1 σ) hS (hk σ fun _ _=>rfl)
   ·rename_i m
    split at h
    ·split at h
     ·rename_i hb
      simp only[w'n,z'H,Prod.mk.injEq]at h
      obtain⟨rfl,rfl,rfl⟩:=h
      refine grown hV hnb fun σ K hn hK=>Zis T ho ?_
      rw[hkd,z'3 h1,z'3 h2]
      refine⟨fun g' l'=>shp g' e esz l' (Vn σ V),[],news.map (G.d σ),m+1,⟨Vn σ V,w'Z _,fun _ _=>w'Z _⟩,by simp,ZeG hsrc hn,Zhv hb,fun g' hg'=>?_⟩
      cases g' with
      |none=>have:0+(m+1)=0:=hg';omega
      |some p=>rw[y'i];exact hK p.1 p.2
     ·cases h
    ·rename_i b n
     split at h
     ·rename_i e' esz' l hc
      split at h
      ·rename_i hb
       simp only[w'n,Zml,z'H,Prod.mk.injEq]at h
       obtain⟨rfl,rfl,rfl⟩:=h
       rw[z'f,z'f,z'f]at hb
       obtain⟨b1,b2,b3,b4⟩:=hb
       obtain rfl:=z't b2
       obtain rfl:=z't b3
       refine grown (ZtF hV) (BelL.app (hV _ _ (v'5 hc)).2.2 hnb) fun σ K hn hK=>Zis T ho ?_
       rw[hkd,z'3 h1,z'3 h2]
       refine⟨fun g' l'=>shp g' e' esz' l' (Vn σ (ZdU V b)),l.map (G.d σ),news.map (G.d σ),m+1,⟨Vn σ (ZdU V b),Zp9 σ hc,fun _ _=>w'Z _⟩,by rw[z'm];exact z't b4,ZeG hsrc hn,Zhv b1,fun g' hg'=>?_⟩
       cases g' with
       |none=>have:n+(m+1)=0:=hg';omega
       |some p=>rw[←z'E];exact hK p.1 p.2
      ·cases h
     ·cases h
    ·rename_i esz' rows
     split at h
     ·rename_i hb
      simp only[w'n,z'H,Prod.mk.injEq]at h
      obtain⟨rfl,rfl,rfl⟩:=h
      rw[z'f]at hb
      obtain rfl:=z't hb.2
      have hrb:BelL lo nx rows.flatten:=fun g hg=>by
       obtain⟨r,hr,hg⟩:=List.mem_flatten.1 hg
       exact hbs.sl_r r hr g hg
      refine grown hV (BelL.app hrb hnb) fun σ K hn hK=>Zis T ho ?_
      rw[hkd,z'3 h1,z'3 h2]
      simp only[G.d,G.dr_eq,cAppS,cAppend]
      refine⟨news.map (G.d σ),m+1,ZeG hsrc hn,⟨trivial,by rw[z'm];exact Zhv hb.1⟩,fun h0=>(by cases h0),fun _ b cap _ _=>?_⟩
      rw[z'm, ←List.map_flatten, ←z'E]
      exact hK b cap
     ·cases h
    ·cases h
 ·cases h
noncomputable def gOp {P:Program} (T:Tab P) (env:Env) (V:Vh) (nx:Nat) (op:Op):Option (G×Vh×Nat):=match op with
 | .load t x=>match gX env x with
  |some a=>match Zfb (T.get t) a V with|some g=>some (g,V,nx)|none=>none
  |none=>none
 | .alloc t=>ZfO t (T.get t) V nx
 | .box t x=>match gX env x with|some x=>Zk5 t x V nx|none=>none
 | .store t a x=>match gX env a,gX env x with
  |some a,some x=>Zig (T.get t).known (T.get t).size a x V nx
  |_,_=>none
 | .makeSlice t l c=>match gX env l,gX env c with
  |some l,some c=>Zia (kdT (T.get t)) l c V nx
  |_,_=>none
 | .call ⟨.builtin .append,az,ts⟩=>match az.toList,ts.toList with
  |[s,x],[t,u]=>match Nat.beq t u,gX env s,gX env x with
   |true,some s,some x=>ZiR (kdT (T.get t)) s x V nx
   |_,_,_=>none
  |_,_=>none
 | .call ⟨.builtin .copy,az,ts⟩=>match az.toList,ts.toList with
  |[s,x],[t,_]=>match gX env s,gX env x with
   |some s,some x=>Zn2 (kdT (T.get t)) s x V nx
   |_,_=>none
  |_,_=>none
 | .makeMap t r=>match gXo env r with|some r=>Zhw P t r V nx|none=>none
 | .call ⟨.builtin .delete,az,ts⟩=>match az.toList,ts.toList with
  |[m,k],[t,_]=>match gX env m,gX env k with
   |some (.mp b),some k=>ZqD P t b k V nx
   |_,_=>none
  |_,_=>none
 | .call ⟨.builtin .len,az,ts⟩=>match az.toList,ts.toList with
  |[x],[t]=>match gX env x with
   |some (.mp b)=>Zn9 P t b V nx
   |some x=>match Zi0 (kdT (T.get t)) x with|some g=>some (g,V,nx)|none=>none
   |none=>none
  |_,_=>none
 | .range t x=>match gX env x with|some x=>Zlp (kdT (T.get t)) x V nx|none=>none
 | .next x true=>match gX env x with|some x=>Zoc x V nx|none=>none
 | .mapUpdate t m k v=>match gX env m,gX env k,gX env v with
  |some m,some k,some v=>ZgD P t m k v V nx
  |_,_,_=>none
 | .insert t m k v=>match gX env m,gX env k,gX env v with
  |some m,some k,some v=>ZgD P t m k v V nx
  |_,_,_=>none
 | .lookup t m k ok=>match gX env m,gX env k with
  |some m,some k=>match ZgC P t m k ok V with|some g=>some (g,V,nx)|none=>none
  |_,_=>none
 |op=>match Zhz T env op with|some g=>some (g,V,nx)|none=>none
theorem Zpi {P:Program} (T:Tab P) {o:Oper} {lo:Nat→Prop} {nx nx':Nat} {env:Env} {V V':Vh} {g:G} (hlo: ∀i,nx≤i→lo i) (hV:VOk lo nx V) (he:BelE lo nx env) (h:gOp T env V nx o.op=some (g,V',nx')):v'j P o lo env V nx g V' nx':=by
 unfold gOp at h
 split at h
 ·rename_i ho
  split at h
  ·rename_i a ha
   split at h
   ·rename_i g hg
    cases h
    refine⟨⟨z'h _,hV,ZjE hg (x'7 ha he) hV⟩,fun σ K hn hk=>ZlW T ho ?_⟩
    rw[z'3 ha]
    exact Zle hg hn (hk σ fun _ _=>rfl)
   ·cases h
  ·cases h
 ·rename_i ho;exact ZjC T ho hlo hV h
 ·rename_i ho
  split at h
  ·rename_i hx;exact ZmT ho hlo hV he hx h
  ·cases h
 ·rename_i ho
  split at h
  ·rename_i ha hx;exact Zpm T ho hV he ha hx h
  ·cases h
 ·rename_i ho
  split at h
  ·rename_i h1 h2;exact Zlf T ho hlo hV h1 h2 h
  ·cases h
 ·rename_i az ts ho
  split at h
  ·rename_i s x t u hx ht
   have e1:az= #[s,x]:=by rw[←y'h];exact hx
   have e2:ts= #[t,u]:=by rw[←y'h];exact ht
   subst e1;subst e2
   split at h
   ·rename_i hb h1 h2
    obtain rfl:=z't hb
    exact ZnZ T ho hlo hV he h1 h2 h
   ·cases h
  ·cases h
 ·rename_i az ts ho
  split at h
  ·rename_i s x t u hx ht
   have e1:az= #[s,x]:=by rw[←y'h];exact hx
   have e2:ts= #[t,u]:=by rw[←y'h];exact ht
   subst e1;subst e2
   split at h
   ·rename_i h1 h2;exact ZqC T ho hV he h1 h2 h
   ·cases h
  ·cases h
 ·rename_i ho
  split at h
  ·rename_i hr;exact Zmx ho hlo hV hr h
  ·cases h
 ·rename_i az ts ho
  split at h
  ·rename_i m k t u hx ht
   have e1:az= #[m,k]:=by rw[←y'h];exact hx
   have e2:ts= #[t,u]:=by rw[←y'h];exact ht
   subst e1;subst e2
   split at h
   ·rename_i h1 h2;exact Zsx ho hV h1 h2 h
   ·cases h
  ·cases h
 ·rename_i az ts ho
  split at h
  ·rename_i x t hx ht
   have e1:az= #[x]:=by rw[←y'h];exact hx
   have e2:ts= #[t]:=by rw[←y'h];exact ht
   subst e1;subst e2
   split at h
   ·rename_i h1;exact ZqK ho hV h1 h
   ·rename_i _ h1
    split at h
    ·rename_i g hg
     cases h
     exact⟨⟨z'h _,hV,Zld hg⟩,fun σ K hn hk=>Zop T ho (by rw[z'3 h1];exact Zm0 hg (hk σ fun _ _=>rfl))⟩
    ·cases h
   ·cases h
  ·cases h
 ·rename_i ho
  split at h
  ·rename_i hx;exact Zpk T ho hlo hV hx h
  ·cases h
 ·rename_i ho
  split at h
  ·rename_i hx;exact ZqN ho hV hx h
  ·cases h
 ·rename_i ho
  split at h
  ·rename_i h1 h2 h3;exact Zib (.inl ho) hV he h1 h2 h3 h
  ·cases h
 ·rename_i ho
  split at h
  ·rename_i h1 h2 h3;exact Zib (.inr ho) hV he h1 h2 h3 h
  ·cases h
 ·rename_i ho
  split at h
  ·rename_i h1 h2
   split at h
   ·rename_i hg;cases h;obtain⟨q1,q2⟩:=Zh9 ho hV h1 h2 hg;exact⟨⟨z'h _,hV,q1⟩,fun σ K hn hk=>q2 σ K hn (hk σ fun _ _=>rfl)⟩
   ·cases h
  ·cases h
 ·split at h
  ·rename_i g hg
   cases h
   exact⟨⟨z'h _,hV,ZhA T hg he⟩,fun σ K hn hk=>Zi6 T hg (hk σ fun _ _=>rfl)⟩
  ·cases h
end Go.Vc
