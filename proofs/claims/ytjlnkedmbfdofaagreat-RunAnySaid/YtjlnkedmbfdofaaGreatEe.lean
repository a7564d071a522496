/- Calls at fixed data, reckoned out: append; any operation but a call. No condition. -/
import Derived.Test.YtjlnkedmbfdofaaGreatEd
namespace Go.Vc
set_option linter.unusedSimpArgs false
set_option linter.unusedVariables false
open Go
theorem Zfj {P:Program} (T:Tab P) {o:Oper} {E:Operand→D} {H:Heap} {K:D→Heap→Prop} {s x:Operand} {t e:TypeId} {esz eb n:Nat} {ea:Bool} {ez:List Value} {g:Option (Nat×Nat)} {news:List D} (ho:o.op= .call ⟨.builtin .append, #[s,x], #[t,t]⟩)
  (hkd:kdT (T.get t)= .slice e esz eb ea ez) (hs0:E s= .gs g n) (hsrc:srcOk esz (E x) H news 0) (hk:K (.gs g n) H):Op1 P o E H K:=by
 obtain⟨hu,hkn,hsz,hbt,_,hze⟩:=y'J T hkd
 obtain⟨d,inf,z,h1,h2,h3,h4,_,h6,h7,h8⟩:=y'g hkn
 refine Op1.value (d:= .gs g n) (fun w L0 ε hi hx=>?_) hk
 have hx1:=hx s (by simp[ho,Op.operands,Call.operands])
 have hx2:=hx x (by simp[ho,Op.operands,Call.operands])
 rw[hs0,Rel]at hx1
 obtain⟨nv,k1,k2,k3,k4⟩:=ZaI hi hsrc hx2
 have run: ∀(r:Value),(Builtin.append_ #[t,t] o.type #[ε s,ε x]).run P w= .ok r w→(execOp ε o).run P w= .ok (.value r) w:=fun r hr=>
  Zbb ho (s:=Builtin.append_ #[t,t] o.type (#[s,x].map ε)) rfl (by simpa using hr)
 refine⟨sv g n,run _ ?_,rfl,hx1.2⟩
 rw[hx1.1]
 have hg:=hx1.2
 rcases k4 with⟨_,hxv⟩|⟨ad,c,hxv,_⟩
 ·rw[hxv]
  cases g with
  |none=>obtain rfl:n=0:=hg;simp[sv,Builtin.append_,run_underlying hu,sizeOf,typeInfo,h2,Builtin.lenOf,Builtin.firstCells]
  |some p=>
   have hnc:n≤p.2:=hg
   simp[sv,Builtin.append_,run_underlying hu,sizeOf,typeInfo,h2,Builtin.lenOf,Builtin.firstCells,hnc,storeCells]
 ·rw[hxv]
  cases g with
  |none=>obtain rfl:n=0:=hg;simp[sv,Builtin.append_,run_underlying hu,sizeOf,typeInfo,h2,Builtin.lenOf,Builtin.firstCells,loadCells,loadCellsFrom]
  |some p=>
   have hnc:n≤p.2:=hg
   simp[sv,Builtin.append_,run_underlying hu,sizeOf,typeInfo,h2,Builtin.lenOf,Builtin.firstCells,hnc,storeCells,loadCells,loadCellsFrom]
noncomputable def Zct (esz:Nat) (x:G) (V:Vh):Option (List G×Nat):=match x with
 | .sl _ esz' rows=>match Nat.beq esz' esz with|true=>some (rows.flatten,rows.length)|false=>none
 | .nils=>some ([],0)
 | .own b n=>match w'b V b with
  |some c=>match Nat.ble (n*esz) c.l.length with|true=>some (c.l.take (n*esz),n)|false=>none
  |none=>none
 | .off b o n _=>match w'b V b with
  |some c=>match Nat.ble (o+n*esz) c.l.length with|true=>some ((c.l.drop o).take (n*esz),n)|false=>none
  |none=>none
 |_=>none
theorem Zal {esz m:Nat} {x:G} {V:Vh} {news:List G} (h:Zct esz x V=some (news,m)) {σ:Nm} (hn:(Vn σ V).blocks.Nodup):srcOk esz (x.d σ) (Vn σ V) (news.map (G.d σ)) m:=by
 unfold Zct at h
 split at h
 ·split at h
  ·rename_i hb
   cases h
   simp only[G.d,G.dr_eq,srcOk,z'f,List.map_flatten]
   exact⟨z'd hb,trivial,trivial⟩
  ·cases h
 ·cases h;exact⟨rfl,rfl⟩
 ·rename_i b n
  split at h
  ·rename_i c hc
   split at h
   ·rename_i hb
    cases h
    obtain⟨ty',n',hcc⟩:=VB.c_cells σ b c (x'B hc)
    have hcc':=hcc c.l
    rw[VB.put_l]at hcc'
    have hg:=x'i hn hc
    rw[hcc']at hg
    exact⟨_,_,_,hg,by rw[z'f];exact z'i hb,by rw[List.map_take],rfl⟩
   ·cases h
  ·cases h
 ·rename_i b off n c'
  split at h
  ·rename_i c hc
   split at h
   ·rename_i hb
    cases h
    obtain⟨ty',n',hcc⟩:=VB.c_cells σ b c (x'B hc)
    have hcc':=hcc c.l
    rw[VB.put_l]at hcc'
    have hg:=x'i hn hc
    rw[hcc']at hg
    exact⟨_,_,_,hg,by rw[z'f];exact z'i hb,by rw[List.map_take,List.map_drop],rfl⟩
   ·cases h
  ·cases h
 ·cases h
theorem Zgr {esz m:Nat} {x:G} {V:Vh} {news:List G} (h:Zct esz x V=some (news,m)) {lo:Nat→Prop} {hi:Nat} (hx:Bel lo hi x) (hV:VOk lo hi V):BelL lo hi news:=by
 unfold Zct at h
 split at h
 ·split at h
  ·cases h
   intro g hg
   obtain⟨r,hr,hg⟩:=List.mem_flatten.1 hg
   exact hx.sl_r r hr g hg
  ·cases h
 ·cases h;intro g hg;cases hg
 ·split at h
  ·rename_i hc
   split at h
   ·cases h;exact BelL.take (hV _ _ (x'C hc)).2.2 _
   ·cases h
  ·cases h
 ·split at h
  ·rename_i hc
   split at h
   ·cases h;exact BelL.take (BelL.drop (hV _ _ (x'C hc)).2.2 _) _
   ·cases h
  ·cases h
 ·cases h
theorem Zgs {esz m:Nat} {x:G} {V:Vh} {news:List G} (h:Zct esz x V=some (news,m)) {σ:Nm} (hn:(Vn σ V).blocks.Nodup) {K:List D→Nat→Prop} (hk:K (news.map (G.d σ)) m):cSrc esz (x.d σ) (Vn σ V) K:=by
 unfold Zct at h
 split at h
 ·split at h
  ·rename_i hb
   cases h
   simp only[G.d,G.dr_eq,cSrc,z'f,List.map_flatten]at hk⊢
   exact⟨z'd hb,hk⟩
  ·cases h
 ·cases h;exact hk
 ·rename_i b n
  split at h
  ·rename_i c hc
   split at h
   ·rename_i hb
    cases h
    obtain⟨ty',n',hcc⟩:=VB.c_cells σ b c (x'B hc)
    have hcc':=hcc c.l
    rw[VB.put_l]at hcc'
    have hg:=x'i hn hc
    rw[hcc']at hg
    simp only[G.d,cSrc,hg,z'f]
    exact⟨z'i hb,by rw[←List.map_take];exact hk⟩
   ·cases h
  ·cases h
 ·rename_i b off n c'
  split at h
  ·rename_i c hc
   split at h
   ·rename_i hb
    cases h
    obtain⟨ty',n',hcc⟩:=VB.c_cells σ b c (x'B hc)
    have hcc':=hcc c.l
    rw[VB.put_l]at hcc'
    have hg:=x'i hn hc
    rw[hcc']at hg
    simp only[G.d,cSrc,hg,z'f]
    exact⟨z'i hb,by rw[←List.map_drop, ←List.map_take];exact hk⟩
   ·cases h
  ·cases h
 ·cases h
noncomputable def ZfD (esz b o n:Nat) (news:List G) (m:Nat) (V:Vh) (nx:Nat):Option (G×Vh×Nat):=match w'b V b with
 |some c=>match Nat.ble (o+Nat.min m n*esz) c.l.length with
  |true=>x'F (ZbQ c.l o (news.take (Nat.min m n*esz))) fun l=>Zah V b (c.put l) fun V'=>some (.int .i64 (Int.ofNat (Nat.min m n)),V',nx)
  |false=>none
 |none=>none
noncomputable def Ziq (kd:Kd) (d x:G) (V:Vh) (nx:Nat):Option (G×Vh×Nat):=match kd with
 | .slice _ esz _ _ _=>match Zct esz x V with
  |some (news,m)=>match d with
   | .nils=>some (.int .i64 (Int.ofNat 0),V,nx)
   | .own b n=>ZfD esz b 0 n news m V nx
   | .off b o n _=>ZfD esz b o n news m V nx
   |_=>none
  |none=>none
 |_=>none
theorem Zgm {lo:Nat→Prop} {esz b o n m nx nx':Nat} {news:List G} {V V':Vh} {g:G} (h:ZfD esz b o n news m V nx=some (g,V',nx')) (hV:VOk lo nx V) (hb:BelL lo nx news):(nx≤nx'∧VOk lo nx' V'∧Bel lo nx' g)∧
  ∀(σ:Nm) (K:D→Heap→Prop),(Vn σ V).blocks.Nodup→(∀σ':Nm,(∀i,i<nx→σ' i=σ i)→K (g.d σ') (Vn σ' V'))→cPut esz (σ b).1 o n (news.map (G.d σ)) m (Vn σ V) K:=by
 unfold ZfD at h
 split at h
 ·rename_i c hc
  split at h
  ·rename_i hle
   simp only[y'x,w'z,z'q,Prod.mk.injEq]at h
   obtain⟨rfl,rfl,rfl⟩:=h
   have hcl:=(hV _ _ (x'C hc)).2.2
   refine⟨⟨z'c _,Ze0 hV hc (by rw[VB.put_c (x'B hc)];exact ZaW _ _ _ hcl (hb.take _)),Bel.int⟩,fun σ K hn hk=>?_⟩
   obtain⟨ty',n',hcc⟩:=VB.c_cells σ b c (x'B hc)
   have hcc':=hcc c.l
   rw[VB.put_l]at hcc'
   have hg:=x'i hn hc
   rw[hcc']at hg
   unfold cPut
   rw[hg]
   simp only[z'f]
   refine⟨z'i hle,?_⟩
   rw[←List.map_take,ZbR, ←hcc,Zfq hn hc]
   exact hk σ fun _ _=>rfl
  ·cases h
 ·cases h
theorem Zki {P:Program} (T:Tab P) {o:Oper} {lo:Nat→Prop} {nx nx':Nat} {env:Env} {V V':Vh} {t u:TypeId} {s x:Operand} {gs gx g:G} (ho:o.op= .call ⟨.builtin .copy, #[s,x], #[t,u]⟩) (hV:VOk lo nx V) (he:BelE lo nx env)
  (h1:gX env s=some gs) (h2:gX env x=some gx) (h:Ziq (kdT (T.get t)) gs gx V nx=some (g,V',nx')):x'd P o lo env V nx g V' nx':=by
 have hbx:=y'q h2 he
 unfold Ziq at h
 split at h
 ·rename_i e esz eb ea ez hkd
  split at h
  ·rename_i news m hsrc
   have hnb:=Zgr hsrc hbx hV
   split at h
   ·cases h
    refine⟨⟨z'c _,hV,Bel.int⟩,fun σ K hn hk=>Zeh T ho ?_⟩
    rw[hkd,z'u h1,z'u h2]
    unfold cCopy
    refine Zgs hsrc hn ?_
    exact hk σ fun _ _=>rfl
   ·obtain⟨a1,a2⟩:=Zgm h hV hnb
    refine⟨a1,fun σ K hn hk=>Zeh T ho ?_⟩
    rw[hkd,z'u h1,z'u h2]
    unfold cCopy
    refine Zgs hsrc hn ?_
    exact a2 σ K hn hk
   ·obtain⟨a1,a2⟩:=Zgm h hV hnb
    refine⟨a1,fun σ K hn hk=>Zeh T ho ?_⟩
    rw[hkd,z'u h1,z'u h2]
    unfold cCopy
    refine Zgs hsrc hn ?_
    exact a2 σ K hn hk
   ·cases h
  ·cases h
 ·cases h
def ZcQ (esz eb n:Nat):Bool:=Nat.blt 0 esz&&(Nat.blt 0 eb&&Nat.ble (n*eb) 140737488355328)
noncomputable def ZcR (kd:Kd) (s x:G) (V:Vh) (nx:Nat):Option (G×Vh×Nat):=match kd with
 | .slice e esz eb _ _=>match Zct esz x V with
  |none=>none
  |some (news,m)=>match m with
   |0=>match s with
    | .own b n=>some (.own b n,V,nx)
    | .nils=>some (.nils,V,nx)
    | .sl true esz' rows=>match ZcQ esz eb (rows.length+0)&&Nat.beq esz' esz with
     |true=>some (.sl true esz' rows,V,nx)
     |false=>none
    |_=>none
   |m+1=>match s with
    | .nils=>match ZcQ esz eb (0+(m+1))with
     |true=>x'F news fun l=>some (.own nx (0+(m+1)),(nx,.gro e esz l)::V,nx+1)
     |false=>none
    | .own b n=>match w'b V b with
     |some (.gro e' esz' l)=>match ZcQ esz eb (n+(m+1))&&(Nat.beq e' e&&(Nat.beq esz' esz&&Nat.beq l.length (n*esz)))with
      |true=>x'F (l++news) fun l=>Zi4 V b fun W=>some (.own nx (n+(m+1)),(nx,.gro e esz l)::W,nx+1)
      |false=>none
     |_=>none
    | .sl true esz' rows=>match ZcQ esz eb (rows.length+(m+1))&&Nat.beq esz' esz with
     |true=>x'F (rows.flatten++news) fun l=>some (.own nx (rows.length+(m+1)),(nx,.gro e esz l)::V,nx+1)
     |false=>none
    |_=>none
 |_=>none
theorem ZbD {esz eb n:Nat} (h:ZcQ esz eb n=true):0<esz∧0<eb∧n*eb≤140737488355328:=by
 simp only[ZcQ,z'b]at h
 exact⟨z'i h.1,z'i h.2.1,z'i h.2.2⟩
theorem ZdS {P:Program} (T:Tab P) {o:Oper} {lo:Nat→Prop} {nx nx':Nat} {env:Env} {V V':Vh} {t:TypeId} {s x:Operand} {gs gx g:G} (ho:o.op= .call ⟨.builtin .append, #[s,x], #[t,t]⟩) (hlo: ∀i,nx≤i→lo i) (hV:VOk lo nx V) (he:BelE lo nx env)
  (h1:gX env s=some gs) (h2:gX env x=some gx) (h:ZcR (kdT (T.get t)) gs gx V nx=some (g,V',nx')):x'd P o lo env V nx g V' nx':=by
 have hbs:=y'q h1 he
 have hbx:=y'q h2 he
 have grown: ∀{e esz n m:Nat} {W:Vh} {l:List G},VOk lo nx W→BelL lo nx l→(∀(σ:Nm) (K:D→Heap→Prop),(Vn σ V).blocks.Nodup→(∀b cap,K (.gs (some (b,cap)) (n+m)) ((b,.cells e (cap*esz) (l.map (G.d σ)))::Vn σ W))→Op1 P o (evD (cE σ env)) (Vn σ V) K)→
   x'd P o lo env V nx (.own nx (n+m)) ((nx,.gro e esz l)::W) (nx+1):=by
  intro e esz n m W l hW hl hop
  refine⟨⟨Nat.le_succ _,(hW.mono (Nat.le_succ _)).cons (hlo _ (z'c _)) (Nat.lt_succ_self _) (hl.mono (Nat.le_succ _)),Bel.own (hlo _ (z'c _)) (Nat.lt_succ_self _)⟩,fun σ K hn hk=>hop σ K hn fun b cap=>?_⟩
  have:=hk (nm1 σ nx (b,cap)) x'V
  have e1:Vn (nm1 σ nx (b,cap)) W=Vn σ W:=x'3 hW fun i _ hi=>x'V i hi
  have e2:l.map (G.d (nm1 σ nx (b,cap)))=l.map (G.d σ):=hl.dls fun i _ hi=>x'V i hi
  simpa only[G.d,v'v,ZcC,VB.c,e1,e2]using this
 unfold ZcR at h
 split at h
 ·rename_i e esz eb ea ez hkd
  split at h
  ·cases h
  ·rename_i news m hsrc
   have hnb:=Zgr hsrc hbx hV
   split at h
   ·split at h
    ·cases h
     refine⟨⟨z'c _,hV,hbs⟩,fun σ K hn hk=>?_⟩
     have hS:=Zal hsrc hn
     rw[←z'u h2 σ]at hS
     exact Zfj T ho hkd (z'u h1 σ) hS (hk σ fun _ _=>rfl)
    ·cases h
     refine⟨⟨z'c _,hV,hbs⟩,fun σ K hn hk=>?_⟩
     have hS:=Zal hsrc hn
     rw[←z'u h2 σ]at hS
     exact Zfj T ho hkd (z'u h1 σ) hS (hk σ fun _ _=>rfl)
    ·rename_i esz' rows
     split at h<;>cases h
     rename_i hb
     rw[z'b]at hb
     obtain rfl:=z'd hb.2
     refine⟨⟨z'c _,hV,hbs⟩,fun σ K hn hk=>ZcD T ho ?_⟩
     have hk0:=hk σ fun _ _=>rfl
     rw[hkd,z'u h1,z'u h2]
     simp only[G.d,G.dr_eq,cAppS,cAppend]at hk0⊢
     exact⟨news.map (G.d σ),0,Zal hsrc hn,⟨trivial,by rw[z'f];exact ZbD hb.1⟩,fun _=>hk0,fun h0=>absurd rfl h0⟩
    ·cases h
   ·rename_i m
    split at h
    ·split at h
     ·rename_i hb
      simp only[y'x,z'q,Prod.mk.injEq]at h
      obtain⟨rfl,rfl,rfl⟩:=h
      refine grown hV hnb fun σ K hn hK=>ZcD T ho ?_
      rw[hkd,z'u h1,z'u h2]
      refine⟨fun g' l'=>shp g' e esz l' (Vn σ V),[],news.map (G.d σ),m+1,⟨Vn σ V,y'f _,fun _ _=>y'f _⟩,by simp,Zal hsrc hn,ZbD hb,fun g' hg'=>?_⟩
      cases g' with
      |none=>have:0+(m+1)=0:=hg';omega
      |some p=>rw[z'L];exact hK p.1 p.2
     ·cases h
    ·rename_i b n
     split at h
     ·rename_i e' esz' l hc
      split at h
      ·rename_i hb
       simp only[y'x,Zg3,z'q,Prod.mk.injEq]at h
       obtain⟨rfl,rfl,rfl⟩:=h
       rw[z'b,z'b,z'b]at hb
       obtain⟨b1,b2,b3,b4⟩:=hb
       obtain rfl:=z'd b2
       obtain rfl:=z'd b3
       refine grown (Zms hV) (BelL.app (hV _ _ (x'C hc)).2.2 hnb) fun σ K hn hK=>ZcD T ho ?_
       rw[hkd,z'u h1,z'u h2]
       refine⟨fun g' l'=>shp g' e' esz' l' (Vn σ (w'N V b)),l.map (G.d σ),news.map (G.d σ),m+1,⟨Vn σ (w'N V b),Zj4 σ hc,fun _ _=>y'f _⟩,by rw[z'f];exact z'd b4,Zal hsrc hn,ZbD b1,fun g' hg'=>?_⟩
       cases g' with
       |none=>have:n+(m+1)=0:=hg';omega
       |some p=>rw[←List.map_append];exact hK p.1 p.2
      ·cases h
     ·cases h
    ·rename_i esz' rows
     split at h
     ·rename_i hb
      simp only[y'x,z'q,Prod.mk.injEq]at h
      obtain⟨rfl,rfl,rfl⟩:=h
      rw[z'b]at hb
      obtain rfl:=z'd hb.2
      have hrb:BelL lo nx rows.flatten:=fun g hg=>by
       obtain⟨r,hr,hg⟩:=List.mem_flatten.1 hg
       exact hbs.sl_r r hr g hg
      refine grown hV (BelL.app hrb hnb) fun σ K hn hK=>ZcD T ho ?_
      rw[hkd,z'u h1,z'u h2]
      simp only[G.d,G.dr_eq,cAppS,cAppend]
      refine⟨news.map (G.d σ),m+1,Zal hsrc hn,⟨trivial,by rw[z'f];exact ZbD hb.1⟩,fun h0=>(by cases h0),fun _ b cap _ _=>?_⟩
      rw[z'f, ←List.map_flatten, ←List.map_append]
      exact hK b cap
     ·cases h
    ·cases h
 ·cases h
theorem HInv.cutE {w:World} {L0:Nat→Prop} {b n k:Nat} {e:TypeId} {l:List D} {X:Heap} (h:HInv w L0 ((b,.cells e n l)::X)):HInv w L0 ((b,.cells e n (l.take k))::X):=by
 have hlv:live ((b,HC.cells e n (l.take k))::X) L0=live ((b,HC.cells e n l)::X) L0:=rfl
 refine{rel:=fun b' c hm=>?_,nodup:=h.nodup,apart:=h.apart,old:=h.old}
 rw[hlv]
 rcases z'p.1 hm with hm|hm
 ·cases hm
  obtain⟨h1,arr,h2,h3,h4⟩:=h.rel b _ (z'k ..)
  refine⟨?_,arr,h2,h3,?_⟩
  ·rw[z'h]at h1⊢
   exact fun x hx=>h1 x (y'L hx)
  ·have:=RelL.take k _ _ h4
   rw[List.take_take]at this
   rwa [z'z]
 ·exact h.rel b' c (z'n _ hm)
theorem Op1.cutE {P:Program} {o:Oper} {E:Operand→D} {b n k:Nat} {e:TypeId} {l:List D} {X:Heap} {K:D→Heap→Prop} (h:Op1 P o E ((b,.cells e n (l.take k))::X) K):Op1 P o E ((b,.cells e n l)::X) K:=by
 obtain⟨Φ,hop,hk⟩:=h
 refine⟨Φ,fun w L0 ε hi hx=>?_,hk⟩
 refine(hop w L0 ε hi.cutE hx).mono ?_
 rintro v w' ⟨d,G,h1,h2,h3,h4⟩
 exact⟨d,G,h1,h2,h3,⟨h4.os,h4.tape,h4.output,h4.size,h4.block,h4.fresh⟩⟩
theorem Zg6: ∀{V:Vh} {b:Nat} {c c':VB},x'T V b=some c→x'T (v'u V b c') b=some c'
 |[],b,c,c',h=>by cases h
 |p::V,b,c,c',h=>by
  rw[w'J]at h
  rw[v'u]
  cases hb:Nat.beq p.1 b with
  |true=>rw[w'J];simp only[y'8]
  |false=>
   rw[hb]at h
   simp only at h⊢
   rw[w'J,hb]
   exact Zg6 h
theorem Zg5: ∀{V:Vh} {b:Nat} {c':VB},w'N (v'u V b c') b=w'N V b
 |[],b,c'=>rfl
 |p::V,b,c'=>by
  rw[v'u,w'N]
  cases hb:Nat.beq p.1 b with
  |true=>simp only[w'N,y'8]
  |false=>simp only[w'N,hb];rw[Zg5]
noncomputable def Zkj (kd:Kd) (s:G) (V:Vh):Option Vh:=match kd,s with
 | .slice _ esz _ _ _,.own b n=>match w'b V b with
  |some (.gro e' esz' l)=>match Nat.ble l.length (n*esz)with
   |true=>none
   |false=>x'F (l.take (n*esz)) fun l=>Zah V b (.gro e' esz' l) some
  |_=>none
 |_,_=>none
theorem ZlU {P:Program} {o:Oper} {kd:Kd} {s:G} {V V2:Vh} {lo:Nat→Prop} {nx:Nat} (h:Zkj kd s V=some V2) (hV:VOk lo nx V):VOk lo nx V2∧ ∀(σ:Nm),(Vn σ V2).blocks.Perm (Vn σ V).blocks∧ ∀(E:Operand→D) (K:D→Heap→Prop),Op1 P o E (Vn σ V2) K→Op1 P o E (Vn σ V) K:=by
 unfold Zkj at h
 split at h
 ·rename_i esz _ _ _ b n
  split at h
  ·rename_i e' esz' l hg
   split at h
   ·cases h
   ·rw[y'x,w'z]at h
    cases h
    have hA:=(ZaJ hg).1
    refine⟨Ze0 hV hg fun x hx=>(hV _ _ (x'C hg)).2.2 x (y'L hx),fun σ=>?_⟩
    have p1:=Zag σ hA
    have p2:=Zag σ (Zg6 (c':= .gro e' esz' (l.take (n*esz))) hA)
    rw[Zg5]at p2
    refine⟨(x'e p2).trans (x'e p1).symm,fun E K hk=>?_⟩
    refine Op1.perm p1 ?_
    simp only[VB.c]
    refine Op1.cutE (k:=n*esz) ?_
    have:=Op1.perm p2.symm hk
    simp only[VB.c,List.map_take]at this
    exact this
  ·cases h
 ·cases h
noncomputable def Zdr (kd:Kd) (s x:G) (V:Vh) (nx:Nat):Option (G×Vh×Nat):=match Zkj kd s V with
 |none=>ZcR kd s x V nx
 |some V2=>ZcR kd s x V2 nx
theorem Zhf {P:Program} (T:Tab P) {o:Oper} {lo:Nat→Prop} {nx nx':Nat} {env:Env} {V V':Vh} {t:TypeId} {s x:Operand} {gs gx g:G} (ho:o.op= .call ⟨.builtin .append, #[s,x], #[t,t]⟩) (hlo: ∀i,nx≤i→lo i) (hV:VOk lo nx V) (he:BelE lo nx env)
  (h1:gX env s=some gs) (h2:gX env x=some gx) (h:Zdr (kdT (T.get t)) gs gx V nx=some (g,V',nx')):x'd P o lo env V nx g V' nx':=by
 unfold Zdr at h
 split at h
 ·exact ZdS T ho hlo hV he h1 h2 h
 ·rename_i V2 hc
  obtain⟨hV2,hop⟩:=ZlU (P:=P) (o:=o) hc hV
  obtain⟨q1,q2⟩:=ZdS T ho hlo hV2 he h1 h2 h
  exact⟨q1,fun σ K hn hk=>(hop σ).2 _ K (q2 σ K ((hop σ).1.nodup_iff.2 hn) hk)⟩
noncomputable def gOp {P:Program} (T:Tab P) (env:Env) (V:Vh) (nx:Nat) (op:Op):Option (G×Vh×Nat):=match op with
 | .load t x=>match gX env x with
  |some a=>match ZbI (T.get t) a V with|some g=>some (g,V,nx)|none=>none
  |none=>none
 | .alloc t=>Zch t (T.get t) V nx
 | .box t x=>match gX env x with|some x=>Zf2 t x V nx|none=>none
 | .store t a x=>match gX env a,gX env x with
  |some a,some x=>Zd9 (T.get t).known (T.get t).size a x V nx
  |_,_=>none
 | .makeSlice t l c=>match gX env l,gX env c with
  |some l,some c=>Zd3 (kdT (T.get t)) l c V nx
  |_,_=>none
 | .call ⟨.builtin .append,az,ts⟩=>match az.toList,ts.toList with
  |[s,x],[t,u]=>match Nat.beq t u,gX env s,gX env x with
   |true,some s,some x=>Zdr (kdT (T.get t)) s x V nx
   |_,_,_=>none
  |_,_=>none
 | .call ⟨.builtin .copy,az,ts⟩=>match az.toList,ts.toList with
  |[s,x],[t,_]=>match gX env s,gX env x with
   |some s,some x=>Ziq (kdT (T.get t)) s x V nx
   |_,_=>none
  |_,_=>none
 | .makeMap t r=>match gXo env r with|some r=>Zdt P t r V nx|none=>none
 | .call ⟨.builtin .delete,az,ts⟩=>match az.toList,ts.toList with
  |[m,k],[t,_]=>match gX env m,gX env k with
   |some (.mp b),some k=>Zkk P t b k V nx
   |_,_=>none
  |_,_=>none
 | .call ⟨.builtin .len,az,ts⟩=>match az.toList,ts.toList with
  |[x],[t]=>match gX env x with
   |some (.mp b)=>Ziz P t b V nx
   |some x=>match ZeD (kdT (T.get t)) x with|some g=>some (g,V,nx)|none=>none
   |none=>none
  |_,_=>none
 | .range t x=>match gX env x with|some x=>Zgn (kdT (T.get t)) x V nx|none=>none
 | .next x true=>match gX env x with|some x=>ZiC x V nx|none=>none
 | .mapUpdate t m k v=>match gX env m,gX env k,gX env v with
  |some m,some k,some v=>ZcV P t m k v V nx
  |_,_,_=>none
 | .insert t m k v=>match gX env m,gX env k,gX env v with
  |some m,some k,some v=>ZcV P t m k v V nx
  |_,_,_=>none
 | .lookup t m k ok=>match gX env m,gX env k with
  |some m,some k=>match ZcU P t m k ok V with|some g=>some (g,V,nx)|none=>none
  |_,_=>none
 |op=>match Zdy T env op with|some g=>some (g,V,nx)|none=>none
theorem Zjx {P:Program} (T:Tab P) {o:Oper} {lo:Nat→Prop} {nx nx':Nat} {env:Env} {V V':Vh} {g:G} (hlo: ∀i,nx≤i→lo i) (hV:VOk lo nx V) (he:BelE lo nx env) (h:gOp T env V nx o.op=some (g,V',nx')):x'd P o lo env V nx g V' nx':=by
 unfold gOp at h
 split at h
 ·rename_i ho
  split at h
  ·rename_i a ha
   split at h
   ·rename_i g hg
    cases h
    refine⟨⟨z'c _,hV,Ze8 hg (y'q ha he) hV⟩,fun σ K hn hk=>ZgP T ho ?_⟩
    rw[z'u ha]
    exact Zgc hg hn (hk σ fun _ _=>rfl)
   ·cases h
  ·cases h
 ·rename_i ho;exact Ze6 T ho hlo hV h
 ·rename_i ho
  split at h
  ·rename_i hx;exact Zht ho hlo hV he hx h
  ·cases h
 ·rename_i ho
  split at h
  ·rename_i ha hx;exact ZjB T ho hV he ha hx h
  ·cases h
 ·rename_i ho
  split at h
  ·rename_i h1 h2;exact Zgd T ho hlo hV h1 h2 h
  ·cases h
 ·rename_i az ts ho
  split at h
  ·rename_i s x t u hx ht
   have e1:az= #[s,x]:=by rw[←Array.toList_inj];exact hx
   have e2:ts= #[t,u]:=by rw[←Array.toList_inj];exact ht
   subst e1;subst e2
   split at h
   ·rename_i hb h1 h2
    obtain rfl:=z'd hb
    exact Zhf T ho hlo hV he h1 h2 h
   ·cases h
  ·cases h
 ·rename_i az ts ho
  split at h
  ·rename_i s x t u hx ht
   have e1:az= #[s,x]:=by rw[←Array.toList_inj];exact hx
   have e2:ts= #[t,u]:=by rw[←Array.toList_inj];exact ht
   subst e1;subst e2
   split at h
   ·rename_i h1 h2;exact Zki T ho hV he h1 h2 h
   ·cases h
  ·cases h
 ·rename_i ho
  split at h
  ·rename_i hr;exact Zhj ho hlo hV hr h
  ·cases h
 ·rename_i az ts ho
  split at h
  ·rename_i m k t u hx ht
   have e1:az= #[m,k]:=by rw[←Array.toList_inj];exact hx
   have e2:ts= #[t,u]:=by rw[←Array.toList_inj];exact ht
   subst e1;subst e2
   split at h
   ·rename_i h1 h2;exact ZlV ho hV h1 h2 h
   ·cases h
  ·cases h
 ·rename_i az ts ho
  split at h
  ·rename_i x t hx ht
   have e1:az= #[x]:=by rw[←Array.toList_inj];exact hx
   have e2:ts= #[t]:=by rw[←Array.toList_inj];exact ht
   subst e1;subst e2
   split at h
   ·rename_i h1;exact Zkt ho hV h1 h
   ·rename_i _ h1
    split at h
    ·rename_i g hg
     cases h
     exact⟨⟨z'c _,hV,Zgb hg⟩,fun σ K hn hk=>ZiR T ho (by rw[z'u h1];exact ZhC hg (hk σ fun _ _=>rfl))⟩
    ·cases h
   ·cases h
  ·cases h
 ·rename_i ho
  split at h
  ·rename_i hx;exact Zjz T ho hlo hV hx h
  ·cases h
 ·rename_i ho
  split at h
  ·rename_i hx;exact Zkw ho hV hx h
  ·cases h
 ·rename_i ho
  split at h
  ·rename_i h1 h2 h3;exact Zd4 (.inl ho) hV he h1 h2 h3 h
  ·cases h
 ·rename_i ho
  split at h
  ·rename_i h1 h2 h3;exact Zd4 (.inr ho) hV he h1 h2 h3 h
  ·cases h
 ·rename_i ho
  split at h
  ·rename_i h1 h2
   split at h
   ·rename_i hg;cases h;obtain⟨q1,q2⟩:=Zd2 ho hV h1 h2 hg;exact⟨⟨z'c _,hV,q1⟩,fun σ K hn hk=>q2 σ K hn (hk σ fun _ _=>rfl)⟩
   ·cases h
  ·cases h
 ·split at h
  ·rename_i g hg
   cases h
   exact⟨⟨z'c _,hV,Zdz T hg he⟩,fun σ K hn hk=>ZeJ T hg (hk σ fun _ _=>rfl)⟩
  ·cases h
end Go.Vc
