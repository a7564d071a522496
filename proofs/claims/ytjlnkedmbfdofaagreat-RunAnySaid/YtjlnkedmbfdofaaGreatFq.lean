/- A region that draws: operations in any order, one of them changing the heap in a way not known ahead. No condition. -/
import Derived.Test.YtjlnkedmbfdofaaGreatFp
namespace Go.Proofs.YtjlnkedmbfdofaaGreat
set_option linter.unusedSimpArgs false
set_option linter.unusedVariables false
open Go Go.Proofs Go.Vc
section
variable {P : Program} {ops : Array Oper} {f : Nat}
theorem Zj0 (hB:y'2 ops f) {Q:Exit→Act→World→Prop} {I:Array Bool→Act→World→Prop} {s e:Nat} (hef:e≤f) (bar: ∀i,e≤i→i<ops.size→ ∀k,s≤k→k<e→z'N ops i k=true)
  (hsz: ∀listed a w,I listed a w→listed.size=ops.size) (hdown: ∀listed a w,I listed a w→ ∀k o,ops[k]?=some o→isL listed k→ ∀e∈o.after,Region.binds .any e=true→isL listed e.on)
  (hstep: ∀listed a w i,I listed a w→i∈Region.ready .any ops listed→s≤i→i<e→wpOp P ops Q i (fun a' w'=>I (listed.setIfInBounds i true) a' w') a w)
  (hfin: ∀listed a w,(∀k,isL listed k↔k<e)→I listed a w→wpAny P .any ops Q (ops.size-e) listed a w):
  ∀(fuel:Nat) (listed:Array Bool) (a:Act) (w:World),unl listed ops.size=fuel→(∀k,k<s→isL listed k)→(∀k,isL listed k→k<e)→I listed a w→wpAny P .any ops Q fuel listed a w:=by
 have hes:e≤ops.size:=z'E hef hB.le
 intro fuel
 induction fuel with
 |zero=>
  intro listed a w hu hlow hup h
  have all: ∀k,k<ops.size→isL listed k:=fun k hk=>w'6 (hsz _ _ _ h) hu hk
  have hl: ∀k,isL listed k↔k<e:=fun k=>⟨hup k,fun hk=>all k (by omega)⟩
  have he:ops.size-e=0:=by
   rcases z'1 hes with h'|h'
   ·omega
   ·have:=hup e (all e h');omega
  have:=hfin listed a w hl h
  rwa [he]at this
 |succ fuel ih=>
  intro listed a w hu hlow hup h
  by_cases hall: ∀k,k<e→isL listed k
  ·have hl: ∀k,isL listed k↔k<e:=fun k=>⟨hup k,hall k⟩
   have hcount:ops.size-e=fuel+1:=by
    have key: ∀m,m≤ops.size→((List.range m).filter fun k=> !listed.getD k true).length=m-e:=by
     intro m
     induction m with
     |zero=>intro _;simp
     |succ m ihm=>
      intro hm
      rw[z'9,z'G,z'r,ihm (by omega)]
      by_cases hmf:m<e
      ·have:listed.getD m true=true:=(z'H (by rw[(hsz _ _ _ h)];omega)).2 ((hl m).2 hmf)
       rw[z'S,this];simp;omega
      ·have:listed.getD m true=false:=by
        cases hq:listed.getD m true with
        |false=>rfl
        |true=>exact absurd ((hl m).1 ((z'H (by rw[(hsz _ _ _ h)];omega)).1 hq)) hmf
       rw[z'S,this];simp;omega
    have:=key ops.size (z'c _)
    unfold unl at hu
    omega
   have:=hfin listed a w hl h
   rwa [hcount]at this
  ·have hex: ∃k,k<e∧ ¬isL listed k:=by
    refine z'j fun hn=>hall fun k hk=>z'j fun hkl=>hn ⟨k,hk,hkl⟩
   have least: ∀m, ∀k,k≤m→k<e→ ¬isL listed k→ ∃k',k'<e∧ ¬isL listed k'∧ ∀l,l<k'→isL listed l:=by
    intro m
    induction m with
    |zero=>intro k hk hkf hkl;exact⟨k,hkf,hkl,fun l hl=>by omega⟩
    |succ m ihm=>
     intro k hk hkf hkl
     by_cases hp: ∀l,l<k→isL listed l
     ·exact⟨k,hkf,hkl,hp⟩
     ·have: ∃l,l<k∧ ¬isL listed l:=z'j fun hn=>hp fun l hl=>z'j fun hll=>hn ⟨l,hl,hll⟩
      obtain⟨l,h1,h2⟩:=this
      exact ihm l (by omega) (by omega) h2
   obtain⟨k0,hk0f,hk0⟩:=hex
   obtain⟨k,hkf,hkl,hkp⟩:=least k0 k0 (z'c _) hk0f hk0
   have hks:k<ops.size:=z'm hkf hes
   have hready:k∈Region.ready .any ops listed:=by
    refine mem_ready.2 ⟨?_,ops[k],by simp[hks],fun ed he hb=>?_⟩
    ·cases hq:listed.getD k true with
     |false=>rfl
     |true=>exact absurd ((z'H (by rw[(hsz _ _ _ h)];omega)).1 hq) hkl
    ·have hlt:=hB.back k ops[k] (by simp[hks]) ed he hb
     have:=hkp ed.on hlt
     unfold isL at this
     rw[z'w,this];rfl
   refine⟨fun h0=>by rw[h0]at hready;exact absurd hready z'I,fun i hi=>?_⟩
   obtain⟨h1,h2,o,ho,hr⟩:=z'8 (hsz _ _ _ h) hi
   have hie:i<e:=by
    rcases z't i e with h'|h'
    ·exact h'
    ·exfalso
     have hsk:s≤k:=by
      rcases z't k s with h''|h''
      ·exact absurd (hlow k h'') hkl
      ·exact h''
     have he:=bar i h' h1 k hsk hkf
     exact hkl (z'4 (S:=isL listed) (fun j' ed hj' he'=>by
      obtain⟨oj,ed,q1,q2,q3,rfl⟩:=z'P.1 he'
      exact hdown _ _ _ h j' oj q1 hj' ed q2 q3) _ i k (fun ed he'=>by
      obtain⟨oj,ed,q1,q2,q3,rfl⟩:=z'P.1 he'
      rw[ho]at q1;cases q1
      exact hr ed q2 q3) he)
   have hisz:i<listed.size:=by rw[(hsz _ _ _ h)];exact h1
   have hsi:s≤i:=by
    rcases z't i s with h''|h''
    ·exact absurd (hlow i h'') h2
    ·exact h''
   refine wpOp_mono (fun a' w' h'=>ih _ a' w' ?_ (fun l hl=>(y'y hisz).2 (.inr (hlow l hl))) (fun k hk=>?_) h') (hstep _ _ _ i h hi hsi hie)
   ·have:=v'b (hsz _ _ _ h) h1 h2
    omega
   ·rcases(y'y hisz).1 hk with rfl|hk
    ·exact hie
    ·exact hup k hk
end
section
variable {P : Program} {x : Ctx} {ops : Array Oper} {f : Nat} {H : Heap} {E : Nat → D} {a0 : Act} {ws : World}
theorem ZdC (H:Heap) (st:Nat) (listed:Array Bool):hof H H st listed=H:=by unfold hof;split<;>rfl
def Zmw (P:Program) (ops:Array Oper) (E:Nat→D) (s st e:Nat) (resA:Nat→D) (KB:(Nat→D)→Heap→Prop) (d:D) (H1:Heap) (resB:Nat→D):Prop:=
 (∀k,k≠st→z'N ops k st=false→resB k=resA k)∧resB st=d∧
 (∀j,s≤j→j<e→j≠st→z'N ops st j=false→ ∃o,ops[j]?=some o∧o.guard=none∧OpS P o (evD (z'Y ops E resB j)) H1 (fun d' H'=>d'=resB j∧H'=H1))∧KB (z'Y ops E resB e) H1
def NInv (P:Program) (x:Ctx) (ops:Array Oper) (f:Nat) (H:Heap) (E:Nat→D) (a0:Act) (ws:World) (s st e:Nat) (resA:Nat→D) (KB:(Nat→D)→Heap→Prop) (listed:Array Bool) (a:Act) (w:World):Prop:=
 (¬isL listed st∧GInv x ops f ops.size resA H H a0 ws listed a w)∨
 (isL listed st∧ ∃d H1 resB w0,Zmw P ops E s st e resA KB d H1 resB∧SRel x ⟨E,H1⟩ a0 w0∧GInv x ops f ops.size resB H1 H1 a0 w0 listed a w)
theorem NInv.step {s st e : Nat} {resA : Nat → D} {KB : (Nat → D) → Heap → Prop} (hB : y'2 ops f) (hs0 : SRel x ⟨E, H⟩ a0 ws) (hef : e ≤ f) {Q : Exit → Act → World → Prop} (hdst : ∀ k t, z'v ops k = some t → t < x.n)
    (hA : ∀ j, s ≤ j → j < e → j ≠ st → z'N ops j st = false → ∃ o, ops[j]? = some o ∧ o.guard = none ∧ OpS P o (evD (z'Y ops E resA j)) H (fun d' H' => d' = resA j ∧ H' = H))
    (hS : ∃ o, ops[st]? = some o ∧ o.guard = none ∧ OpS P o (evD (z'Y ops E resA st)) H (fun d' H' => ∃ resB, Zmw P ops E s st e resA KB d' H' resB))
    (listed : Array Bool) (a : Act) (w : World) (i : Nat) (h : NInv P x ops f H E a0 ws s st e resA KB listed a w) (hr : i ∈ Region.ready .any ops listed) (hsi : s ≤ i) (hie : i < e) :
    wpOp P ops Q i (fun a' w' => NInv P x ops f H E a0 ws s st e resA KB (listed.setIfInBounds i true) a' w') a w := by
  rcases h with ⟨hst, h⟩ | ⟨hst, d, H1, resB, w0, hRB, hs1, h⟩
  · obtain ⟨hisz, hil, o, ho, hready⟩ := z'8 h.lsize hr
    have hisz' : i < listed.size := by rw [h.lsize]; exact hisz
    have hm : ∀ k, isL (listed.setIfInBounds i true) k ↔ k = i ∨ isL listed k := fun k => y'y hisz'
    by_cases hi : i = st
    · subst hi
      obtain ⟨o', ho', hg, hop⟩ := hS
      rw [ho] at ho'; cases ho'
      have hdi : z'v ops i = o.dst := by simp [z'v, ho]
      have hdn : ∀ t, o.dst = some t → t < x.n := fun t ht => hdst i t (by rw [hdi, ht])
      have ev := fun y hy => h.ev hB rfl hs0 ho (by omega) hil hready y hy
      have hinv := h.inv
      have hevo := h.evo
      rw [ZdC] at hinv hevo
      have notE : ∀ k, isL listed k → z'N ops k i = false := fun k hk => by
        cases hq : z'N ops k i with
        | false => rfl
        | true => exact absurd (z'4 (S := isL listed) (fun j' ed hj' he' => by
            obtain ⟨oj, ed, q1, q2, q3, rfl⟩ := z'P.1 he'
            exact h.down j' oj q1 hj' ed q2 q3) _ k i (fun ed he' => by
            obtain ⟨oj, ed, q1, q2, q3, rfl⟩ := z'P.1 he'
            exact h.down k oj q1 hk ed q2 q3) hq) hst
      unfold wpOp
      rw [ho]
      simp only
      rw [if_pos (by simp [Region.wanted, hg])]
      refine .inl ((hop w x.L0 a.eval hinv ev).upon ?_)
      rintro v w' ⟨d, H1, ⟨resB, hRB⟩, hv, hi', he⟩
      have hkeep : Keeps w (live H x.L0) w' (live H1 x.L0) := he.keeps
      have hevo2 : Evo ws H w' H1 := hevo.trans he
      refine .inr ⟨(hm i).2 (.inl rfl), d, H1, resB, w', hRB, { env := fun t => Rel.mono hevo2.keeps _ _ (hs0.env t), inv := hi', evo := hs0.evo.trans hevo2, defers := hs0.defers, size := hs0.size }, ?_⟩
      refine { lsize := by simp [h.lsize], down := ?_, front := ?_, slots := ?_, rest := ?_, inv := by rw [ZdC]; exact hi', evo := by rw [ZdC]; exact Evo.refl _ _, defers := ?_, size := ?_ }
      · intro k ok hok hk e he' hb
        rw [hm] at hk ⊢
        rcases hk with rfl | hk
        · rw [ho] at hok; cases hok
          exact .inr (hready e he' hb)
        · exact .inr (h.down k ok hok hk e he' hb)
      · intro k hk
        rcases (hm k).1 hk with rfl | hk
        · omega
        · exact h.front k hk
      · intro k t hk hkt
        rcases (hm k).1 hk with rfl | hk
        · rw [hdi] at hkt
          rw [x'o h.size, if_pos ⟨hkt, hdn t hkt⟩, hRB.2.1]
          exact hv
        · have hne' : k ≠ i := fun e => hil (e ▸ hk)
          rw [x'o h.size, if_neg, hRB.1 k hne' (notE k hk)]
          · exact Rel.mono hkeep _ _ (h.slots k t hk hkt)
          · rintro ⟨h1, _⟩
            rw [← hdi] at h1
            exact hB.uniq i k (by omega) (h.front k hk) hne' (by rw [h1]; simp) (by rw [hkt, h1])
      · intro t hno
        rw [x'o h.size, if_neg]
        · exact h.rest t fun k hk => hno k ((hm k).2 (.inr hk))
        · rintro ⟨h1, _⟩
          exact hno i ((hm i).2 (.inl rfl)) (by rw [hdi, h1])
      · cases o.dst <;> exact h.defers
      · cases o.dst <;> simp [Act.put, h.size]
    · have hE : z'N ops i st = false := by
        cases hq : z'N ops i st with
        | false => rfl
        | true => exact absurd (z'4 (S := isL listed) (fun j' ed hj' he' => by
            obtain ⟨oj, ed, q1, q2, q3, rfl⟩ := z'P.1 he'
            exact h.down j' oj q1 hj' ed q2 q3) _ i st (fun ed he' => by
            obtain ⟨oj, ed, q1, q2, q3, rfl⟩ := z'P.1 he'
            rw [ho] at q1; cases q1
            exact hready ed q2 q3) hq) hst
      obtain ⟨o', ho', hg, hop⟩ := hA i hsi hie hi hE
      refine wpOp_mono (fun a' w' h' => .inl ⟨fun hq => ?_, h'⟩) (h.step (W := fun _ => false) (fun _ h => by cases h) hB rfl hs0 hdst hr (by omega) ⟨o', ho', hg, fun _ => ⟨hop, .inr hop⟩, fun e => absurd hisz (by omega)⟩)
      rcases (hm st).1 hq with hq | hq
      · exact hi hq.symm
      · exact hst hq
  · obtain ⟨hisz, hil, o, ho, hready⟩ := z'8 h.lsize hr
    have hisz' : i < listed.size := by rw [h.lsize]; exact hisz
    have hm : ∀ k, isL (listed.setIfInBounds i true) k ↔ k = i ∨ isL listed k := fun k => y'y hisz'
    have hi : i ≠ st := fun e => hil (e ▸ hst)
    have hE : z'N ops st i = false := by
      cases hq : z'N ops st i with
      | false => rfl
      | true => exact absurd (z'4 (S := isL listed) (fun j' ed hj' he' => by
            obtain ⟨oj, ed, q1, q2, q3, rfl⟩ := z'P.1 he'
            exact h.down j' oj q1 hj' ed q2 q3) _ st i (fun ed he' => by
            obtain ⟨oj, ed, q1, q2, q3, rfl⟩ := z'P.1 he'
            exact h.down st oj q1 hst ed q2 q3) hq) hil
    obtain ⟨o', ho', hg, hop⟩ := hRB.2.2.1 i hsi hie hi hE
    exact wpOp_mono (fun a' w' h' => .inr ⟨(hm st).2 (.inr hst), d, H1, resB, w0, hRB, hs1, h'⟩) (h.step (W := fun _ => false) (fun _ h => by cases h) hB rfl hs1 hdst hr (by omega) ⟨o', ho', hg, fun _ => ⟨hop, .inr hop⟩, fun e => absurd hisz (by omega)⟩)
end
def NW (R:Nat→Oper→(Nat→D)→D→Prop) (K:(Nat→D)→(Nat→D)→Prop):Nat→Nat→List Oper→(Nat→D)→(Nat→D)→Prop
 |0,_,_,E,r=>K E r
 |_+1,_,[],_,_=>False
 |m+1,i,o::l,E,r=> ∃d,R i o E d∧NW R K m (i+1) l (updO E o.dst d) (fun k=>if k=i then d else r k)
theorem NW.extract {R:Nat→Oper→(Nat→D)→D→Prop} {K:(Nat→D)→(Nat→D)→Prop} {ops:Array Oper} {E0:Nat→D}: ∀(m i:Nat) (res0:Nat→D),NW R K m i (ops.toList.drop i) (z'Y ops E0 res0 i) res0→
  ∃res:Nat→D,(∀k,k<i→res k=res0 k)∧(∀k,i+m≤k→res k=res0 k)∧(∀j,i≤j→j<i+m→ ∃o,ops[j]?=some o∧R j o (z'Y ops E0 res j) (res j))∧K (z'Y ops E0 res (i+m)) res
 |0,i,res0,h=>⟨res0,fun _ _=>rfl,fun _ _=>rfl,fun j h1 h2=>by omega,h⟩
 |m+1,i,res0,h=>by
  cases hl:ops.toList.drop i with
  |nil=>rw[hl]at h;exact h.elim
  |cons o l=>
   rw[hl]at h
   obtain⟨d,h1,h2⟩:=h
   have hi:ops[i]?=some o:=by
    have:(ops.toList.drop i)[0]?=some o:=by rw[hl];rfl
    rw[z'7]at this
    simpa using this
   have hl':l=ops.toList.drop (i+1):=by
    have:ops.toList.drop (i+1)=(ops.toList.drop i).drop 1:=by rw[y'5]
    rw[this,hl];rfl
   let res1:Nat→D:=fun k=>if k=i then d else res0 k
   have e1: ∀j,j≤i→z'Y ops E0 res1 j=z'Y ops E0 res0 j:=by
    intro j
    induction j with
    |zero=>intro _;rfl
    |succ j ihj=>
     intro hj
     rw[z'Y,z'Y,ihj (by omega)]
     have:res1 j=res0 j:=by simp only[res1];rw[if_neg (by omega)]
     rw[this]
   have e2:z'Y ops E0 res1 (i+1)=updO (z'Y ops E0 res0 i) o.dst d:=by
    rw[z'Y,e1 i (z'c _)]
    have:res1 i=d:=by simp[res1]
    rw[this]
    simp[z'v,hi]
   rw[hl', ←e2]at h2
   obtain⟨res,q1,q0,q2,q3⟩:=NW.extract m (i+1) res1 h2
   have e3: ∀j,j≤i+1→z'Y ops E0 res j=z'Y ops E0 res1 j:=by
    intro j
    induction j with
    |zero=>intro _;rfl
    |succ j ihj=>
     intro hj
     rw[z'Y,z'Y,ihj (by omega),q1 j (by omega)]
   refine⟨res,fun k hk=>?_,fun k hk=>?_,fun j hj1 hj2=>?_,?_⟩
   ·rw[q1 k (by omega)]
    simp only[res1];rw[if_neg (by omega)]
   ·rw[q0 k (by omega)]
    simp only[res1];rw[if_neg (by omega)]
   ·rcases z'1 hj1 with rfl|hlt
    ·refine⟨o,hi,?_⟩
     rw[e3 _ (by omega),e1 _ (z'c _),q1 _ (by omega)]
     have:res1 i=d:=by simp[res1]
     rw[this]
     exact h1
    ·exact q2 j (by omega) (by omega)
   ·rw[show i+(m+1)=i+1+m by omega]
    exact q3
end Go.Proofs.YtjlnkedmbfdofaaGreat
