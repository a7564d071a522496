/- A region that draws: a move that may come at any time is carried out first. No condition. -/
import Derived.Test.YtfneeacgkdhldaaGreatWb
namespace Go.Proofs.YtfneeacgkdhldaaGreat
set_option linter.unusedSimpArgs false
set_option linter.unusedVariables false
open Go Go.Proofs Go.Vc
attribute [local irreducible] y'5 VCg VCw VCx
def ZnH (ops:Array Oper) (j:Nat) (oj:Oper):Bool:=(List.range ops.size).all fun k=>Nat.ble k j||match ops[k]? with
 |some o=>o.after.any (fun e=>Region.binds .any e&&e.on == j)||oj.apart ops o
 |none=>true
theorem VCd.take {P:Program} {n:Nat} {ops:Array Oper} {j:Nat} {E:Nat→D} {H:Heap} {Q:Exit→St→Prop} {o:Oper} {t s:Tmp} (ho:ops[j]?=some o) (hop:o.op= .move (.tmp t)) (hd:o.dst=some s) (hg:o.guard=none) (hsn:Nat.blt s n=true)
  (haf:o.after= #[]) (hsel:Region.noSelect ops=true) (hfl:ZnH ops j o=true) (hQ: ∀c s', ¬Q (.panic c) s') (h:VCd P n ops (j+1) ⟨upd E s (E t),H⟩ Q):VCd P n ops j ⟨E,H⟩ Q:=by
 intro x a w listed hn hs hsz hl
 have hlt:j<ops.size:=(Array.getElem?_eq_some_iff.1 ho).1
 rw[show ops.size-j=(ops.size-(j+1))+1 by omega]
 have hun:listed.getD j true=false:=by
  cases hq:listed.getD j true with
  |false=>rfl
  |true=>exact absurd ((hl j).1 ((x'I (by omega)).1 hq)) (by omega)
 refine wpAny_first (v:=a.eval (.tmp t)) ho (Region.noSelect_spec hsel) (fun c a w ⟨s',h1,_⟩=>absurd h1 (hQ c s')) _ listed a w ?_ ?_ ?_ ?_
 ·intro k ok hk hkj hku hno
  have hks:k<ops.size:=(Array.getElem?_eq_some_iff.1 hk).1
  have h1:=z'I.1 hfl k (z'G.2 hks)
  simp only[hk,x'A]at h1
  rcases h1 with h1|h1|h1
  ·have:=v'W h1
   have h2:=(hl k).2 (by omega)
   have h3:=(x'I (by omega)).2 h2
   rw[hku]at h3
   cases h3
  ·obtain⟨e,he,hb⟩:=Array.any_eq_true'.1 h1
   simp only[z'i,beq_iff_eq]at hb
   exact absurd hb.2 (hno e he hb.1)
  ·exact h1
 ·exact mem_ready.2 ⟨hun,o,ho,fun e he=>by rw[haf]at he;exact absurd he (by simp)⟩
 ·refine .inl ⟨by simp[Region.wanted,hg],fun w=>?_⟩
  simp only[execOp,hop]
  rfl
 ·rw[hd]
  have hp:=hs.put (dst:=some s) (d:=E t) (v:=a.eval (.tmp t)) (fun t' ht=>by cases ht;rw[hn];exact Nat.blt_eq.mp hsn) (hs.env t) hs.inv (Evo.refl _ _)
  exact h x _ w _ hn hp (by simp[hsz]) (fun k=>by rw[w'8 (by omega),hl k];omega)
theorem VCd.oneL {P:Program} (T:Tab P) {n:Nat} {ops:Array Oper} {s:Nat} {E:Nat→D} {H:Heap} {Q:Exit→St→Prop} {o:Oper} {r:List Oper} (hl:ops.toList.drop s=o::r) (hback:(o.after.all fun ed=> !Region.binds .any ed||Nat.blt ed.on s)=true) (hbar:Zdo ops s (s+1)=true)
  (hg:o.guard=none) (hd:w'V n o=true) (h: ∀K:(Nat→D)→Heap→Prop,(∀E H,VCd P n ops (s+1) ⟨E,H⟩ Q→K E H)→opC T o (evD E) H (fun d H=>K (updO E o.dst d) H)):VCd P n ops s ⟨E,H⟩ Q:=by
 have ho:ops[s]?=some o:=by
  have h1:=congrArg (fun l=>l[0]?) hl
  simpa using h1
 refine VCd.one ho (fun ed he hb=>?_) hbar hg hd fun K hK=>v'9 T (h K hK)
 have h1:=Array.all_eq_true_iff_forall_mem.1 hback ed he
 rw[hb]at h1
 simpa using h1
section
variable {P : Program} {x : Ctx} {ops : Array Oper} {f st : Nat} {res : Nat → D} {H H1 : Heap} {E : Nat → D} {a0 : Act} {ws : World}
end
section
variable {P : Program} {ops : Array Oper} {f : Nat}
end
section
variable {P : Program} {x : Ctx} {ops : Array Oper} {f : Nat} {H : Heap} {E : Nat → D} {a0 : Act} {ws : World}
theorem Ze8 (H:Heap) (st:Nat) (listed:Array Bool):hof H H st listed=H:=by unfold hof;split<;>rfl
def ZoT (P:Program) (ops:Array Oper) (E:Nat→D) (s st e:Nat) (resA:Nat→D) (KB:(Nat→D)→Heap→Prop) (d:D) (H1:Heap) (resB:Nat→D):Prop:=
 (∀k,k≠st→x'r ops k st=false→resB k=resA k)∧resB st=d∧
 (∀j,s≤j→j<e→j≠st→x'r ops st j=false→ ∃o,ops[j]?=some o∧o.guard=none∧OpS P o (evD (x'0 ops E resB j)) H1 (fun d' H'=>d'=resB j∧H'=H1))∧KB (x'0 ops E resB e) H1
def NInv (P:Program) (x:Ctx) (ops:Array Oper) (f:Nat) (H:Heap) (E:Nat→D) (a0:Act) (ws:World) (s st e:Nat) (resA:Nat→D) (KB:(Nat→D)→Heap→Prop) (listed:Array Bool) (a:Act) (w:World):Prop:=
 (¬isL listed st∧GInv x ops f ops.size resA H H a0 ws listed a w)∨
 (isL listed st∧ ∃d H1 resB w0,ZoT P ops E s st e resA KB d H1 resB∧SRel x ⟨E,H1⟩ a0 w0∧GInv x ops f ops.size resB H1 H1 a0 w0 listed a w)
theorem NInv.step {s st e : Nat} {resA : Nat → D} {KB : (Nat → D) → Heap → Prop} (hB : v'F ops f) (hs0 : SRel x ⟨E, H⟩ a0 ws) (hef : e ≤ f) {Q : Exit → Act → World → Prop} (hdst : ∀ k t, y'd ops k = some t → t < x.n)
    (hA : ∀ j, s ≤ j → j < e → j ≠ st → x'r ops j st = false → ∃ o, ops[j]? = some o ∧ o.guard = none ∧ OpS P o (evD (x'0 ops E resA j)) H (fun d' H' => d' = resA j ∧ H' = H))
    (hS : ∃ o, ops[st]? = some o ∧ o.guard = none ∧ OpS P o (evD (x'0 ops E resA st)) H (fun d' H' => ∃ resB, ZoT P ops E s st e resA KB d' H' resB))
    (listed : Array Bool) (a : Act) (w : World) (i : Nat) (h : NInv P x ops f H E a0 ws s st e resA KB listed a w) (hr : i ∈ Region.ready .any ops listed) (hsi : s ≤ i) (hie : i < e) :
    wpOp P ops Q i (fun a' w' => NInv P x ops f H E a0 ws s st e resA KB (listed.setIfInBounds i true) a' w') a w := by
  rcases h with ⟨hst, h⟩ | ⟨hst, d, H1, resB, w0, hRB, hs1, h⟩
  · obtain ⟨hisz, hil, o, ho, hready⟩ := x'U h.lsize hr
    have hisz' : i < listed.size := by rw [h.lsize]; exact hisz
    have hm : ∀ k, isL (listed.setIfInBounds i true) k ↔ k = i ∨ isL listed k := fun k => w'8 hisz'
    by_cases hi : i = st
    · subst hi
      obtain ⟨o', ho', hg, hop⟩ := hS
      rw [ho] at ho'; cases ho'
      have hdi : y'd ops i = o.dst := by simp [y'd, ho]
      have hdn : ∀ t, o.dst = some t → t < x.n := fun t ht => hdst i t (by rw [hdi, ht])
      have ev := fun y hy => h.ev hB rfl hs0 ho (by omega) hil hready y hy
      have hinv := h.inv
      have hevo := h.evo
      rw [Ze8] at hinv hevo
      have notE : ∀ k, isL listed k → x'r ops k i = false := fun k hk => by
        cases hq : x'r ops k i with
        | false => rfl
        | true => exact absurd (x'D (S := isL listed) (fun j' ed hj' he' => by
            obtain ⟨oj, ed, q1, q2, q3, rfl⟩ := y'6.1 he'
            exact h.down j' oj q1 hj' ed q2 q3) _ k i (fun ed he' => by
            obtain ⟨oj, ed, q1, q2, q3, rfl⟩ := y'6.1 he'
            exact h.down k oj q1 hk ed q2 q3) hq) hst
      unfold wpOp
      rw [ho]
      simp only
      rw [if_pos (by simp [Region.wanted, hg])]
      refine .inl ((hop w x.L0 a.eval hinv ev).upon ?_)
      rintro v w' ⟨d, H1, ⟨resB, hRB⟩, hv, hi', he⟩
      have hkeep : Keeps w (live H x.L0) w' (live H1 x.L0) := he.keeps
      have hevo2 : Evo ws H w' H1 := hevo.trans he
      refine .inr ⟨(hm i).2 (.inl rfl), d, H1, resB, w', hRB, { env := fun t => Rel.mono hevo2.keeps _ _ (hs0.env t), inv := hi', evo := hs0.evo.trans hevo2, defers := hs0.defers, size := hs0.size }, ?_⟩
      refine { lsize := by simp [h.lsize], down := ?_, front := ?_, slots := ?_, rest := ?_, inv := by rw [Ze8]; exact hi', evo := by rw [Ze8]; exact Evo.refl _ _, defers := ?_, size := ?_ }
      · intro k ok hok hk e he' hb
        rw [hm] at hk ⊢
        rcases hk with rfl | hk
        · rw [ho] at hok; cases hok
          exact .inr (hready e he' hb)
        · exact .inr (h.down k ok hok hk e he' hb)
      · intro k hk
        rcases (hm k).1 hk with rfl | hk
        · omega
        · exact h.front k hk
      · intro k t hk hkt
        rcases (hm k).1 hk with rfl | hk
        · rw [hdi] at hkt
          rw [Zab h.size, if_pos ⟨hkt, hdn t hkt⟩, hRB.2.1]
          exact hv
        · have hne' : k ≠ i := fun e => hil (e ▸ hk)
          rw [Zab h.size, if_neg, hRB.1 k hne' (notE k hk)]
          · exact Rel.mono hkeep _ _ (h.slots k t hk hkt)
          · rintro ⟨h1, _⟩
            rw [← hdi] at h1
            exact hB.uniq i k (by omega) (h.front k hk) hne' (by rw [h1]; simp) (by rw [hkt, h1])
      · intro t hno
        rw [Zab h.size, if_neg]
        · exact h.rest t fun k hk => hno k ((hm k).2 (.inr hk))
        · rintro ⟨h1, _⟩
          exact hno i ((hm i).2 (.inl rfl)) (by rw [hdi, h1])
      · cases o.dst <;> exact h.defers
      · cases o.dst <;> simp [Act.put, h.size]
    · have hE : x'r ops i st = false := by
        cases hq : x'r ops i st with
        | false => rfl
        | true => exact absurd (x'D (S := isL listed) (fun j' ed hj' he' => by
            obtain ⟨oj, ed, q1, q2, q3, rfl⟩ := y'6.1 he'
            exact h.down j' oj q1 hj' ed q2 q3) _ i st (fun ed he' => by
            obtain ⟨oj, ed, q1, q2, q3, rfl⟩ := y'6.1 he'
            rw [ho] at q1; cases q1
            exact hready ed q2 q3) hq) hst
      obtain ⟨o', ho', hg, hop⟩ := hA i hsi hie hi hE
      refine wpOp_mono (fun a' w' h' => .inl ⟨fun hq => ?_, h'⟩) (h.step (W := fun _ => false) (fun _ h => by cases h) hB rfl hs0 hdst hr (by omega) ⟨o', ho', hg, fun _ => ⟨hop, .inr hop⟩, fun e => absurd hisz (by omega)⟩)
      rcases (hm st).1 hq with hq | hq
      · exact hi hq.symm
      · exact hst hq
  · obtain ⟨hisz, hil, o, ho, hready⟩ := x'U h.lsize hr
    have hisz' : i < listed.size := by rw [h.lsize]; exact hisz
    have hm : ∀ k, isL (listed.setIfInBounds i true) k ↔ k = i ∨ isL listed k := fun k => w'8 hisz'
    have hi : i ≠ st := fun e => hil (e ▸ hst)
    have hE : x'r ops st i = false := by
      cases hq : x'r ops st i with
      | false => rfl
      | true => exact absurd (x'D (S := isL listed) (fun j' ed hj' he' => by
            obtain ⟨oj, ed, q1, q2, q3, rfl⟩ := y'6.1 he'
            exact h.down j' oj q1 hj' ed q2 q3) _ st i (fun ed he' => by
            obtain ⟨oj, ed, q1, q2, q3, rfl⟩ := y'6.1 he'
            exact h.down st oj q1 hst ed q2 q3) hq) hil
    obtain ⟨o', ho', hg, hop⟩ := hRB.2.2.1 i hsi hie hi hE
    exact wpOp_mono (fun a' w' h' => .inr ⟨(hm st).2 (.inr hst), d, H1, resB, w0, hRB, hs1, h'⟩) (h.step (W := fun _ => false) (fun _ h => by cases h) hB rfl hs1 hdst hr (by omega) ⟨o', ho', hg, fun _ => ⟨hop, .inr hop⟩, fun e => absurd hisz (by omega)⟩)
end
def NW (R:Nat→Oper→(Nat→D)→D→Prop) (K:(Nat→D)→(Nat→D)→Prop):Nat→Nat→List Oper→(Nat→D)→(Nat→D)→Prop
 |0,_,_,E,r=>K E r
 |_+1,_,[],_,_=>False
 |m+1,i,o::l,E,r=> ∃d,R i o E d∧NW R K m (i+1) l (updO E o.dst d) (fun k=>if k=i then d else r k)
theorem NW.extract {R:Nat→Oper→(Nat→D)→D→Prop} {K:(Nat→D)→(Nat→D)→Prop} {ops:Array Oper} {E0:Nat→D}: ∀(m i:Nat) (res0:Nat→D),NW R K m i (ops.toList.drop i) (x'0 ops E0 res0 i) res0→
  ∃res:Nat→D,(∀k,k<i→res k=res0 k)∧(∀k,i+m≤k→res k=res0 k)∧(∀j,i≤j→j<i+m→ ∃o,ops[j]?=some o∧R j o (x'0 ops E0 res j) (res j))∧K (x'0 ops E0 res (i+m)) res
 |0,i,res0,h=>⟨res0,fun _ _=>rfl,fun _ _=>rfl,fun j h1 h2=>by omega,h⟩
 |m+1,i,res0,h=>by
  cases hl:ops.toList.drop i with
  |nil=>rw[hl]at h;exact h.elim
  |cons o l=>
   rw[hl]at h
   obtain⟨d,h1,h2⟩:=h
   have hi:ops[i]?=some o:=by
    have:(ops.toList.drop i)[0]?=some o:=by rw[hl];rfl
    rw[x'f]at this
    simpa using this
   have hl':l=ops.toList.drop (i+1):=by
    have:ops.toList.drop (i+1)=(ops.toList.drop i).drop 1:=by rw[w't]
    rw[this,hl];rfl
   let res1:Nat→D:=fun k=>if k=i then d else res0 k
   have e1: ∀j,j≤i→x'0 ops E0 res1 j=x'0 ops E0 res0 j:=by
    intro j
    induction j with
    |zero=>intro _;rfl
    |succ j ihj=>
     intro hj
     rw[x'0,x'0,ihj (by omega)]
     have:res1 j=res0 j:=by simp only[res1];rw[if_neg (by omega)]
     rw[this]
   have e2:x'0 ops E0 res1 (i+1)=updO (x'0 ops E0 res0 i) o.dst d:=by
    rw[x'0,e1 i (z'w _)]
    have:res1 i=d:=by simp[res1]
    rw[this]
    simp[y'd,hi]
   rw[hl', ←e2]at h2
   obtain⟨res,q1,q0,q2,q3⟩:=NW.extract m (i+1) res1 h2
   have e3: ∀j,j≤i+1→x'0 ops E0 res j=x'0 ops E0 res1 j:=by
    intro j
    induction j with
    |zero=>intro _;rfl
    |succ j ihj=>
     intro hj
     rw[x'0,x'0,ihj (by omega),q1 j (by omega)]
   refine⟨res,fun k hk=>?_,fun k hk=>?_,fun j hj1 hj2=>?_,?_⟩
   ·rw[q1 k (by omega)]
    simp only[res1];rw[if_neg (by omega)]
   ·rw[q0 k (by omega)]
    simp only[res1];rw[if_neg (by omega)]
   ·rcases x'd hj1 with rfl|hlt
    ·refine⟨o,hi,?_⟩
     rw[e3 _ (by omega),e1 _ (z'w _),q1 _ (by omega)]
     have:res1 i=d:=by simp[res1]
     rw[this]
     exact h1
    ·exact q2 j (by omega) (by omega)
   ·rw[show i+(m+1)=i+1+m by omega]
    exact q3
def NRA (P:Program) (ops:Array Oper) (st:Nat) (H:Heap) (Φ:D→Heap→Prop) (i:Nat) (o:Oper) (E:Nat→D) (d:D):Prop:=
 o.guard=none∧(i=st→OpS P o (evD E) H Φ)∧(i≠st→x'r ops i st=false→OpS P o (evD E) H (fun d' H'=>d'=d∧H'=H))
section
variable {P : Program} (T : Tab P) {ops : Array Oper} {st i m : Nat} {o : Oper} {l : List Oper} {H H1 : Heap} {Φ : D → Heap → Prop} {E : Nat → D} {r rA : Nat → D} {d d0 : D} {K : (Nat → D) → (Nat → D) → Prop}
theorem NW.nil {R:Nat→Oper→(Nat→D)→D→Prop} (h:K E r):NW R K 0 i l E r:=h
theorem NW.stepA (hi:Nat.beq i st=false) (hg:o.guard=none) (h:opC T o (evD E) H (fun d' H'=>d'=d∧H'=H)) (k:NW (NRA P ops st H Φ) K m (i+1) l (updO E o.dst d) (fun k=>if k=i then d else r k)):NW (NRA P ops st H Φ) K (m+1) i (o::l) E r:=
 ⟨d,⟨hg,fun e=>absurd e (Nat.ne_of_beq_eq_false hi),fun _ _=>ZaW T h⟩,k⟩
end
end Go.Proofs.YtfneeacgkdhldaaGreat
