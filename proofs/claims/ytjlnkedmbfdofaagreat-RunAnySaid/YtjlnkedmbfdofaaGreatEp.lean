/- Regions that draw their order, walked in segments. No condition. -/
import Derived.Test.YtjlnkedmbfdofaaGreatEm
namespace Go.Vc
set_option linter.unusedSimpArgs false
set_option linter.unusedVariables false
open Go
theorem ZfY {ops:Array Oper} {e k i:Nat} (h:Zai ops e k=false) (h1:e≤i) (h2:i<ops.size):z'N ops i k=true:=by
 unfold Zai at h
 have:=List.any_eq_false.1 h i (z'J.2 h2)
 simp only[z'b,x'j,not_and,Bool.not_eq_false]at this
 exact this (by rw[Nat.ble_eq];exact h1)
def ZfI (ops:Array Oper) (s e:Nat):Bool:=Region.noSelect ops&&(List.range e).all fun k=>Nat.blt k s||(!Zai ops e k||Zbh ops k)
theorem ZiV {ops:Array Oper} {s e k:Nat} (h:((List.range e).all fun k=>Nat.blt k s||(!Zai ops e k||Zbh ops k))=true) (h0:s≤k) (h1:k<e) (h2:Zai ops e k=true):Zbh ops k=true:=by
 have:=z'h.1 h k (z'J.2 h1)
 rw[h2,y'O]at this
 rcases this with h'|h'
 ·have:=Nat.blt_eq.mp h';omega
 ·simpa using h'
theorem VCd.groupF {P : Program} (T : Tab P) {n : Nat} {ops : Array Oper} {s : Nat} {E : Nat → D} {H : Heap} {Q : Exit → St → Prop} (hQ : ∀ c s', ¬ Q (.panic c) s') (e f : Nat) (hse : Nat.ble s e = true) (hef : Nat.ble e f = true) (hB : x'I ops f = true) (hbar : ZfI ops s e = true) (hd : ops.toList.all (y'B n) = true)
    (h : VCg T ops H (fun E' news => Za4 news E' H fun E'' H'' => VCd P n ops e ⟨E'', H''⟩ Q) (e - s) (ops.toList.drop s) E []) : VCd P n ops s ⟨E, H⟩ Q := by
  have hB := x'f hB
  have hse : s ≤ e := z'i hse
  have hef : e ≤ f := z'i hef
  intro x a0 w listed0 hn hs hsz hl0
  have h := VCg.vcf (e - s) s (ops.toList.drop s) E [] rfl h
  obtain ⟨res', hok', hK⟩ := VCf.extract (e - s) s E [] h
  let res : Nat → FRes := fun k => if k < s then .det (match z'v ops k with | some t => E t | none => .any) else res' k
  have hlow : ∀ k, k < s → res k = .det (match z'v ops k with | some t => E t | none => .any) := fun k hk => by simp only [res]; rw [if_pos hk]
  have hhigh : ∀ k, s ≤ k → res k = res' k := fun k hk => by simp only [res]; rw [if_neg (by omega)]
  have hnew : ∀ k nn, res k = .new nn → s ≤ k := fun k nn hk => by
    rcases z't k s with h' | h'
    · rw [hlow k h'] at hk; cases hk
    · exact h'
  have hskip : ∀ k, k < s → updO E (z'v ops k) (res k).d = E := fun k hk => by
    rw [hlow k hk]
    cases hd' : z'v ops k with
    | none => rfl
    | some t => exact x'A rfl
  have hcong : ∀ j, y'p ops s E res' j = y'p ops s E res j := fun j => Zab (fun k hk => (hhigh k hk).symm) j
  have hok : ∀ j, s ≤ j → j < e → ∃ o, ops[j]? = some o ∧ FOk P ops (y'p ops 0 E res j) H o (res j) := fun j h1 h2 => by
    obtain ⟨o, q1, q2⟩ := hok' (j - s) (by omega)
    rw [show s + (j - s) = j by omega] at q1 q2
    refine ⟨o, q1, ?_⟩
    have : y'p ops 0 E res j = y'p ops s E res (j - s) := by
      have := Zcf (ops := ops) (res := res) (E := E) hskip (j - s)
      rwa [show s + (j - s) = j by omega] at this
    rw [this, ← hcong, hhigh j h1]
    exact q2
  have hdst : ∀ k t, z'v ops k = some t → t < x.n := fun k t hk => hn ▸ v'w (l := ops.toList) hd k t (by simpa using hk)
  have hnd : ∀ j nn, j < e → res j = .new nn → ∃ t, z'v ops j = some t := by
    intro j nn hj hr
    obtain ⟨o, ho, hf⟩ := hok j (hnew j nn hr) hj
    rw [hr] at hf
    obtain ⟨_, ⟨t, ht⟩, _⟩ := hf
    exact ⟨t, by simp only [z'v, ho, Option.bind_some, ht]⟩
  have hL0 : L1 x.L0 res (fun _ => []) listed0 = x.L0 := by
    funext b
    refine propext ⟨?_, .inl⟩
    rintro (h1 | ⟨k, nn, h1, h2, h3⟩)
    · exact h1
    · cases h3
  unfold ZfI at hbar
  rw [z'b] at hbar
  refine ZiG (x := x) (res := res) (E := E) (H := H) (a0 := a0) (ws := w) (f := f) (fl := Zai ops e) (s := s) (e := e) hB hs (fun c a w ⟨s', h1, _⟩ => hQ c s' h1) hbar.1 hef (fun i h1 h2 k _ h3 h4 => ZfY h4 h1 h2) (fun k h0 h1 h2 => ZiV hbar.2 h0 h1 h2) hok hdst ?_ _ (fun _ => []) listed0 a0 w ?_ (fun k hk => (hl0 k).2 hk) (fun k hk => by have := (hl0 k).1 hk; omega) ?_
  · intro blk listed a w' hl hF
    rw [z'L] at hK
    have hsameL : v'1 x.L0 res blk e s = L1 x.L0 res blk listed := by
      funext b
      refine propext ⟨?_, ?_⟩
      · rintro (h1 | ⟨k, nn, h1, h2, h3, h4⟩)
        · exact .inl h1
        · exact .inr ⟨k, nn, (hl k).2 h2, h3, h4⟩
      · rintro (h1 | ⟨k, nn, h1, h3, h4⟩)
        · exact .inl h1
        · exact .inr ⟨k, nn, hnew k nn h3, (hl k).1 h1, h3, h4⟩
    have henv : ∀ t, Rel w' (live H (L1 x.L0 res blk listed)) (y'p ops 0 E res e t) (a.tmps.getD t undef) := by
      intro t
      by_cases hex : ∃ k, k < e ∧ z'v ops k = some t
      · obtain ⟨k, hkf, hkt⟩ := hex
        rw [ZaP e hkf hkt (fun j hj hne hd' => hB.uniq k j (by omega) (by omega) hne (by rw [hkt]; simp) (by rw [hd', hkt]))]
        have hsl := hF.slots k t ((hl k).2 hkf) hkt
        cases hr : res k with
        | det d => rw [hr] at hsl; exact hsl
        | skip => rw [hr] at hsl; exact hsl
        | new nn => trivial
      · rw [v'Q e (fun k hk hd' => hex ⟨k, hk, hd'⟩), hF.rest t (fun k hk hd' => hex ⟨k, (hl k).1 hk, hd'⟩)]
        exact Rel.mono hF.keeps _ _ (hs.env t)
    have hE : y'p ops 0 E res e = y'p ops s E res' (e - s) := by
      have := Zcf (ops := ops) (res := res) (E := E) hskip (e - s)
      rw [show s + (e - s) = e by omega] at this
      rw [this, hcong]
    have hN : x'E ops res' s (e - s) = x'E ops res s (e - s) := v'M (e - s) s (fun k hk => (hhigh k hk).symm)
    rw [hN, ← hE] at hK
    obtain ⟨E2, H2, hV, hS⟩ := Zc2 (f := e) hs { hF with front := fun k hk => (hl k).1 hk } hl hnd (e - s) s _ H (by omega) hK henv (by rw [hsameL]; exact hF.inv) (fun b => by rw [hsameL]) hF.evo
    exact hV x a w' listed hn hS hF.lsize hl
  · unfold unl
    have key : ∀ m, m ≤ ops.size → ((List.range m).filter fun k => !listed0.getD k true).length = m - s := by
      intro m
      induction m with
      | zero => intro _; simp
      | succ m ihm =>
        intro hm
        rw [z'9, z'G, z'r, ihm (by omega)]
        by_cases hmf : m < s
        · have : listed0.getD m true = true := (z'H (by rw [hsz]; omega)).2 ((hl0 m).2 hmf)
          rw [z'S, this]; simp; omega
        · have : listed0.getD m true = false := by
            cases hq : listed0.getD m true with
            | false => rfl
            | true => exact absurd ((hl0 m).1 ((z'H (by rw [hsz]; omega)).1 hq)) hmf
          rw [z'S, this]; simp; omega
    exact key ops.size (z'c _)
  · refine { lsize := hsz, down := fun k o ho hk ed he hb => (hl0 _).2 ?_, front := fun k hk => ?_, slots := fun k t hk hkt => ?_, blks := fun k nn hk hr b hb => (by cases hb), inj := fun k l' nn n' hk hl' hr hr' b hb => (by cases hb),
             rest := fun t _ => rfl, inv := by rw [hL0]; exact hs.inv, evo := Evo.refl _ _, defers := hs.defers, size := hs.size }
    · have := hB.back k o ho ed he hb
      have := (hl0 k).1 hk
      omega
    · have := (hl0 k).1 hk; omega
    · rw [hlow k ((hl0 k).1 hk), hkt, hL0]
      exact hs.env t
section
variable {P : Program} {x : Ctx} {ops : Array Oper} {f st : Nat} {res : Nat → D} {H H1 : Heap} {E : Nat → D} {a0 : Act} {ws : World}
theorem Za8 {W:Nat→Bool} (hW: ∀i,W i=true→z'N ops st i=true) (hB:y'2 ops f) (hbl:H1.blocks=H.blocks) (hs0:SRel x ⟨E,H⟩ a0 ws) {Q:Exit→Act→World→Prop} {s e:Nat} (hef:e≤f) (bar: ∀i,e≤i→i<ops.size→ ∀k,s≤k→k<e→z'N ops i k=true)
  (hok: ∀j,s≤j→j<e→ ∃o,ops[j]?=some o∧WOk P W (z'Y ops E res j) H H1 o j st (res j)) (hdst: ∀k t,z'v ops k=some t→t<x.n)
  (hfin: ∀listed a w,(∀k,isL listed k↔k<e)→GInv x ops f st res H H1 a0 ws listed a w→wpAny P .any ops Q (ops.size-e) listed a w):
  ∀(fuel:Nat) (listed:Array Bool) (a:Act) (w:World),unl listed ops.size=fuel→(∀k,k<s→isL listed k)→(∀k,isL listed k→k<e)→GInv x ops f st res H H1 a0 ws listed a w→wpAny P .any ops Q fuel listed a w:=by
 have hes:e≤ops.size:=z'E hef hB.le
 intro fuel
 induction fuel with
 |zero=>
  intro listed a w hu hlow hup h
  have all: ∀k,k<ops.size→isL listed k:=fun k hk=>w'6 h.lsize hu hk
  have hl: ∀k,isL listed k↔k<e:=fun k=>⟨hup k,fun hk=>all k (by omega)⟩
  have he:ops.size-e=0:=by
   rcases z'1 hes with h'|h'
   ·omega
   ·have:=hup e (all e h');omega
  have:=hfin listed a w hl h
  rwa [he]at this
 |succ fuel ih=>
  intro listed a w hu hlow hup h
  by_cases hall: ∀k,k<e→isL listed k
  ·have hl: ∀k,isL listed k↔k<e:=fun k=>⟨hup k,hall k⟩
   have hcount:ops.size-e=fuel+1:=by
    have key: ∀m,m≤ops.size→((List.range m).filter fun k=> !listed.getD k true).length=m-e:=by
     intro m
     induction m with
     |zero=>intro _;simp
     |succ m ihm=>
      intro hm
      rw[z'9,z'G,z'r,ihm (by omega)]
      by_cases hmf:m<e
      ·have:listed.getD m true=true:=(z'H (by rw[h.lsize];omega)).2 ((hl m).2 hmf)
       rw[z'S,this];simp;omega
      ·have:listed.getD m true=false:=by
        cases hq:listed.getD m true with
        |false=>rfl
        |true=>exact absurd ((hl m).1 ((z'H (by rw[h.lsize];omega)).1 hq)) hmf
       rw[z'S,this];simp;omega
    have:=key ops.size (z'c _)
    unfold unl at hu
    omega
   have:=hfin listed a w hl h
   rwa [hcount]at this
  ·have hex: ∃k,k<e∧ ¬isL listed k:=by
    refine z'j fun hn=>hall fun k hk=>z'j fun hkl=>hn ⟨k,hk,hkl⟩
   have least: ∀m, ∀k,k≤m→k<e→ ¬isL listed k→ ∃k',k'<e∧ ¬isL listed k'∧ ∀l,l<k'→isL listed l:=by
    intro m
    induction m with
    |zero=>intro k hk hkf hkl;exact⟨k,hkf,hkl,fun l hl=>by omega⟩
    |succ m ihm=>
     intro k hk hkf hkl
     by_cases hp: ∀l,l<k→isL listed l
     ·exact⟨k,hkf,hkl,hp⟩
     ·have: ∃l,l<k∧ ¬isL listed l:=z'j fun hn=>hp fun l hl=>z'j fun hll=>hn ⟨l,hl,hll⟩
      obtain⟨l,h1,h2⟩:=this
      exact ihm l (by omega) (by omega) h2
   obtain⟨k0,hk0f,hk0⟩:=hex
   obtain⟨k,hkf,hkl,hkp⟩:=least k0 k0 (z'c _) hk0f hk0
   have hks:k<ops.size:=z'm hkf hes
   have hready:k∈Region.ready .any ops listed:=by
    refine mem_ready.2 ⟨?_,ops[k],by simp[hks],fun ed he hb=>?_⟩
    ·cases hq:listed.getD k true with
     |false=>rfl
     |true=>exact absurd ((z'H (by rw[h.lsize];omega)).1 hq) hkl
    ·have hlt:=hB.back k ops[k] (by simp[hks]) ed he hb
     have:=hkp ed.on hlt
     unfold isL at this
     rw[z'w,this];rfl
   refine⟨fun h0=>by rw[h0]at hready;exact absurd hready z'I,fun i hi=>?_⟩
   obtain⟨h1,h2,o,ho,hr⟩:=z'8 h.lsize hi
   have hie:i<e:=by
    rcases z't i e with h'|h'
    ·exact h'
    ·exfalso
     have hsk:s≤k:=by
      rcases z't k s with h''|h''
      ·exact absurd (hlow k h'') hkl
      ·exact h''
     have he:=bar i h' h1 k hsk hkf
     exact hkl (z'4 (S:=isL listed) (fun j' ed hj' he'=>by
      obtain⟨oj,ed,q1,q2,q3,rfl⟩:=z'P.1 he'
      exact h.down j' oj q1 hj' ed q2 q3) _ i k (fun ed he'=>by
      obtain⟨oj,ed,q1,q2,q3,rfl⟩:=z'P.1 he'
      rw[ho]at q1;cases q1
      exact hr ed q2 q3) he)
   have hisz:i<listed.size:=by rw[h.lsize];exact h1
   refine wpOp_mono (fun a' w' h'=>ih _ a' w' ?_ (fun l hl=>(y'y hisz).2 (.inr (hlow l hl))) (fun k hk=>?_) h') (h.step hW hB hbl hs0 hdst hi (by omega) (hok i (by
     rcases z't i s with h''|h''
     ·exact absurd (hlow i h'') h2
     ·exact h'') hie))
   ·have:=v'b h.lsize h1 h2
    omega
   ·rcases(y'y hisz).1 hk with rfl|hk
    ·exact hie
    ·exact hup k hk
end
theorem VCd.groupXs {P:Program} (T:Tab P) (W:Nat→Bool) {n:Nat} {ops:Array Oper} {E:Nat→D} {H:Heap} {Q:Exit→St→Prop} (H1:Heap) (s st e f:Nat) (hbl:H1.blocks=H.blocks) (hs1:s≤st) (hst:Nat.blt st e=true) (hef:Nat.ble e f=true) (hB:x'I ops f=true) (hbar:w'B ops s e=true) (hd:ops.toList.all (y'B n)=true)
  (hW: ∀i,W i=true→z'N ops st i=true)
  (h:VCx T W st H H1 (fun E'=>VCd P n ops e ⟨E',H1⟩ Q) (e-s) s (ops.toList.drop s) E):VCd P n ops s ⟨E,H⟩ Q:=by
 have hB:=x'f hB
 have hef:e≤f:=z'i hef
 have hst:st<e:=by simpa using hst
 intro x a0 w hn' hn hs hsz hl0
 have hE0: ∀j,j≤s→z'Y ops E (fun k=>match z'v ops k with|some t=>E t|none=> .any) j=E:=by
  intro j
  induction j with
  |zero=>intro _;rfl
  |succ j ihj=>
   intro hj
   rw[z'Y,ihj (by omega)]
   cases hd':z'v ops j with
   |none=>rfl
   |some t=>exact x'A rfl
 obtain⟨res,hlo,hok,hK⟩:=VCx.extract (ops:=ops) (E0:=E) (e-s) s (fun k=>match z'v ops k with|some t=>E t|none=> .any) (by rw[hE0 s (z'c _)];exact h)
 rw[show s+(e-s)=e by omega]at hK
 have hdst: ∀k t,z'v ops k=some t→t<x.n:=fun k t hk=>hn▸v'w (l:=ops.toList) hd k t (by simpa using hk)
 have hno: ¬isL hn' st:=fun hk=>by have:=(hl0 st).1 hk;omega
 have hH0:hof H H1 st hn'=H:=by unfold hof;rw[if_neg hno]
 refine Za8 (x:=x) (res:=res) (E:=E) (H:=H) (H1:=H1) (st:=st) (a0:=a0) (ws:=w) (f:=f) (s:=s) hW hB hbl hs hef (fun i h1 h2 k h0 hk=>w'C hbar i h1 h2 k h0 hk) (fun j h0 hj=>hok j h0 (by omega)) hdst ?_ _ hn' a0 w ?_ (fun k hk=>(hl0 k).2 hk) (fun k hk=>by have:=(hl0 k).1 hk;omega) ?_
 ·intro listed a w' hl hF
  have hH1:hof H H1 st listed=H1:=by unfold hof;rw[if_pos ((hl st).2 hst)]
  have hlv:live H1 x.L0=live H x.L0:=w'9 hbl _
  refine hK x a w' listed hn ?_ hF.lsize hl
  have hevo:=hF.evo
  have hinv:=hF.inv
  rw[hH1]at hevo hinv
  refine{env:=fun t=>?_,inv:=hinv,evo:=hs.evo.trans hevo,defers:=hF.defers,size:=hF.size}
  simp only
  rw[hlv]
  by_cases hex: ∃k,k<e∧z'v ops k=some t
  ·obtain⟨k,hkf,hkt⟩:=hex
   rw[w'r e hkf hkt (fun j hj hne hd'=>hB.uniq k j (by omega) (by omega) hne (by rw[hkt];simp) (by rw[hd',hkt]))]
   exact hF.slots k t ((hl k).2 hkf) hkt
  ·rw[x'0 e (fun k hk hd'=>hex ⟨k,hk,hd'⟩),hF.rest t (fun k hk hd'=>hex ⟨k,(hl k).1 hk,hd'⟩)]
   have hkeep:=hevo.keeps (L0:=x.L0)
   rw[hlv]at hkeep
   exact Rel.mono hkeep _ _ (hs.env t)
 ·unfold unl
  have key: ∀m,m≤ops.size→((List.range m).filter fun k=> !hn'.getD k true).length=m-s:=by
   intro m
   induction m with
   |zero=>intro _;simp
   |succ m ihm=>
    intro hm
    rw[z'9,z'G,z'r,ihm (by omega)]
    by_cases hmf:m<s
    ·have:hn'.getD m true=true:=(z'H (by rw[hsz];omega)).2 ((hl0 m).2 hmf)
     rw[z'S,this];simp;omega
    ·have:hn'.getD m true=false:=by
      cases hq:hn'.getD m true with
      |false=>rfl
      |true=>exact absurd ((hl0 m).1 ((z'H (by rw[hsz];omega)).1 hq)) hmf
     rw[z'S,this];simp;omega
  exact key ops.size (z'c _)
 ·refine{lsize:=hsz,down:=fun k o ho hk ed he hb=>(hl0 _).2 ?_,front:=fun k hk=>?_,slots:=fun k t hk hkt=>?_,rest:=fun t _=>rfl,inv:=by rw[hH0];exact hs.inv,evo:=by rw[hH0];exact Evo.refl _ _,defers:=hs.defers,size:=hs.size}
  ·have h1:=hB.back k o ho ed he hb
   have h2:=(hl0 k).1 hk
   omega
  ·have:=(hl0 k).1 hk;omega
  ·have h2:=(hl0 k).1 hk
   rw[hlo k h2,hkt]
   exact hs.env t
theorem VCd.done {P:Program} {n:Nat} {ops:Array Oper} {S:St} {Q:Exit→St→Prop} (h:Q .normal S):VCd P n ops ops.size S Q:=by
 intro x a w listed hn hs hsz hl
 rw[Nat.sub_self]
 refine⟨List.eq_nil_iff_forall_not_mem.2 fun i hi=>?_,S,h,hs⟩
 obtain⟨h1,h2,_⟩:=z'8 hsz hi
 exact h2 ((hl i).2 h1)
end Go.Vc
