/- A region that draws: a move that may come at any time is carried out first. No condition. -/
import Derived.Test.YtomcmfbpmkklmaaGreatWb
import Derived.Test.YtomcmfbpmkklmaaGreatWd
namespace Go.Proofs.YtomcmfbpmkklmaaGreat
set_option linter.unusedSimpArgs false
set_option linter.unusedVariables false
open Go Go.Proofs Go.Vc
attribute [local irreducible] retQ VCg VCw VCx
def floatOk (ops : Array Oper) (j : Nat) (oj : Oper) : Bool := (List.range ops.size).all fun k => Nat.ble k j || match ops[k]? with
 | some o => o.after.any (fun e => Region.binds .any e && e.on == j) || oj.apart ops o
 | none => true
theorem VCd.take {P : Program} {n : Nat} {ops : Array Oper} {j : Nat} {E : Nat → D} {H : Heap} {Q : Exit → St → Prop} {o : Oper} {t s : Tmp} (ho : ops[j]? = some o) (hop : o.op = .move (.tmp t)) (hd : o.dst = some s) (hg : o.guard = none) (hsn : Nat.blt s n = true)
  (haf : o.after = #[]) (hsel : Region.noSelect ops = true) (hfl : floatOk ops j o = true) (hQ : ∀ c s', ¬ Q (.panic c) s') (h : VCd P n ops (j + 1) ⟨upd E s (E t), H⟩ Q) : VCd P n ops j ⟨E, H⟩ Q := by
 intro x a w listed hn hs hsz hl
 have hlt : j < ops.size := (Array.getElem?_eq_some_iff.1 ho).1
 rw [show ops.size - j = (ops.size - (j + 1)) + 1 by omega]
 have hun : listed.getD j true = false := by
  cases hq : listed.getD j true with
  | false => rfl
  | true => exact absurd ((hl j).1 ((getD_true (by omega)).1 hq)) (by omega)
 refine wpAny_first (v := a.eval (.tmp t)) ho (Region.noSelect_spec hsel) (fun c a w ⟨s', h1, _⟩ => absurd h1 (hQ c s')) _ listed a w ?_ ?_ ?_ ?_
 ·intro k ok hk hkj hku hno
  have hks : k < ops.size := (Array.getElem?_eq_some_iff.1 hk).1
  have h1 := List.all_eq_true.1 hfl k (List.mem_range.2 hks)
  simp only [hk, Bool.or_eq_true] at h1
  rcases h1 with h1 | h1 | h1
  ·have := Nat.le_of_ble_eq_true h1
   have h2 := (hl k).2 (by omega)
   have h3 := (getD_true (by omega)).2 h2
   rw [hku] at h3
   cases h3
  ·obtain ⟨e, he, hb⟩ := Array.any_eq_true'.1 h1
   simp only [Bool.and_eq_true, beq_iff_eq] at hb
   exact absurd hb.2 (hno e he hb.1)
  ·exact h1
 ·exact mem_ready.2 ⟨hun, o, ho, fun e he => by rw [haf] at he; exact absurd he (by simp)⟩
 ·refine .inl ⟨by simp [Region.wanted, hg], fun w => ?_⟩
  simp only [execOp, hop]
  rfl
 ·rw [hd]
  have hp := hs.put (dst := some s) (d := E t) (v := a.eval (.tmp t)) (fun t' ht => by cases ht; rw [hn]; exact Nat.blt_eq.mp hsn) (hs.env t) hs.inv (Evo.refl _ _)
  exact h x _ w _ hn hp (by simp [hsz]) (fun k => by rw [isL_set (by omega), hl k]; omega)
theorem VCd.oneL {P : Program} (T : Tab P) {n : Nat} {ops : Array Oper} {s : Nat} {E : Nat → D} {H : Heap} {Q : Exit → St → Prop} {o : Oper} {r : List Oper} (hl : ops.toList.drop s = o :: r) (hback : (o.after.all fun ed => !Region.binds .any ed || Nat.blt ed.on s) = true) (hbar : barOk ops s (s + 1) = true)
  (hg : o.guard = none) (hd : dstOk n o = true) (h : ∀ K : (Nat → D) → Heap → Prop, (∀ E H, VCd P n ops (s + 1) ⟨E, H⟩ Q → K E H) → opC T o (evD E) H (fun d H => K (updO E o.dst d) H)) : VCd P n ops s ⟨E, H⟩ Q := by
 have ho : ops[s]? = some o := by
  have h1 := congrArg (fun l => l[0]?) hl
  simpa using h1
 refine VCd.one ho (fun ed he hb => ?_) hbar hg hd fun K hK => opC_sound T (h K hK)
 have h1 := Array.all_eq_true_iff_forall_mem.1 hback ed he
 rw [hb] at h1
 simpa using h1
section
variable {P : Program} {x : Ctx} {ops : Array Oper} {f st : Nat} {res : Nat → D} {H H1 : Heap} {E : Nat → D} {a0 : Act} {ws : World}
theorem groupWs_any {W : Nat → Bool} (hW : ∀ i, W i = true → hasEdge ops st i = true) (hB : DrawOk ops f) (hbl : H1.blocks = H.blocks) (hs0 : SRel x ⟨E, H⟩ a0 ws) {Q : Exit → Act → World → Prop} {s e : Nat} (hef : e ≤ f) (bar : ∀ i, e ≤ i → i < ops.size → ∀ k, s ≤ k → k < e → hasEdge ops i k = true)
  (hok : ∀ j, s ≤ j → j < e → ∃ o, ops[j]? = some o ∧ WOk P W (envD ops E res j) H H1 o j st (res j)) (hdst : ∀ k t, dstAt ops k = some t → t < x.n)
  (hfin : ∀ listed a w, (∀ k, isL listed k ↔ k < e) → GInv x ops f st res H H1 a0 ws listed a w → wpAny P .any ops Q (ops.size - e) listed a w) :
  ∀ (fuel : Nat) (listed : Array Bool) (a : Act) (w : World), unl listed ops.size = fuel → (∀ k, k < s → isL listed k) → (∀ k, isL listed k → k < e) → GInv x ops f st res H H1 a0 ws listed a w → wpAny P .any ops Q fuel listed a w := by
 have hes : e ≤ ops.size := Nat.le_trans hef hB.le
 intro fuel
 induction fuel with
 | zero =>
  intro listed a w hu hlow hup h
  have all : ∀ k, k < ops.size → isL listed k := fun k hk => unl_zero h.lsize hu hk
  have hl : ∀ k, isL listed k ↔ k < e := fun k => ⟨hup k, fun hk => all k (by omega)⟩
  have he : ops.size - e = 0 := by
   rcases Nat.eq_or_lt_of_le hes with h' | h'
   ·omega
   ·have := hup e (all e h'); omega
  have := hfin listed a w hl h
  rwa [he] at this
 | succ fuel ih =>
  intro listed a w hu hlow hup h
  by_cases hall : ∀ k, k < e → isL listed k
  ·have hl : ∀ k, isL listed k ↔ k < e := fun k => ⟨hup k, hall k⟩
   have hcount : ops.size - e = fuel + 1 := by
    have key : ∀ m, m ≤ ops.size → ((List.range m).filter fun k => !listed.getD k true).length = m - e := by
     intro m
     induction m with
     | zero => intro _; simp
     | succ m ihm =>
      intro hm
      rw [List.range_succ, List.filter_append, List.length_append, ihm (by omega)]
      by_cases hmf : m < e
      ·have : listed.getD m true = true := (getD_true (by rw [h.lsize]; omega)).2 ((hl m).2 hmf)
       rw [filter_one, this]; simp; omega
      ·have : listed.getD m true = false := by
        cases hq : listed.getD m true with
        | false => rfl
        | true => exact absurd ((hl m).1 ((getD_true (by rw [h.lsize]; omega)).1 hq)) hmf
       rw [filter_one, this]; simp; omega
    have := key ops.size (Nat.le_refl _)
    unfold unl at hu
    omega
   have := hfin listed a w hl h
   rwa [hcount] at this
  ·have hex : ∃ k, k < e ∧ ¬ isL listed k := by
    refine Classical.byContradiction fun hn => hall fun k hk => Classical.byContradiction fun hkl => hn ⟨k, hk, hkl⟩
   have least : ∀ m, ∀ k, k ≤ m → k < e → ¬ isL listed k → ∃ k', k' < e ∧ ¬ isL listed k' ∧ ∀ l, l < k' → isL listed l := by
    intro m
    induction m with
    | zero => intro k hk hkf hkl; exact ⟨k, hkf, hkl, fun l hl => by omega⟩
    | succ m ihm =>
     intro k hk hkf hkl
     by_cases hp : ∀ l, l < k → isL listed l
     ·exact ⟨k, hkf, hkl, hp⟩
     ·have : ∃ l, l < k ∧ ¬ isL listed l := Classical.byContradiction fun hn => hp fun l hl => Classical.byContradiction fun hll => hn ⟨l, hl, hll⟩
      obtain ⟨l, h1, h2⟩ := this
      exact ihm l (by omega) (by omega) h2
   obtain ⟨k0, hk0f, hk0⟩ := hex
   obtain ⟨k, hkf, hkl, hkp⟩ := least k0 k0 (Nat.le_refl _) hk0f hk0
   have hks : k < ops.size := Nat.lt_of_lt_of_le hkf hes
   have hready : k ∈ Region.ready .any ops listed := by
    refine mem_ready.2 ⟨?_, ops[k], by simp [hks], fun ed he hb => ?_⟩
    ·cases hq : listed.getD k true with
     | false => rfl
     | true => exact absurd ((getD_true (by rw [h.lsize]; omega)).1 hq) hkl
    ·have hlt := hB.back k ops[k] (by simp [hks]) ed he hb
     have := hkp ed.on hlt
     unfold isL at this
     rw [Array.getD_eq_getD_getElem?, this]; rfl
   refine ⟨fun h0 => by rw [h0] at hready; exact absurd hready List.not_mem_nil, fun i hi => ?_⟩
   obtain ⟨h1, h2, o, ho, hr⟩ := mem_ready_lt h.lsize hi
   have hie : i < e := by
    rcases Nat.lt_or_ge i e with h' | h'
    ·exact h'
    ·exfalso
     have hsk : s ≤ k := by
      rcases Nat.lt_or_ge k s with h'' | h''
      ·exact absurd (hlow k h'') hkl
      ·exact h''
     have he := bar i h' h1 k hsk hkf
     exact hkl (reach_listed (S := isL listed) (fun j' ed hj' he' => by
      obtain ⟨oj, ed, q1, q2, q3, rfl⟩ := mem_edges.1 he'
      exact h.down j' oj q1 hj' ed q2 q3) _ i k (fun ed he' => by
      obtain ⟨oj, ed, q1, q2, q3, rfl⟩ := mem_edges.1 he'
      rw [ho] at q1; cases q1
      exact hr ed q2 q3) he)
   have hisz : i < listed.size := by rw [h.lsize]; exact h1
   refine wpOp_mono (fun a' w' h' => ih _ a' w' ?_ (fun l hl => (isL_set hisz).2 (.inr (hlow l hl))) (fun k hk => ?_) h') (h.step hW hB hbl hs0 hdst hi (by omega) (hok i (by
     rcases Nat.lt_or_ge i s with h'' | h''
     ·exact absurd (hlow i h'') h2
     ·exact h'') hie))
   ·have := unl_set h.lsize h1 h2
    omega
   ·rcases (isL_set hisz).1 hk with rfl | hk
    ·exact hie
    ·exact hup k hk
end
theorem VCd.groupXs {P : Program} (T : Tab P) (W : Nat → Bool) {n : Nat} {ops : Array Oper} {E : Nat → D} {H : Heap} {Q : Exit → St → Prop} (H1 : Heap) (s st e f : Nat) (hbl : H1.blocks = H.blocks) (hs1 : s ≤ st) (hst : Nat.blt st e = true) (hef : Nat.ble e f = true) (hB : drawOk ops f = true) (hbar : barOk ops s e = true) (hd : ops.toList.all (dstOk n) = true)
  (hW : ∀ i, W i = true → hasEdge ops st i = true)
  (h : VCx T W st H H1 (fun E' => VCd P n ops e ⟨E', H1⟩ Q) (e - s) s (ops.toList.drop s) E) : VCd P n ops s ⟨E, H⟩ Q := by
 have hB := drawOk_spec hB
 have hef : e ≤ f := Nat.le_of_ble_eq_true hef
 have hst : st < e := by simpa using hst
 intro x a0 w hn' hn hs hsz hl0
 have hE0 : ∀ j, j ≤ s → envD ops E (fun k => match dstAt ops k with | some t => E t | none => .any) j = E := by
  intro j
  induction j with
  | zero => intro _; rfl
  | succ j ihj =>
   intro hj
   rw [envD, ihj (by omega)]
   cases hd' : dstAt ops j with
   | none => rfl
   | some t => exact upd_self rfl
 obtain ⟨res, hlo, hok, hK⟩ := VCx.extract (ops := ops) (E0 := E) (e - s) s (fun k => match dstAt ops k with | some t => E t | none => .any) (by rw [hE0 s (Nat.le_refl _)]; exact h)
 rw [show s + (e - s) = e by omega] at hK
 have hdst : ∀ k t, dstAt ops k = some t → t < x.n := fun k t hk => hn ▸ dsts_of (l := ops.toList) hd k t (by simpa using hk)
 have hno : ¬ isL hn' st := fun hk => by have := (hl0 st).1 hk; omega
 have hH0 : hof H H1 st hn' = H := by unfold hof; rw [if_neg hno]
 refine groupWs_any (x := x) (res := res) (E := E) (H := H) (H1 := H1) (st := st) (a0 := a0) (ws := w) (f := f) (s := s) hW hB hbl hs hef (fun i h1 h2 k h0 hk => barOk_spec hbar i h1 h2 k h0 hk) (fun j h0 hj => hok j h0 (by omega)) hdst ?_ _ hn' a0 w ?_ (fun k hk => (hl0 k).2 hk) (fun k hk => by have := (hl0 k).1 hk; omega) ?_
 ·intro listed a w' hl hF
  have hH1 : hof H H1 st listed = H1 := by unfold hof; rw [if_pos ((hl st).2 hst)]
  have hlv : live H1 x.L0 = live H x.L0 := live_eq hbl _
  refine hK x a w' listed hn ?_ hF.lsize hl
  have hevo := hF.evo
  have hinv := hF.inv
  rw [hH1] at hevo hinv
  refine { env := fun t => ?_, inv := hinv, evo := hs.evo.trans hevo, defers := hF.defers, size := hF.size }
  simp only
  rw [hlv]
  by_cases hex : ∃ k, k < e ∧ dstAt ops k = some t
  ·obtain ⟨k, hkf, hkt⟩ := hex
   rw [envD_some e hkf hkt (fun j hj hne hd' => hB.uniq k j (by omega) (by omega) hne (by rw [hkt]; simp) (by rw [hd', hkt]))]
   exact hF.slots k t ((hl k).2 hkf) hkt
  ·rw [envD_none e (fun k hk hd' => hex ⟨k, hk, hd'⟩), hF.rest t (fun k hk hd' => hex ⟨k, (hl k).1 hk, hd'⟩)]
   have hkeep := hevo.keeps (L0 := x.L0)
   rw [hlv] at hkeep
   exact Rel.mono hkeep _ _ (hs.env t)
 ·unfold unl
  have key : ∀ m, m ≤ ops.size → ((List.range m).filter fun k => !hn'.getD k true).length = m - s := by
   intro m
   induction m with
   | zero => intro _; simp
   | succ m ihm =>
    intro hm
    rw [List.range_succ, List.filter_append, List.length_append, ihm (by omega)]
    by_cases hmf : m < s
    ·have : hn'.getD m true = true := (getD_true (by rw [hsz]; omega)).2 ((hl0 m).2 hmf)
     rw [filter_one, this]; simp; omega
    ·have : hn'.getD m true = false := by
      cases hq : hn'.getD m true with
      | false => rfl
      | true => exact absurd ((hl0 m).1 ((getD_true (by rw [hsz]; omega)).1 hq)) hmf
     rw [filter_one, this]; simp; omega
  exact key ops.size (Nat.le_refl _)
 ·refine { lsize := hsz, down := fun k o ho hk ed he hb => (hl0 _).2 ?_, front := fun k hk => ?_, slots := fun k t hk hkt => ?_, rest := fun t _ => rfl, inv := by rw [hH0]; exact hs.inv, evo := by rw [hH0]; exact Evo.refl _ _, defers := hs.defers, size := hs.size }
  ·have h1 := hB.back k o ho ed he hb
   have h2 := (hl0 k).1 hk
   omega
  ·have := (hl0 k).1 hk; omega
  ·have h2 := (hl0 k).1 hk
   rw [hlo k h2, hkt]
   exact hs.env t
theorem VCd.groupWs {P : Program} (T : Tab P) {n : Nat} {ops : Array Oper} {E : Nat → D} {H : Heap} {Q : Exit → St → Prop} (H1 : Heap) (s st e f : Nat) (hbl : H1.blocks = H.blocks) (hs1 : s ≤ st) (hst : Nat.blt st e = true) (hef : Nat.ble e f = true) (hB : drawOk ops f = true) (hbar : barOk ops s e = true) (hd : ops.toList.all (dstOk n) = true)
  (h : VCw T st H H1 (fun E' => VCd P n ops e ⟨E', H1⟩ Q) (e - s) s (ops.toList.drop s) E) : VCd P n ops s ⟨E, H⟩ Q :=
 VCd.groupXs T (fun _ => false) H1 s st e f hbl hs1 hst hef hB hbar hd (fun _ h => by cases h) (by unfold VCw at h; exact h)
section
variable {P : Program} {ops : Array Oper} {f : Nat}
theorem sched_any (hB : DrawOk ops f) {Q : Exit → Act → World → Prop} {I : Array Bool → Act → World → Prop} {s e : Nat} (hef : e ≤ f) (bar : ∀ i, e ≤ i → i < ops.size → ∀ k, s ≤ k → k < e → hasEdge ops i k = true)
  (hsz : ∀ listed a w, I listed a w → listed.size = ops.size) (hdown : ∀ listed a w, I listed a w → ∀ k o, ops[k]? = some o → isL listed k → ∀ e ∈ o.after, Region.binds .any e = true → isL listed e.on)
  (hstep : ∀ listed a w i, I listed a w → i ∈ Region.ready .any ops listed → s ≤ i → i < e → wpOp P ops Q i (fun a' w' => I (listed.setIfInBounds i true) a' w') a w)
  (hfin : ∀ listed a w, (∀ k, isL listed k ↔ k < e) → I listed a w → wpAny P .any ops Q (ops.size - e) listed a w) :
  ∀ (fuel : Nat) (listed : Array Bool) (a : Act) (w : World), unl listed ops.size = fuel → (∀ k, k < s → isL listed k) → (∀ k, isL listed k → k < e) → I listed a w → wpAny P .any ops Q fuel listed a w := by
 have hes : e ≤ ops.size := Nat.le_trans hef hB.le
 intro fuel
 induction fuel with
 | zero =>
  intro listed a w hu hlow hup h
  have all : ∀ k, k < ops.size → isL listed k := fun k hk => unl_zero (hsz _ _ _ h) hu hk
  have hl : ∀ k, isL listed k ↔ k < e := fun k => ⟨hup k, fun hk => all k (by omega)⟩
  have he : ops.size - e = 0 := by
   rcases Nat.eq_or_lt_of_le hes with h' | h'
   ·omega
   ·have := hup e (all e h'); omega
  have := hfin listed a w hl h
  rwa [he] at this
 | succ fuel ih =>
  intro listed a w hu hlow hup h
  by_cases hall : ∀ k, k < e → isL listed k
  ·have hl : ∀ k, isL listed k ↔ k < e := fun k => ⟨hup k, hall k⟩
   have hcount : ops.size - e = fuel + 1 := by
    have key : ∀ m, m ≤ ops.size → ((List.range m).filter fun k => !listed.getD k true).length = m - e := by
     intro m
     induction m with
     | zero => intro _; simp
     | succ m ihm =>
      intro hm
      rw [List.range_succ, List.filter_append, List.length_append, ihm (by omega)]
      by_cases hmf : m < e
      ·have : listed.getD m true = true := (getD_true (by rw [(hsz _ _ _ h)]; omega)).2 ((hl m).2 hmf)
       rw [filter_one, this]; simp; omega
      ·have : listed.getD m true = false := by
        cases hq : listed.getD m true with
        | false => rfl
        | true => exact absurd ((hl m).1 ((getD_true (by rw [(hsz _ _ _ h)]; omega)).1 hq)) hmf
       rw [filter_one, this]; simp; omega
    have := key ops.size (Nat.le_refl _)
    unfold unl at hu
    omega
   have := hfin listed a w hl h
   rwa [hcount] at this
  ·have hex : ∃ k, k < e ∧ ¬ isL listed k := by
    refine Classical.byContradiction fun hn => hall fun k hk => Classical.byContradiction fun hkl => hn ⟨k, hk, hkl⟩
   have least : ∀ m, ∀ k, k ≤ m → k < e → ¬ isL listed k → ∃ k', k' < e ∧ ¬ isL listed k' ∧ ∀ l, l < k' → isL listed l := by
    intro m
    induction m with
    | zero => intro k hk hkf hkl; exact ⟨k, hkf, hkl, fun l hl => by omega⟩
    | succ m ihm =>
     intro k hk hkf hkl
     by_cases hp : ∀ l, l < k → isL listed l
     ·exact ⟨k, hkf, hkl, hp⟩
     ·have : ∃ l, l < k ∧ ¬ isL listed l := Classical.byContradiction fun hn => hp fun l hl => Classical.byContradiction fun hll => hn ⟨l, hl, hll⟩
      obtain ⟨l, h1, h2⟩ := this
      exact ihm l (by omega) (by omega) h2
   obtain ⟨k0, hk0f, hk0⟩ := hex
   obtain ⟨k, hkf, hkl, hkp⟩ := least k0 k0 (Nat.le_refl _) hk0f hk0
   have hks : k < ops.size := Nat.lt_of_lt_of_le hkf hes
   have hready : k ∈ Region.ready .any ops listed := by
    refine mem_ready.2 ⟨?_, ops[k], by simp [hks], fun ed he hb => ?_⟩
    ·cases hq : listed.getD k true with
     | false => rfl
     | true => exact absurd ((getD_true (by rw [(hsz _ _ _ h)]; omega)).1 hq) hkl
    ·have hlt := hB.back k ops[k] (by simp [hks]) ed he hb
     have := hkp ed.on hlt
     unfold isL at this
     rw [Array.getD_eq_getD_getElem?, this]; rfl
   refine ⟨fun h0 => by rw [h0] at hready; exact absurd hready List.not_mem_nil, fun i hi => ?_⟩
   obtain ⟨h1, h2, o, ho, hr⟩ := mem_ready_lt (hsz _ _ _ h) hi
   have hie : i < e := by
    rcases Nat.lt_or_ge i e with h' | h'
    ·exact h'
    ·exfalso
     have hsk : s ≤ k := by
      rcases Nat.lt_or_ge k s with h'' | h''
      ·exact absurd (hlow k h'') hkl
      ·exact h''
     have he := bar i h' h1 k hsk hkf
     exact hkl (reach_listed (S := isL listed) (fun j' ed hj' he' => by
      obtain ⟨oj, ed, q1, q2, q3, rfl⟩ := mem_edges.1 he'
      exact hdown _ _ _ h j' oj q1 hj' ed q2 q3) _ i k (fun ed he' => by
      obtain ⟨oj, ed, q1, q2, q3, rfl⟩ := mem_edges.1 he'
      rw [ho] at q1; cases q1
      exact hr ed q2 q3) he)
   have hisz : i < listed.size := by rw [(hsz _ _ _ h)]; exact h1
   have hsi : s ≤ i := by
    rcases Nat.lt_or_ge i s with h'' | h''
    ·exact absurd (hlow i h'') h2
    ·exact h''
   refine wpOp_mono (fun a' w' h' => ih _ a' w' ?_ (fun l hl => (isL_set hisz).2 (.inr (hlow l hl))) (fun k hk => ?_) h') (hstep _ _ _ i h hi hsi hie)
   ·have := unl_set (hsz _ _ _ h) h1 h2
    omega
   ·rcases (isL_set hisz).1 hk with rfl | hk
    ·exact hie
    ·exact hup k hk
end
section
variable {P : Program} {x : Ctx} {ops : Array Oper} {f : Nat} {H : Heap} {E : Nat → D} {a0 : Act} {ws : World}
theorem hof_same (H : Heap) (st : Nat) (listed : Array Bool) : hof H H st listed = H := by unfold hof; split <;> rfl
def RBok (P : Program) (ops : Array Oper) (E : Nat → D) (s st e : Nat) (resA : Nat → D) (KB : (Nat → D) → Heap → Prop) (d : D) (H1 : Heap) (resB : Nat → D) : Prop :=
 (∀ k, k ≠ st → hasEdge ops k st = false → resB k = resA k) ∧ resB st = d ∧
 (∀ j, s ≤ j → j < e → j ≠ st → hasEdge ops st j = false → ∃ o, ops[j]? = some o ∧ o.guard = none ∧ OpS P o (evD (envD ops E resB j)) H1 (fun d' H' => d' = resB j ∧ H' = H1)) ∧ KB (envD ops E resB e) H1
def NInv (P : Program) (x : Ctx) (ops : Array Oper) (f : Nat) (H : Heap) (E : Nat → D) (a0 : Act) (ws : World) (s st e : Nat) (resA : Nat → D) (KB : (Nat → D) → Heap → Prop) (listed : Array Bool) (a : Act) (w : World) : Prop :=
 (¬ isL listed st ∧ GInv x ops f ops.size resA H H a0 ws listed a w) ∨
 (isL listed st ∧ ∃ d H1 resB w0, RBok P ops E s st e resA KB d H1 resB ∧ SRel x ⟨E, H1⟩ a0 w0 ∧ GInv x ops f ops.size resB H1 H1 a0 w0 listed a w)
theorem NInv.step {s st e : Nat} {resA : Nat → D} {KB : (Nat → D) → Heap → Prop} (hB : DrawOk ops f) (hs0 : SRel x ⟨E, H⟩ a0 ws) (hef : e ≤ f) {Q : Exit → Act → World → Prop} (hdst : ∀ k t, dstAt ops k = some t → t < x.n)
    (hA : ∀ j, s ≤ j → j < e → j ≠ st → hasEdge ops j st = false → ∃ o, ops[j]? = some o ∧ o.guard = none ∧ OpS P o (evD (envD ops E resA j)) H (fun d' H' => d' = resA j ∧ H' = H))
    (hS : ∃ o, ops[st]? = some o ∧ o.guard = none ∧ OpS P o (evD (envD ops E resA st)) H (fun d' H' => ∃ resB, RBok P ops E s st e resA KB d' H' resB))
    (listed : Array Bool) (a : Act) (w : World) (i : Nat) (h : NInv P x ops f H E a0 ws s st e resA KB listed a w) (hr : i ∈ Region.ready .any ops listed) (hsi : s ≤ i) (hie : i < e) :
    wpOp P ops Q i (fun a' w' => NInv P x ops f H E a0 ws s st e resA KB (listed.setIfInBounds i true) a' w') a w := by
  rcases h with ⟨hst, h⟩ | ⟨hst, d, H1, resB, w0, hRB, hs1, h⟩
  · obtain ⟨hisz, hil, o, ho, hready⟩ := mem_ready_lt h.lsize hr
    have hisz' : i < listed.size := by rw [h.lsize]; exact hisz
    have hm : ∀ k, isL (listed.setIfInBounds i true) k ↔ k = i ∨ isL listed k := fun k => isL_set hisz'
    by_cases hi : i = st
    · subst hi
      obtain ⟨o', ho', hg, hop⟩ := hS
      rw [ho] at ho'; cases ho'
      have hdi : dstAt ops i = o.dst := by simp [dstAt, ho]
      have hdn : ∀ t, o.dst = some t → t < x.n := fun t ht => hdst i t (by rw [hdi, ht])
      have ev := fun y hy => h.ev hB rfl hs0 ho (by omega) hil hready y hy
      have hinv := h.inv
      have hevo := h.evo
      rw [hof_same] at hinv hevo
      have notE : ∀ k, isL listed k → hasEdge ops k i = false := fun k hk => by
        cases hq : hasEdge ops k i with
        | false => rfl
        | true => exact absurd (reach_listed (S := isL listed) (fun j' ed hj' he' => by
            obtain ⟨oj, ed, q1, q2, q3, rfl⟩ := mem_edges.1 he'
            exact h.down j' oj q1 hj' ed q2 q3) _ k i (fun ed he' => by
            obtain ⟨oj, ed, q1, q2, q3, rfl⟩ := mem_edges.1 he'
            exact h.down k oj q1 hk ed q2 q3) hq) hst
      unfold wpOp
      rw [ho]
      simp only
      rw [if_pos (by simp [Region.wanted, hg])]
      refine .inl ((hop w x.L0 a.eval hinv ev).upon ?_)
      rintro v w' ⟨d, H1, ⟨resB, hRB⟩, hv, hi', he⟩
      have hkeep : Keeps w (live H x.L0) w' (live H1 x.L0) := he.keeps
      have hevo2 : Evo ws H w' H1 := hevo.trans he
      refine .inr ⟨(hm i).2 (.inl rfl), d, H1, resB, w', hRB, { env := fun t => Rel.mono hevo2.keeps _ _ (hs0.env t), inv := hi', evo := hs0.evo.trans hevo2, defers := hs0.defers, size := hs0.size }, ?_⟩
      refine { lsize := by simp [h.lsize], down := ?_, front := ?_, slots := ?_, rest := ?_, inv := by rw [hof_same]; exact hi', evo := by rw [hof_same]; exact Evo.refl _ _, defers := ?_, size := ?_ }
      · intro k ok hok hk e he' hb
        rw [hm] at hk ⊢
        rcases hk with rfl | hk
        · rw [ho] at hok; cases hok
          exact .inr (hready e he' hb)
        · exact .inr (h.down k ok hok hk e he' hb)
      · intro k hk
        rcases (hm k).1 hk with rfl | hk
        · omega
        · exact h.front k hk
      · intro k t hk hkt
        rcases (hm k).1 hk with rfl | hk
        · rw [hdi] at hkt
          rw [getD_put h.size, if_pos ⟨hkt, hdn t hkt⟩, hRB.2.1]
          exact hv
        · have hne' : k ≠ i := fun e => hil (e ▸ hk)
          rw [getD_put h.size, if_neg, hRB.1 k hne' (notE k hk)]
          · exact Rel.mono hkeep _ _ (h.slots k t hk hkt)
          · rintro ⟨h1, _⟩
            rw [← hdi] at h1
            exact hB.uniq i k (by omega) (h.front k hk) hne' (by rw [h1]; simp) (by rw [hkt, h1])
      · intro t hno
        rw [getD_put h.size, if_neg]
        · exact h.rest t fun k hk => hno k ((hm k).2 (.inr hk))
        · rintro ⟨h1, _⟩
          exact hno i ((hm i).2 (.inl rfl)) (by rw [hdi, h1])
      · cases o.dst <;> exact h.defers
      · cases o.dst <;> simp [Act.put, h.size]
    · have hE : hasEdge ops i st = false := by
        cases hq : hasEdge ops i st with
        | false => rfl
        | true => exact absurd (reach_listed (S := isL listed) (fun j' ed hj' he' => by
            obtain ⟨oj, ed, q1, q2, q3, rfl⟩ := mem_edges.1 he'
            exact h.down j' oj q1 hj' ed q2 q3) _ i st (fun ed he' => by
            obtain ⟨oj, ed, q1, q2, q3, rfl⟩ := mem_edges.1 he'
            rw [ho] at q1; cases q1
            exact hready ed q2 q3) hq) hst
      obtain ⟨o', ho', hg, hop⟩ := hA i hsi hie hi hE
      refine wpOp_mono (fun a' w' h' => .inl ⟨fun hq => ?_, h'⟩) (h.step (W := fun _ => false) (fun _ h => by cases h) hB rfl hs0 hdst hr (by omega) ⟨o', ho', hg, fun _ => ⟨hop, .inr hop⟩, fun e => absurd hisz (by omega)⟩)
      rcases (hm st).1 hq with hq | hq
      · exact hi hq.symm
      · exact hst hq
  · obtain ⟨hisz, hil, o, ho, hready⟩ := mem_ready_lt h.lsize hr
    have hisz' : i < listed.size := by rw [h.lsize]; exact hisz
    have hm : ∀ k, isL (listed.setIfInBounds i true) k ↔ k = i ∨ isL listed k := fun k => isL_set hisz'
    have hi : i ≠ st := fun e => hil (e ▸ hst)
    have hE : hasEdge ops st i = false := by
      cases hq : hasEdge ops st i with
      | false => rfl
      | true => exact absurd (reach_listed (S := isL listed) (fun j' ed hj' he' => by
            obtain ⟨oj, ed, q1, q2, q3, rfl⟩ := mem_edges.1 he'
            exact h.down j' oj q1 hj' ed q2 q3) _ st i (fun ed he' => by
            obtain ⟨oj, ed, q1, q2, q3, rfl⟩ := mem_edges.1 he'
            exact h.down st oj q1 hst ed q2 q3) hq) hil
    obtain ⟨o', ho', hg, hop⟩ := hRB.2.2.1 i hsi hie hi hE
    exact wpOp_mono (fun a' w' h' => .inr ⟨(hm st).2 (.inr hst), d, H1, resB, w0, hRB, hs1, h'⟩) (h.step (W := fun _ => false) (fun _ h => by cases h) hB rfl hs1 hdst hr (by omega) ⟨o', ho', hg, fun _ => ⟨hop, .inr hop⟩, fun e => absurd hisz (by omega)⟩)
end
def NW (R : Nat → Oper → (Nat → D) → D → Prop) (K : (Nat → D) → (Nat → D) → Prop) : Nat → Nat → List Oper → (Nat → D) → (Nat → D) → Prop
 | 0, _, _, E, r => K E r
 | _ + 1, _, [], _, _ => False
 | m + 1, i, o :: l, E, r => ∃ d, R i o E d ∧ NW R K m (i + 1) l (updO E o.dst d) (fun k => if k = i then d else r k)
theorem NW.extract {R : Nat → Oper → (Nat → D) → D → Prop} {K : (Nat → D) → (Nat → D) → Prop} {ops : Array Oper} {E0 : Nat → D} : ∀ (m i : Nat) (res0 : Nat → D), NW R K m i (ops.toList.drop i) (envD ops E0 res0 i) res0 →
  ∃ res : Nat → D, (∀ k, k < i → res k = res0 k) ∧ (∀ k, i + m ≤ k → res k = res0 k) ∧ (∀ j, i ≤ j → j < i + m → ∃ o, ops[j]? = some o ∧ R j o (envD ops E0 res j) (res j)) ∧ K (envD ops E0 res (i + m)) res
 | 0, i, res0, h => ⟨res0, fun _ _ => rfl, fun _ _ => rfl, fun j h1 h2 => by omega, h⟩
 | m + 1, i, res0, h => by
  cases hl : ops.toList.drop i with
  | nil => rw [hl] at h; exact h.elim
  | cons o l =>
   rw [hl] at h
   obtain ⟨d, h1, h2⟩ := h
   have hi : ops[i]? = some o := by
    have : (ops.toList.drop i)[0]? = some o := by rw [hl]; rfl
    rw [List.getElem?_drop] at this
    simpa using this
   have hl' : l = ops.toList.drop (i + 1) := by
    have : ops.toList.drop (i + 1) = (ops.toList.drop i).drop 1 := by rw [List.drop_drop]
    rw [this, hl]; rfl
   let res1 : Nat → D := fun k => if k = i then d else res0 k
   have e1 : ∀ j, j ≤ i → envD ops E0 res1 j = envD ops E0 res0 j := by
    intro j
    induction j with
    | zero => intro _; rfl
    | succ j ihj =>
     intro hj
     rw [envD, envD, ihj (by omega)]
     have : res1 j = res0 j := by simp only [res1]; rw [if_neg (by omega)]
     rw [this]
   have e2 : envD ops E0 res1 (i + 1) = updO (envD ops E0 res0 i) o.dst d := by
    rw [envD, e1 i (Nat.le_refl _)]
    have : res1 i = d := by simp [res1]
    rw [this]
    simp [dstAt, hi]
   rw [hl', ← e2] at h2
   obtain ⟨res, q1, q0, q2, q3⟩ := NW.extract m (i + 1) res1 h2
   have e3 : ∀ j, j ≤ i + 1 → envD ops E0 res j = envD ops E0 res1 j := by
    intro j
    induction j with
    | zero => intro _; rfl
    | succ j ihj =>
     intro hj
     rw [envD, envD, ihj (by omega), q1 j (by omega)]
   refine ⟨res, fun k hk => ?_, fun k hk => ?_, fun j hj1 hj2 => ?_, ?_⟩
   ·rw [q1 k (by omega)]
    simp only [res1]; rw [if_neg (by omega)]
   ·rw [q0 k (by omega)]
    simp only [res1]; rw [if_neg (by omega)]
   ·rcases Nat.eq_or_lt_of_le hj1 with rfl | hlt
    ·refine ⟨o, hi, ?_⟩
     rw [e3 _ (by omega), e1 _ (Nat.le_refl _), q1 _ (by omega)]
     have : res1 i = d := by simp [res1]
     rw [this]
     exact h1
    ·exact q2 j (by omega) (by omega)
   ·rw [show i + (m + 1) = i + 1 + m by omega]
    exact q3
def NRA (P : Program) (ops : Array Oper) (st : Nat) (H : Heap) (Φ : D → Heap → Prop) (i : Nat) (o : Oper) (E : Nat → D) (d : D) : Prop :=
 o.guard = none ∧ (i = st → OpS P o (evD E) H Φ) ∧ (i ≠ st → hasEdge ops i st = false → OpS P o (evD E) H (fun d' H' => d' = d ∧ H' = H))
def NRB (P : Program) (ops : Array Oper) (st : Nat) (d0 : D) (H1 : Heap) (rA : Nat → D) (i : Nat) (o : Oper) (E : Nat → D) (d : D) : Prop :=
 o.guard = none ∧ (i = st → d = d0) ∧ (i ≠ st → hasEdge ops i st = false → d = rA i) ∧ (i ≠ st → hasEdge ops st i = false → OpS P o (evD E) H1 (fun d' H' => d' = d ∧ H' = H1))
def baseR (ops : Array Oper) (E : Nat → D) : Nat → D := fun k => match dstAt ops k with | some t => E t | none => .any
theorem envD_base {ops : Array Oper} {E : Nat → D} : ∀ j, envD ops E (baseR ops E) j = E
 | 0 => rfl
 | j + 1 => by
  rw [envD, envD_base j]
  unfold baseR
  cases hd' : dstAt ops j with
  | none => rfl
  | some t => exact upd_self rfl
theorem VCd.groupN {P : Program} (T : Tab P) {n : Nat} {ops : Array Oper} {E : Nat → D} {H : Heap} {Q : Exit → St → Prop} (Φ : D → Heap → Prop) (s st e f : Nat) (hs1 : Nat.ble s st = true) (hst : Nat.blt st e = true) (hef : Nat.ble e f = true) (hB : drawOk ops f = true) (hbar : barOk ops s e = true) (hd : ops.toList.all (dstOk n) = true)
  (h : NW (NRA P ops st H Φ) (fun _ rA => ∀ d H1, Φ d H1 → NW (NRB P ops st d H1 rA) (fun E' _ => VCd P n ops e ⟨E', H1⟩ Q) (e - s) s (ops.toList.drop s) E (baseR ops E)) (e - s) s (ops.toList.drop s) E (baseR ops E)) : VCd P n ops s ⟨E, H⟩ Q := by
 have hB := drawOk_spec hB
 have hef : e ≤ f := Nat.le_of_ble_eq_true hef
 have hst : st < e := by simpa using hst
 have hs1 : s ≤ st := Nat.le_of_ble_eq_true hs1
 intro x a0 w hn' hn hs hsz hl0
 obtain ⟨resA, a1, a2, a3, a4⟩ := NW.extract (ops := ops) (E0 := E) (e - s) s (baseR ops E) (by rw [envD_base]; exact h)
 rw [show s + (e - s) = e by omega] at a2 a3
 have hdst : ∀ k t, dstAt ops k = some t → t < x.n := fun k t hk => hn ▸ dsts_of (l := ops.toList) hd k t (by simpa using hk)
 have hno : ¬ isL hn' st := fun hk => by have := (hl0 st).1 hk; omega
 have hA : ∀ j, s ≤ j → j < e → j ≠ st → hasEdge ops j st = false → ∃ o, ops[j]? = some o ∧ o.guard = none ∧ OpS P o (evD (envD ops E resA j)) H (fun d' H' => d' = resA j ∧ H' = H) := fun j h1 h2 h3 h4 => by
  obtain ⟨o, ho, hg, _, hq⟩ := a3 j h1 h2
  exact ⟨o, ho, hg, hq h3 h4⟩
 have hS : ∃ o, ops[st]? = some o ∧ o.guard = none ∧ OpS P o (evD (envD ops E resA st)) H (fun d' H' => ∃ resB, RBok P ops E s st e resA (fun E' H1 => VCd P n ops e ⟨E', H1⟩ Q) d' H' resB) := by
  obtain ⟨o, ho, hg, hq, _⟩ := a3 st hs1 hst
  refine ⟨o, ho, hg, (hq rfl).mono fun d H1 hΦ => ?_⟩
  obtain ⟨resB, b1, b2, b3, b4⟩ := NW.extract (ops := ops) (E0 := E) (e - s) s (baseR ops E) (by rw [envD_base]; exact a4 d H1 hΦ)
  rw [show s + (e - s) = e by omega] at b2 b3 b4
  refine ⟨resB, fun k h1 h2 => ?_, ?_, fun j h1 h2 h3 h4 => ?_, b4⟩
  ·rcases Nat.lt_or_ge k s with h3 | h3
   ·rw [b1 k h3, a1 k h3]
   ·rcases Nat.lt_or_ge k e with h4 | h4
    ·obtain ⟨_, _, _, _, hq, _⟩ := b3 k h3 h4
     exact hq h1 h2
    ·rw [b2 k h4, a2 k h4]
  ·obtain ⟨_, _, _, hq, _⟩ := b3 st hs1 hst
   exact hq rfl
  ·obtain ⟨o, ho, hg, _, _, hq⟩ := b3 j h1 h2
   exact ⟨o, ho, hg, hq h3 h4⟩
 refine sched_any (I := NInv P x ops f H E a0 w s st e resA (fun E' H1 => VCd P n ops e ⟨E', H1⟩ Q)) hB hef (fun i h1 h2 k h0 hk => barOk_spec hbar i h1 h2 k h0 hk) (fun l a w' h => ?_) (fun l a w' h => ?_)
  (fun l a w' i h hr h1 h2 => NInv.step hB hs hef hdst hA hS l a w' i h hr h1 h2) ?_ _ hn' a0 w ?_ (fun k hk => (hl0 k).2 hk) (fun k hk => by have := (hl0 k).1 hk; omega) (.inl ⟨hno, ?_⟩)
 ·rcases h with ⟨_, h⟩ | ⟨_, _, _, _, _, _, _, h⟩ <;> exact h.lsize
 ·rcases h with ⟨_, h⟩ | ⟨_, _, _, _, _, _, _, h⟩ <;> exact h.down
 ·intro listed a w' hl hF
  rcases hF with ⟨h0, _⟩ | ⟨_, d, H1, resB, w0, hRB, hs2, hF⟩
  ·exact absurd ((hl st).2 hst) h0
  refine hRB.2.2.2 x a w' listed hn ?_ hF.lsize hl
  have hevo := hF.evo
  have hinv := hF.inv
  rw [hof_same] at hevo hinv
  refine { env := fun t => ?_, inv := hinv, evo := hs2.evo.trans hevo, defers := hF.defers, size := hF.size }
  simp only
  by_cases hex : ∃ k, k < e ∧ dstAt ops k = some t
  ·obtain ⟨k, hkf, hkt⟩ := hex
   rw [envD_some e hkf hkt (fun j hj hne hd' => hB.uniq k j (by omega) (by omega) hne (by rw [hkt]; simp) (by rw [hd', hkt]))]
   exact hF.slots k t ((hl k).2 hkf) hkt
  ·rw [envD_none e (fun k hk hd' => hex ⟨k, hk, hd'⟩), hF.rest t (fun k hk hd' => hex ⟨k, (hl k).1 hk, hd'⟩)]
   exact Rel.mono (hevo.keeps (L0 := x.L0)) _ _ (hs2.env t)
 ·unfold unl
  have key : ∀ m, m ≤ ops.size → ((List.range m).filter fun k => !hn'.getD k true).length = m - s := by
   intro m
   induction m with
   | zero => intro _; simp
   | succ m ihm =>
    intro hm
    rw [List.range_succ, List.filter_append, List.length_append, ihm (by omega)]
    by_cases hmf : m < s
    ·have : hn'.getD m true = true := (getD_true (by rw [hsz]; omega)).2 ((hl0 m).2 hmf)
     rw [filter_one, this]; simp; omega
    ·have : hn'.getD m true = false := by
      cases hq : hn'.getD m true with
      | false => rfl
      | true => exact absurd ((hl0 m).1 ((getD_true (by rw [hsz]; omega)).1 hq)) hmf
     rw [filter_one, this]; simp; omega
  exact key ops.size (Nat.le_refl _)
 ·refine { lsize := hsz, down := fun k o ho hk ed he hb => (hl0 _).2 ?_, front := fun k hk => ?_, slots := fun k t hk hkt => ?_, rest := fun t _ => rfl, inv := by rw [hof_same]; exact hs.inv, evo := by rw [hof_same]; exact Evo.refl _ _, defers := hs.defers, size := hs.size }
  ·have h1 := hB.back k o ho ed he hb
   have h2 := (hl0 k).1 hk
   omega
  ·have := (hl0 k).1 hk; omega
  ·have h2 := (hl0 k).1 hk
   have e0 : resA k = E t := by rw [a1 k h2]; unfold baseR; rw [hkt]
   rw [e0]
   exact hs.env t
theorem FzR_flat {H : Heap} {esz : Nat} (rows : List (List D)) (h : ∀ r, r ∈ rows → r.length = esz) : FzR H esz rows (rows.flatten.drop 0) := by
 rw [List.drop_zero]; exact FzR.refl _ rows h
theorem Weak_fz3 {env : Nat → D} {A B : Nat × HC} {g : Option (Nat × Nat)} {e : TypeId} {esz : Nat} {rows : List (List D)} {X : Heap} {t : Nat} (he : env t = .gs g rows.length) (hr : ∀ r, r ∈ rows → r.length = esz) :
  Weak ⟨env, A :: B :: shp g e esz rows.flatten X⟩ ⟨upd env t (.sl false esz rows), A :: B :: X⟩ := fun x a w h => by
 cases g with
 | none =>
  have hg : gOk none rows.length := by have q : Rel w (live _ x.L0) (env t) _ := h.env t; rw [he, Rel] at q; exact q.2
  have h0 : rows = [] := List.length_eq_zero_iff.1 hg
  subst h0
  exact Weak.fz (H1 := []) (by rw [he]; exact fz_nil) (fun b c hb => by cases hb) (List.Sublist.refl _) x a w h
 | some p =>
  obtain ⟨b, cap⟩ := p
  have hn : (Heap.blocks (A :: B :: (b, HC.cells e (cap * esz) rows.flatten) :: X)).Nodup := h.inv.nodup
  refine Weak.fz (H1 := [(b, HC.cells e (cap * esz) rows.flatten)]) (H' := A :: B :: X) ?_ ?_ ?_ x a w h
  ·rw [he]
   exact .inr ⟨rfl, .inr (.inr ⟨b, 0, rows.length, cap, .inl ⟨rfl, rfl⟩, rfl, e, cap * esz, rows.flatten, List.mem_singleton.2 rfl, FzR_flat rows hr⟩)⟩
  ·intro b' c' hb
   simp only [List.mem_singleton, Prod.mk.injEq] at hb
   obtain ⟨rfl, rfl⟩ := hb
   refine ⟨by simp [shp], ?_⟩
   simp only [Heap.blocks, List.map_cons, List.nodup_cons, List.mem_cons, not_or] at hn ⊢
   exact ⟨fun e => hn.1.2.1 e.symm, fun e => hn.2.1.1 e.symm, hn.2.2.1⟩
  ·exact List.Sublist.cons_cons _ (List.Sublist.cons_cons _ (List.sublist_cons_self _ _))
theorem VCd.take2 {P : Program} {n : Nat} {ops : Array Oper} {j : Nat} {E : Nat → D} {H : Heap} {Q : Exit → St → Prop} {o : Oper} {t s : Tmp} (ho : ops[j]? = some o) (hop : o.op = .move (.tmp t)) (hd : o.dst = some s) (hg : o.guard = none) (hsn : Nat.blt s n = true)
  (haf : (o.after.all fun e => !Region.binds .any e) = true) (hsel : Region.noSelect ops = true) (hfl : floatOk ops j o = true) (hQ : ∀ c s', ¬ Q (.panic c) s') (h : VCd P n ops (j + 1) ⟨upd E s (E t), H⟩ Q) : VCd P n ops j ⟨E, H⟩ Q := by
 intro x a w listed hn hs hsz hl
 have hlt : j < ops.size := (Array.getElem?_eq_some_iff.1 ho).1
 rw [show ops.size - j = (ops.size - (j + 1)) + 1 by omega]
 have hun : listed.getD j true = false := by
  cases hq : listed.getD j true with
  | false => rfl
  | true => exact absurd ((hl j).1 ((getD_true (by omega)).1 hq)) (by omega)
 refine wpAny_first (v := a.eval (.tmp t)) ho (Region.noSelect_spec hsel) (fun c a w ⟨s', h1, _⟩ => absurd h1 (hQ c s')) _ listed a w ?_ ?_ ?_ ?_
 ·intro k ok hk hkj hku hno
  have hks : k < ops.size := (Array.getElem?_eq_some_iff.1 hk).1
  have h1 := List.all_eq_true.1 hfl k (List.mem_range.2 hks)
  simp only [hk, Bool.or_eq_true] at h1
  rcases h1 with h1 | h1 | h1
  ·have := Nat.le_of_ble_eq_true h1
   have h2 := (hl k).2 (by omega)
   have h3 := (getD_true (by omega)).2 h2
   rw [hku] at h3
   cases h3
  ·obtain ⟨e, he, hb⟩ := Array.any_eq_true'.1 h1
   simp only [Bool.and_eq_true, beq_iff_eq] at hb
   exact absurd hb.2 (hno e he hb.1)
  ·exact h1
 ·exact mem_ready.2 ⟨hun, o, ho, fun e he hb => by have h1 := Array.all_eq_true_iff_forall_mem.1 haf e he; rw [hb] at h1; cases h1⟩
 ·refine .inl ⟨by simp [Region.wanted, hg], fun w => ?_⟩
  simp only [execOp, hop]
  rfl
 ·rw [hd]
  have hp := hs.put (dst := some s) (d := E t) (v := a.eval (.tmp t)) (fun t' ht => by cases ht; rw [hn]; exact Nat.blt_eq.mp hsn) (hs.env t) hs.inv (Evo.refl _ _)
  exact h x _ w _ hn hp (by simp [hsz]) (fun k => by rw [isL_set (by omega), hl k]; omega)
section
variable {P : Program} (T : Tab P) {ops : Array Oper} {st i m : Nat} {o : Oper} {l : List Oper} {H H1 : Heap} {Φ : D → Heap → Prop} {E : Nat → D} {r rA : Nat → D} {d d0 : D} {K : (Nat → D) → (Nat → D) → Prop}
theorem opS_all (h : opC T o (evD E) H Φ) : OpS P o (evD E) H Φ := by
 obtain ⟨Ψ, h1, h2⟩ := opC_sound T h
 exact h1.mono h2
theorem NW.nil {R : Nat → Oper → (Nat → D) → D → Prop} (h : K E r) : NW R K 0 i l E r := h
theorem NW.stepA (hi : Nat.beq i st = false) (hg : o.guard = none) (h : opC T o (evD E) H (fun d' H' => d' = d ∧ H' = H)) (k : NW (NRA P ops st H Φ) K m (i + 1) l (updO E o.dst d) (fun k => if k = i then d else r k)) : NW (NRA P ops st H Φ) K (m + 1) i (o :: l) E r :=
 ⟨d, ⟨hg, fun e => absurd e (Nat.ne_of_beq_eq_false hi), fun _ _ => opS_of T h⟩, k⟩
theorem NW.atA (hi : Nat.beq i st = true) (hg : o.guard = none) (h : opC T o (evD E) H Φ) (k : NW (NRA P ops st H Φ) K m (i + 1) l (updO E o.dst .any) (fun k => if k = i then .any else r k)) : NW (NRA P ops st H Φ) K (m + 1) i (o :: l) E r :=
 ⟨.any, ⟨hg, fun _ => opS_all T h, fun e => absurd (Nat.eq_of_beq_eq_true hi) e⟩, k⟩
theorem NW.stepB (hi : Nat.beq i st = false) (hg : o.guard = none) (h : opC T o (evD E) H1 (fun d' H' => d' = d ∧ H' = H1)) (hd : rA i = d) (k : NW (NRB P ops st d0 H1 rA) K m (i + 1) l (updO E o.dst d) (fun k => if k = i then d else r k)) : NW (NRB P ops st d0 H1 rA) K (m + 1) i (o :: l) E r :=
 ⟨d, ⟨hg, fun e => absurd e (Nat.ne_of_beq_eq_false hi), fun _ _ => hd.symm, fun _ _ => opS_of T h⟩, k⟩
theorem NW.ancB (H : Heap) (hi : Nat.beq i st = false) (hg : o.guard = none) (he : hasEdge ops st i = true) (h : opC T o (evD E) H (fun d' H' => d' = d ∧ H' = H)) (hd : rA i = d) (k : NW (NRB P ops st d0 H1 rA) K m (i + 1) l (updO E o.dst d) (fun k => if k = i then d else r k)) : NW (NRB P ops st d0 H1 rA) K (m + 1) i (o :: l) E r :=
 ⟨d, ⟨hg, fun e => absurd e (Nat.ne_of_beq_eq_false hi), fun _ _ => hd.symm, fun _ h => by rw [he] at h; cases h⟩, k⟩
theorem NW.atB (hi : Nat.beq i st = true) (hg : o.guard = none) (k : NW (NRB P ops st d0 H1 rA) K m (i + 1) l (updO E o.dst d0) (fun k => if k = i then d0 else r k)) : NW (NRB P ops st d0 H1 rA) K (m + 1) i (o :: l) E r :=
 ⟨d0, ⟨hg, fun _ => rfl, fun e => absurd (Nat.eq_of_beq_eq_true hi) e, fun e => absurd (Nat.eq_of_beq_eq_true hi) e⟩, k⟩
end
end Go.Proofs.YtomcmfbpmkklmaaGreat
