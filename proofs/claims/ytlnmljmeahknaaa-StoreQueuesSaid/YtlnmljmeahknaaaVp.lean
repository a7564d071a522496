/- A region that draws its order: the rule. No condition. -/
import Derived.Test.YtlnmljmeahknaaaVo
namespace Go.Vc
set_option linter.unusedSimpArgs false
open Go
set_option linter.unusedVariables false

theorem evo_drew (w : World) (H : Heap) : Evo w H w.drew H := ⟨rfl, rfl, rfl, Nat.le_refl _, fun _ _ _ => rfl, fun _ h => .inl h⟩

theorem SRel.drew {x : Ctx} {s : St} {a : Act} {w : World} (h : SRel x s a w) : SRel x s a w.drew where
  env t := Rel.mono (evo_drew w s.heap).keeps _ _ (h.env t)
  inv := { rel := fun b c hm => (h.inv.rel b c hm).mono (evo_drew w s.heap).keeps rfl, nodup := h.inv.nodup, apart := h.inv.apart, old := h.inv.old }
  evo := h.evo.trans (evo_drew w _)
  defers := h.defers
  size := h.size

section
variable {P : Program} {x : Ctx} {ops : Array Oper} {f : Nat} {res : Nat → FRes} {H : Heap} {E : Nat → D} {a0 : Act} {ws : World}

/-- What is still to be laid open of the new blocks. -/
def Lrem (L0 : Nat → Prop) (res : Nat → FRes) (blk : Nat → Nat) (f i : Nat) : Nat → Prop := fun b => L0 b ∨ ∃ k ty z, i ≤ k ∧ k < f ∧ res k = .new ty z ∧ blk k = b

theorem lay_new (hB : DrawOk ops f) (hs0 : SRel x ⟨E, H⟩ a0 ws) {blk : Nat → Nat} {listed : Array Bool} {a : Act} {w : World} (h : FInv x ops f res H a0 ws blk listed a w) (hl : ∀ k, isL listed k ↔ k < f)
    (hdst : ∀ j ty z, j < f → res j = .new ty z → ∃ t, dstAt ops j = some t) {K : (Nat → D) → Heap → Prop} :
    ∀ (m i : Nat) (E1 : Nat → D) (H1 : Heap), i + m = f → allK (newsG ops res i m) E1 H1 K →
      (∀ t, Rel w (live H (L1 x.L0 res blk listed)) (E1 t) (a.tmps.getD t undef)) → HInv w (Lrem x.L0 res blk f i) H1 → (∀ b, live H1 (Lrem x.L0 res blk f i) b ↔ live H (L1 x.L0 res blk listed) b) → Evo ws H w H1 →
      ∃ E2 H2, K E2 H2 ∧ SRel x ⟨E2, H2⟩ a w
  | 0, i, E1, H1, hi, hk, henv, hinv, hsame, hevo => by
    refine ⟨E1, H1, hk, ?_⟩
    have hL : Lrem x.L0 res blk f i = x.L0 := by
      funext b
      refine propext ⟨?_, .inl⟩
      rintro (h1 | ⟨k, ty, z, h1, h2, _⟩)
      · exact h1
      · omega
    rw [hL] at hinv hsame
    refine { env := fun t => Rel.mono (Keeps.less fun b _ hb => (hsame b).1 hb) _ _ (henv t), inv := hinv, evo := ?_, defers := h.defers, size := h.size }
    exact hs0.evo.trans hevo
  | m + 1, i, E1, H1, hi, hk, henv, hinv, hsame, hevo => by
    have hif : i < f := by omega
    have skip : newsAt ops res i = [] → (∀ ty z, res i ≠ .new ty z) → ∃ E2 H2, K E2 H2 ∧ SRel x ⟨E2, H2⟩ a w := by
      intro h0 hno
      have hL : Lrem x.L0 res blk f i = Lrem x.L0 res blk f (i + 1) := by
        funext b
        refine propext ⟨?_, ?_⟩
        · rintro (h1 | ⟨k, ty, z, h1, h2, h3, h4⟩)
          · exact .inl h1
          · refine .inr ⟨k, ty, z, ?_, h2, h3, h4⟩
            rcases Nat.eq_or_lt_of_le h1 with h' | h'
            · subst h'; exact absurd h3 (hno ty z)
            · exact h'
        · rintro (h1 | ⟨k, ty, z, h1, h2, h3, h4⟩)
          · exact .inl h1
          · exact .inr ⟨k, ty, z, by omega, h2, h3, h4⟩
      rw [newsG, h0, List.nil_append] at hk
      rw [hL] at hinv hsame
      exact lay_new hB hs0 h hl hdst m (i + 1) E1 H1 (by omega) hk henv hinv hsame hevo
    cases hr : res i with
    | det d => exact skip (by rw [newsAt, hr, newsOf_det]) (fun ty z => by rw [hr]; exact fun h => nomatch h)
    | skip => exact skip (by rw [newsAt, hr, newsOf_skip]) (fun ty z => by rw [hr]; exact fun h => nomatch h)
    | new ty z =>
      obtain ⟨t, ht⟩ := hdst i ty z hif hr
      have hil : isL listed i := (hl i).2 hif
      have hsl := h.slots i t hil ht
      rw [hr] at hsl
      obtain ⟨hv, hrel⟩ := hsl
      have hin : Lrem x.L0 res blk f i (blk i) := .inr ⟨i, ty, z, Nat.le_refl _, hif, hr, rfl⟩
      have hnot : blk i ∉ H1.blocks := fun hm => hinv.apart _ hm hin
      rw [newsG, newsAt, hr, ht, newsOf, List.cons_append, List.nil_append] at hk
      have hk' := hk (blk i) hnot
      have hb := h.blks i ty z hil hr
      have hsame' : ∀ b, live ((blk i, .cells ty z.length z) :: H1) (Lrem x.L0 res blk f (i + 1)) b ↔ live H (L1 x.L0 res blk listed) b := by
        intro b
        rw [← hsame b]
        simp only [live, Heap.blocks, List.map_cons, List.mem_cons]
        constructor
        · rintro ((h1 | ⟨k, ty', z', h1, h2, h3, h4⟩) | h1 | h1)
          · exact .inl (.inl h1)
          · exact .inl (.inr ⟨k, ty', z', by omega, h2, h3, h4⟩)
          · exact .inl (h1 ▸ hin)
          · exact .inr h1
        · rintro ((h1 | ⟨k, ty', z', h1, h2, h3, h4⟩) | h1)
          · exact .inl (.inl h1)
          · rcases Nat.eq_or_lt_of_le h1 with h' | h'
            · subst h'; exact .inr (.inl h4.symm)
            · exact .inl (.inr ⟨k, ty', z', h', h2, h3, h4⟩)
          · exact .inr (.inr h1)
      have kk : Keeps w (live H (L1 x.L0 res blk listed)) w (live ((blk i, .cells ty z.length z) :: H1) (Lrem x.L0 res blk f (i + 1))) := Keeps.less fun b _ hb => (hsame' b).1 hb
      have kk1 : Keeps w (live H1 (Lrem x.L0 res blk f i)) w (live ((blk i, .cells ty z.length z) :: H1) (Lrem x.L0 res blk f (i + 1))) := Keeps.less fun b _ hb => (hsame b).2 ((hsame' b).1 hb)
      refine lay_new hB hs0 h hl hdst m (i + 1) _ _ (by omega) hk' ?_ ?_ hsame' ?_
      · intro t'
        simp only [upd]
        by_cases e : t = t'
        · subst e; simp only [beq_self_eq_true, cond_true]; exact hv
        · have : (t == t') = false := by simpa using e
          rw [this, cond_false]; exact henv t'
      · refine { rel := fun b c hm => ?_, nodup := ?_, apart := fun b hb' hL => ?_, old := fun b hL => ?_ }
        · rcases List.mem_cons.1 hm with hm | hm
          · cases hm; exact hrel.mono kk rfl
          · exact (hinv.rel b c hm).mono kk1 rfl
        · simp only [Heap.blocks, List.map_cons, List.nodup_cons]
          exact ⟨hnot, hinv.nodup⟩
        · simp only [Heap.blocks, List.map_cons, List.mem_cons] at hb'
          rcases hb' with rfl | hb'
          · rcases hL with hL | ⟨k, ty', z', h1, h2, h3, h4⟩
            · have := hs0.inv.old _ hL; omega
            · have := h.inj k i ty' z' ty z ((hl k).2 h2) hil h3 hr h4; omega
          · refine hinv.apart b hb' ?_
            rcases hL with hL | ⟨k, ty', z', h1, h2, h3, h4⟩
            · exact .inl hL
            · exact .inr ⟨k, ty', z', by omega, h2, h3, h4⟩
        · refine hinv.old b ?_
          rcases hL with hL | ⟨k, ty', z', h1, h2, h3, h4⟩
          · exact .inl hL
          · exact .inr ⟨k, ty', z', by omega, h2, h3, h4⟩
      · refine ⟨hevo.os, hevo.tape, hevo.output, hevo.size, hevo.block, fun b hb' => ?_⟩
        simp only [Heap.blocks, List.map_cons, List.mem_cons] at hb'
        rcases hb' with rfl | hb'
        · exact .inr hb.1
        · exact hevo.fresh b hb'
end

theorem dsts_of {l : List Oper} {n : Nat} (h : l.all (dstOk n) = true) : ∀ k t, dstAt l.toArray k = some t → t < n := by
  intro k t hk
  unfold dstAt at hk
  rw [List.all_eq_true] at h
  cases hq : l.toArray[k]? with
  | none => rw [hq] at hk; cases hk
  | some o =>
    rw [hq] at hk
    exact dstOk_spec (h o (List.mem_of_getElem? (by simpa using hq))) t hk

/-- The same walk, the operations that are still to come written out. -/
def VCg {P : Program} (T : Tab P) (ops : Array Oper) (H : Heap) (K : (Nat → D) → List (Tmp × TypeId × List D) → Prop) : Nat → List Oper → (Nat → D) → List (Tmp × TypeId × List D) → Prop
  | 0, _, E, news => K E news
  | _ + 1, [], _, _ => False
  | m + 1, o :: l, E, news => ∃ r, FOk P ops E H o r ∧ VCg T ops H K m l (updO E o.dst r.d) (news ++ newsOf r o.dst)

theorem VCg.vcf {P : Program} {T : Tab P} {ops : Array Oper} {H : Heap} {K : (Nat → D) → List (Tmp × TypeId × List D) → Prop} : ∀ (m i : Nat) (l : List Oper) (E : Nat → D) (news : List (Tmp × TypeId × List D)),
    l = ops.toList.drop i → VCg T ops H K m l E news → VCf T ops H K m i E news
  | 0, i, l, E, news, _, h => h
  | m + 1, i, [], E, news, _, h => h.elim
  | m + 1, i, o :: l, E, news, hl, h => by
    obtain ⟨r, h1, h2⟩ := h
    have hi : ops[i]? = some o := by
      have : (ops.toList.drop i)[0]? = some o := by rw [← hl]; rfl
      rw [List.getElem?_drop] at this
      simpa using this
    refine ⟨o, r, hi, h1, VCg.vcf m (i + 1) l _ _ ?_ h2⟩
    have : ops.toList.drop (i + 1) = (ops.toList.drop i).drop 1 := by rw [List.drop_drop]
    rw [this, ← hl]; rfl

section
variable {P : Program} (T : Tab P) {ops : Array Oper} {H : Heap} {K : (Nat → D) → List (Tmp × TypeId × List D) → Prop} {m : Nat} {E : Nat → D} {news : List (Tmp × TypeId × List D)} {o : Oper} {l : List Oper}

theorem VCg.nil (h : K E news) : VCg T ops H K 0 l E news := h

theorem VCg.step {d : D} {t : Tmp} (hg : o.guard = none) (ht : o.dst = some t) (h1 : opC T o (evD E) H (fun d' H' => d' = d ∧ H' = H)) (h2 : VCg T ops H K m l (upd E t d) news) :
    VCg T ops H K (m + 1) (o :: l) E news := ⟨.det d, ⟨.inl hg, opS_of T h1⟩, by rw [newsOf_det, List.append_nil, ht]; exact h2⟩

theorem VCg.alloc {t : TypeId} {s : Tmp} (hg : o.guard = none) (hop : o.op = .alloc t) (hd : o.dst = some s) (hk : (T.get t).known = true) (hz : ((T.get t).zero.map constD).all oneD = true)
    (h2 : VCg T ops H K m l (upd E s .any) (news ++ [(s, t, (T.get t).zero.map constD)])) : VCg T ops H K (m + 1) (o :: l) E news := by
  refine ⟨.new t ((T.get t).zero.map constD), ⟨hg, ⟨s, hd⟩, hz, fun w L ε => ?_⟩, by rw [hd]; exact h2⟩
  obtain ⟨d, inf, z, hu, hinf, hz', _, _, hsz, hzl, hlen, _⟩ := T.facts hk
  refine ⟨z.cells, ?_, by rw [List.length_map, ← hzl, Array.length_toList], by rw [hzl]; exact constL_rel _ _ _⟩
  simp only [execOp, hop, Instr.alloc]
  refine (run_bind (a := .pointer (some ⟨w.heap.size, 0, none⟩)) (w' := w.alloc (.cells z.cells t)) ?_).trans rfl
  refine (run_bind (a := z) (w' := w) (by unfold zeroValue; rw [run_bind (run_info hinf w), hz']; rfl)).trans ?_
  rfl

theorem VCg.gundef {j g : Nat} {want : Bool} {s : Tmp} (hg : o.guard = some (j, want)) (hj : (ops[j]?).bind (·.dst) = some g) (ht : E g = .is undef) (hs : o.dst = some s)
    (h : VCg T ops H K m l (upd E s (.is undef)) news) : VCg T ops H K (m + 1) (o :: l) E news :=
  ⟨.skip, ⟨j, want, g, hg, hj, .inr ht⟩, by rw [newsOf_skip, List.append_nil, hs]; exact h⟩

theorem VCg.gstep {j g : Nat} {want t : Bool} {s : Tmp} (hg : o.guard = some (j, want)) (hj : (ops[j]?).bind (·.dst) = some g) (ht : E g = .is (.bool t)) (hs : o.dst = some s)
    (h : gsplit t fun t' => bif sameB t' want then (∃ d, opC T o (evD (upd E g (.is (.bool t')))) H (fun d' H' => d' = d ∧ H' = H) ∧ VCg T ops H K m l (upd (upd E g (.is (.bool t'))) s d) news)
      else VCg T ops H K m l (upd (upd E g (.is (.bool t'))) s (.is undef)) news) : VCg T ops H K (m + 1) (o :: l) E news := by
  have h1 := gsplit_elim h
  simp only [upd_self ht] at h1
  have e : ∀ a b : Bool, sameB a b = (a == b) := by decide
  rw [e] at h1
  by_cases hw : t = want
  · subst hw
    rw [beq_self_eq_true, cond_true] at h1
    obtain ⟨d, h2, h3⟩ := h1
    exact ⟨.det d, ⟨.inr ⟨j, t, g, hg, hj, ht⟩, opS_of T h2⟩, by rw [newsOf_det, List.append_nil, hs]; exact h3⟩
  · have hb : (t == want) = false := by simpa using hw
    rw [hb, cond_false] at h1
    have : t = !want := by cases t <;> cases want <;> first | rfl | exact absurd rfl hw
    exact ⟨.skip, ⟨j, want, g, hg, hj, .inl (this ▸ ht)⟩, by rw [newsOf_skip, List.append_nil, hs]; exact h1⟩
end

/-- **A region that draws its order**: the first 'f' operations only read, call, or make variables; each of the others waits for all ahead of it. -/
theorem VC.draw {P : Program} (T : Tab P) {n id : Nat} {l : List Oper} {E : Nat → D} {H : Heap} {Q : Exit → St → Prop} (f : Nat) (hB : drawOk l.toArray f = true) (hm : P.follows .mixedOrders = true) (hd : l.all (dstOk n) = true)
    (h : VCg T l.toArray H (fun E' news => allK news E' H fun E'' H'' => VCo P n l.toArray (l.drop f) ⟨E'', H''⟩ Q) f l E []) : VC P n (.region id l.toArray true) ⟨E, H⟩ Q := by
  intro x a0 w hn hs
  have h := VCg.vcf f 0 l E [] rfl h
  have hB := drawOk_spec hB
  have hs1 := hs.drew
  refine wp_region_any hm ?_
  obtain ⟨res, hok, hK⟩ := VCf.extract f 0 E [] h
  have hok' : ∀ j, j < f → ∃ o, l.toArray[j]? = some o ∧ FOk P l.toArray (envG l.toArray 0 E res j) H o (res j) := fun j hj => by
    have := hok j hj
    rwa [Nat.zero_add] at this
  have hdst : ∀ k t, dstAt l.toArray k = some t → t < x.n := fun k t hk => hn ▸ dsts_of hd k t hk
  have hnd : ∀ j ty z, j < f → res j = .new ty z → ∃ t, dstAt l.toArray j = some t := by
    intro j ty z hj hr
    obtain ⟨o, ho, hf⟩ := hok' j hj
    rw [hr] at hf
    obtain ⟨_, ⟨t, ht⟩, _⟩ := hf
    exact ⟨t, by simp only [dstAt, ho, Option.bind_some, ht]⟩
  have hnone : ∀ k, ¬ isL (Array.replicate l.toArray.size false) k := by
    intro k hk
    unfold isL at hk
    rw [Array.getElem?_replicate] at hk
    split at hk <;> cases hk
  have hL0 : L1 x.L0 res (fun _ => 0) (Array.replicate l.toArray.size false) = x.L0 := by
    funext b
    refine propext ⟨?_, .inl⟩
    rintro (h1 | ⟨k, ty, z, h1, _⟩)
    · exact h1
    · exact absurd h1 (hnone k)
  have hunl : unl (Array.replicate l.toArray.size false) l.toArray.size = l.toArray.size := by
    unfold unl
    rw [List.filter_eq_self.2]
    · simp
    · intro k hk
      have := List.mem_range.1 hk
      simpa [Array.getD] using this
  refine front_any (x := x) (res := res) (E := E) (H := H) (a0 := a0) (ws := w.drew) hB hs1 hok' hdst ?_ _ (fun _ => 0) _ a0 w.drew hunl ?_
  · intro blk listed a w' hl hF
    have h0 : [] ++ newsG l.toArray res 0 f = newsG l.toArray res 0 f := List.nil_append _
    rw [h0] at hK
    have hsameL : Lrem x.L0 res blk f 0 = L1 x.L0 res blk listed := by
      funext b
      refine propext ⟨?_, ?_⟩
      · rintro (h1 | ⟨k, ty, z, h1, h2, h3, h4⟩)
        · exact .inl h1
        · exact .inr ⟨k, ty, z, (hl k).2 h2, h3, h4⟩
      · rintro (h1 | ⟨k, ty, z, h1, h3, h4⟩)
        · exact .inl h1
        · exact .inr ⟨k, ty, z, Nat.zero_le _, (hl k).1 h1, h3, h4⟩
    have henv : ∀ t, Rel w' (live H (L1 x.L0 res blk listed)) (envG l.toArray 0 E res f t) (a.tmps.getD t undef) := by
      intro t
      by_cases hex : ∃ k, k < f ∧ dstAt l.toArray k = some t
      · obtain ⟨k, hkf, hkt⟩ := hex
        rw [envG_some f hkf hkt (fun j hj hne hd' => hB.uniq k j hkf hj hne (by rw [hkt]; simp) (by rw [hd', hkt]))]
        have hsl := hF.slots k t ((hl k).2 hkf) hkt
        cases hr : res k with
        | det d => rw [hr] at hsl; exact hsl
        | skip => rw [hr] at hsl; exact hsl
        | new ty z => trivial
      · rw [envG_none f (fun k hk hd' => hex ⟨k, hk, hd'⟩), hF.rest t (fun k hk hd' => hex ⟨k, (hl k).1 hk, hd'⟩)]
        exact Rel.mono hF.keeps _ _ (hs1.env t)
    obtain ⟨E2, H2, hV, hS⟩ := lay_new hB hs1 hF hl hnd f 0 _ H (by omega) hK henv (by rw [hsameL]; exact hF.inv) (fun b => by rw [hsameL]) hF.evo
    exact hV x a w' hn hS
  · refine { lsize := by simp, down := fun k o _ hk => absurd hk (hnone k), front := fun k hk => absurd hk (hnone k), slots := fun k t hk => absurd hk (hnone k), blks := fun k ty z hk => absurd hk (hnone k),
             inj := fun k l' ty z ty' z' hk => absurd hk (hnone k), rest := fun t _ => rfl, inv := by rw [hL0]; exact hs1.inv, evo := Evo.refl _ _, defers := hs1.defers, size := hs1.size }

end Go.Vc
