/- A region that draws its order: whatever order is drawn, what the walk says holds. No condition. -/
import Derived.Test.YtlnmljmeahknaaaVn
namespace Go.Vc
set_option linter.unusedSimpArgs false
open Go
set_option linter.unusedVariables false

def isL (listed : Array Bool) (k : Nat) : Prop := listed[k]? = some true

theorem isL_set {listed : Array Bool} {i k : Nat} (hi : i < listed.size) : isL (listed.setIfInBounds i true) k ↔ k = i ∨ isL listed k := by
  unfold isL
  by_cases e : k = i
  · subst e; simp [hi]
  · rw [Array.getElem?_setIfInBounds_ne (Ne.symm e)]
    simp [e]

/-- The blocks of the new variables, beside those that are shut off. -/
def L1 (L0 : Nat → Prop) (res : Nat → FRes) (blk : Nat → Nat) (listed : Array Bool) : Nat → Prop :=
  fun b => L0 b ∨ ∃ k ty z, isL listed k ∧ res k = .new ty z ∧ blk k = b

structure FInv (x : Ctx) (ops : Array Oper) (f : Nat) (res : Nat → FRes) (H : Heap) (a0 : Act) (ws : World) (blk : Nat → Nat) (listed : Array Bool) (a : Act) (w : World) : Prop where
  lsize : listed.size = ops.size
  down : ∀ k o, ops[k]? = some o → isL listed k → ∀ e ∈ o.after, Region.binds .any e = true → isL listed e.on
  front : ∀ k, isL listed k → k < f
  slots : ∀ k t, isL listed k → dstAt ops k = some t → match res k with
    | .det d => Rel w (live H (L1 x.L0 res blk listed)) d (a.tmps.getD t undef)
    | .skip => a.tmps.getD t undef = undef
    | .new ty z => a.tmps.getD t undef = .pointer (some ⟨blk k, 0, none⟩) ∧ HRel w (live H (L1 x.L0 res blk listed)) (blk k) (.cells ty z.length z)
  blks : ∀ k ty z, isL listed k → res k = .new ty z → ws.heap.size ≤ blk k ∧ blk k < w.heap.size
  inj : ∀ k l ty z ty' z', isL listed k → isL listed l → res k = .new ty z → res l = .new ty' z' → blk k = blk l → k = l
  rest : ∀ t, (∀ k, isL listed k → dstAt ops k ≠ some t) → a.tmps.getD t undef = a0.tmps.getD t undef
  inv : HInv w (L1 x.L0 res blk listed) H
  evo : Evo ws H w H
  defers : a.defers = []
  size : a.tmps.size = x.n

theorem FInv.keeps {x : Ctx} {ops : Array Oper} {f : Nat} {res : Nat → FRes} {H : Heap} {a0 : Act} {ws : World} {blk : Nat → Nat} {listed : Array Bool} {a : Act} {w : World}
    (h : FInv x ops f res H a0 ws blk listed a w) : Keeps ws (live H x.L0) w (live H (L1 x.L0 res blk listed)) := fun b hb hn =>
  ⟨h.evo.block b hb (fun hm => hn (.inr hm)), fun hl => by
    rcases hl with (hl | ⟨k, ty, z, h1, h2, h3⟩) | hl
    · exact hn (.inl hl)
    · have := (h.blks k ty z h1 h2).1; omega
    · exact hn (.inr hl)⟩

theorem mem_ready_lt {ops : Array Oper} {listed : Array Bool} {i : Nat} (hs : listed.size = ops.size) (h : i ∈ Region.ready .any ops listed) :
    i < ops.size ∧ ¬ isL listed i ∧ ∃ o, ops[i]? = some o ∧ ∀ e ∈ o.after, Region.binds .any e = true → isL listed e.on := by
  obtain ⟨h1, o, h2, h3⟩ := mem_ready.1 h
  have hlt : i < ops.size := by
    rcases Nat.lt_or_ge i ops.size with h' | h'
    · exact h'
    · simp [Array.getElem?_eq_none h'] at h2
  refine ⟨hlt, fun hl => ?_, o, h2, fun e he hb => ?_⟩
  · unfold isL at hl
    rw [Array.getD_eq_getD_getElem?, hl] at h1
    cases h1
  · have := h3 e he hb
    rw [Array.getD_eq_getD_getElem?] at this
    unfold isL
    cases hq : listed[e.on]? with
    | none => rw [hq] at this; cases this
    | some b => rw [hq] at this; simpa using this

section
variable {P : Program} {x : Ctx} {ops : Array Oper} {f : Nat} {res : Nat → FRes} {H : Heap} {E : Nat → D} {a0 : Act} {ws : World}

theorem FInv.look (hB : DrawOk ops f) (hs0 : SRel x ⟨E, H⟩ a0 ws) {blk : Nat → Nat} {listed : Array Bool} {a : Act} {w : World} (h : FInv x ops f res H a0 ws blk listed a w)
    {i : Nat} {o : Oper} (ho : ops[i]? = some o) (hif : i < f) (hil : ¬ isL listed i) (hready : ∀ e ∈ o.after, Region.binds .any e = true → isL listed e.on) {t : Tmp} (ht : t ∈ looks ops i) :
    Rel w (live H (L1 x.L0 res blk listed)) (envG ops 0 E res i t) (a.tmps.getD t undef) := by
  have hdown : ∀ j e, isL listed j → e ∈ edgesAt ops j → isL listed e := fun j e hj he => by
    obtain ⟨oj, ed, h1, h2, h3, rfl⟩ := mem_edges.1 he
    exact h.down j oj h1 hj ed h2 h3
  have edge : ∀ k, hasEdge ops i k = true → isL listed k := fun k hk =>
    reach_listed hdown _ i k (fun e he => by
      obtain ⟨oj, ed, h1, h2, h3, rfl⟩ := mem_edges.1 he
      rw [ho] at h1; cases h1
      exact hready ed h2 h3) hk
  have edgeBack : ∀ k, isL listed k → hasEdge ops k i = true → False := fun k hk he =>
    hil (reach_listed hdown _ k i (fun e he => hdown k e hk he) he)
  by_cases hex : ∃ k, k < i ∧ dstAt ops k = some t
  · obtain ⟨k, hki, hkt⟩ := hex
    have hkl : isL listed k := by
      have hksz : k < ops.size := Nat.lt_of_lt_of_le (Nat.lt_trans hki hif) hB.le
      rcases hB.reads i hif t ht k hksz (by omega) hkt with ⟨_, h1⟩ | ⟨h1, _⟩
      · exact edge k h1
      · omega
    have he := envG_some (E := E) (res := res) i hki hkt (fun l hl hne hd => hB.uniq k l (by omega) (by omega) hne (by rw [hkt]; simp) (by rw [hd, hkt]))
    rw [he]
    have hsl := h.slots k t hkl hkt
    cases hr : res k with
    | det d => rw [hr] at hsl; exact hsl
    | skip => rw [hr] at hsl; exact hsl
    | new ty z => trivial
  · have he := envG_none (E := E) (res := res) (t := t) i (fun k hk hd => hex ⟨k, hk, hd⟩)
    rw [he, h.rest t ?_]
    · exact Rel.mono h.keeps _ _ (hs0.env t)
    · intro k hkl hkt
      have hksz : k < ops.size := Nat.lt_of_lt_of_le (h.front k hkl) hB.le
      have hne : k ≠ i := fun e => hil (e ▸ hkl)
      have hki : ¬ k < i := fun hlt => hex ⟨k, hlt, hkt⟩
      rcases hB.reads i hif t ht k hksz hne hkt with ⟨h1, _⟩ | ⟨_, h1⟩
      · omega
      · rcases h1 with h1 | h1
        · have := h.front k hkl; omega
        · exact edgeBack k hkl h1

theorem FInv.ev (hB : DrawOk ops f) (hs0 : SRel x ⟨E, H⟩ a0 ws) {blk : Nat → Nat} {listed : Array Bool} {a : Act} {w : World} (h : FInv x ops f res H a0 ws blk listed a w)
    {i : Nat} {o : Oper} (ho : ops[i]? = some o) (hif : i < f) (hil : ¬ isL listed i) (hready : ∀ e ∈ o.after, Region.binds .any e = true → isL listed e.on) (y : Operand) (hy : y ∈ o.op.operands) :
    Rel w (live H (L1 x.L0 res blk listed)) (evD (envG ops 0 E res i) y) (a.eval y) := by
  cases y with
  | tmp t =>
    refine h.look hB hs0 ho hif hil hready ?_
    unfold looks
    rw [ho]
    simp only [Oper.looksAt]
    exact List.mem_append_left _ (List.mem_filterMap.2 ⟨.tmp t, Array.mem_toList_iff.2 hy, rfl⟩)
  | const v => exact constD_rel _ _ v
  | global g => rfl
  | func g => rfl

/-- What a put leaves. -/
theorem getD_put {a : Act} {dst : Option Tmp} {v : Value} {t : Tmp} {n : Nat} (hs : a.tmps.size = n) : ((a.put dst v).tmps.getD t undef) = if dst = some t ∧ t < n then v else a.tmps.getD t undef := by
  cases dst with
  | none => simp [Act.put]
  | some k =>
    simp only [Act.put, Option.some.injEq]
    by_cases e : k = t
    · subst e
      by_cases hk : k < n
      · simp [Array.getD, hs, hk]
      · simp [Array.getD, hs, hk]
    · rw [if_neg (fun h => e h.1)]
      simp [Array.getD_eq_getD_getElem?, Array.getElem?_setIfInBounds_ne e]

theorem FInv.next {blk : Nat → Nat} {listed : Array Bool} {a : Act} {w w' : World} (hB : DrawOk ops f) (h : FInv x ops f res H a0 ws blk listed a w)
    {i : Nat} {o : Oper} (ho : ops[i]? = some o) (hif : i < f) (hil : ¬ isL listed i) (hready : ∀ e ∈ o.after, Region.binds .any e = true → isL listed e.on) (hdn : ∀ t, o.dst = some t → t < x.n)
    {v : Value} {blk' : Nat → Nat} (hblk : ∀ k, isL listed k → blk' k = blk k)
    (hev : Evo w H w' H) (hinv : HInv w' (L1 x.L0 res blk' (listed.setIfInBounds i true)) H)
    (hkeep : Keeps w (live H (L1 x.L0 res blk listed)) w' (live H (L1 x.L0 res blk' (listed.setIfInBounds i true))))
    (hold : ∀ k, isL listed k → (∃ ty z, res k = .new ty z) → w'.heap[blk k]? = w.heap[blk k]?)
    (hslot : match res i with
      | .det d => Rel w' (live H (L1 x.L0 res blk' (listed.setIfInBounds i true))) d v
      | .skip => v = undef
      | .new ty z => v = .pointer (some ⟨blk' i, 0, none⟩) ∧ HRel w' (live H (L1 x.L0 res blk' (listed.setIfInBounds i true))) (blk' i) (.cells ty z.length z) ∧ w.heap.size ≤ blk' i ∧ blk' i < w'.heap.size) :
    FInv x ops f res H a0 ws blk' (listed.setIfInBounds i true) (a.put o.dst v) w' := by
  have hisz : i < listed.size := by rw [h.lsize]; exact Nat.lt_of_lt_of_le hif hB.le
  have hm : ∀ k, isL (listed.setIfInBounds i true) k ↔ k = i ∨ isL listed k := fun k => isL_set hisz
  have hd : dstAt ops i = o.dst := by simp [dstAt, ho]
  refine { lsize := by simp [h.lsize], down := ?_, front := ?_, slots := ?_, blks := ?_, inj := ?_, rest := ?_, inv := hinv, evo := h.evo.trans hev, defers := ?_, size := ?_ }
  · intro k ok hok hk e he hb
    rw [hm] at hk ⊢
    rcases hk with rfl | hk
    · rw [ho] at hok; cases hok
      exact .inr (hready e he hb)
    · exact .inr (h.down k ok hok hk e he hb)
  · intro k hk
    rcases (hm k).1 hk with rfl | hk
    · exact hif
    · exact h.front k hk
  · intro k t hk hkt
    rcases (hm k).1 hk with rfl | hk
    · rw [hd] at hkt
      have e : (a.put o.dst v).tmps.getD t undef = v := by rw [getD_put h.size, if_pos ⟨hkt, hdn t hkt⟩]
      rw [e]
      cases hr : res k with
      | det d => rw [hr] at hslot; exact hslot
      | skip => rw [hr] at hslot; exact hslot
      | new ty z => rw [hr] at hslot; exact ⟨hslot.1, hslot.2.1⟩
    · have hne : k ≠ i := fun e => hil (e ▸ hk)
      have e : (a.put o.dst v).tmps.getD t undef = a.tmps.getD t undef := by
        rw [getD_put h.size, if_neg]
        rintro ⟨h1, _⟩
        rw [← hd] at h1
        exact hB.uniq i k hif (h.front k hk) hne (by rw [h1]; simp) (by rw [hkt, h1])
      rw [e]
      have hsl := h.slots k t hk hkt
      cases hr : res k with
      | det d => rw [hr] at hsl; exact Rel.mono hkeep _ _ hsl
      | skip => rw [hr] at hsl; exact hsl
      | new ty z =>
        rw [hr] at hsl
        simp only at hsl ⊢
        rw [hblk k hk]
        exact ⟨hsl.1, hsl.2.mono hkeep (hold k hk ⟨ty, z, hr⟩)⟩
  · intro k ty z hk hr
    rcases (hm k).1 hk with rfl | hk
    · rw [hr] at hslot
      exact ⟨Nat.le_trans h.evo.size hslot.2.2.1, hslot.2.2.2⟩
    · rw [hblk k hk]
      have := h.blks k ty z hk hr
      exact ⟨this.1, Nat.lt_of_lt_of_le this.2 hev.size⟩
  · intro k l ty z ty' z' hk hl hrk hrl e
    rcases (hm k).1 hk with e1 | hk1
    · rcases (hm l).1 hl with e2 | hl1
      · rw [e1, e2]
      · subst e1
        rw [hrk] at hslot
        rw [hblk l hl1] at e
        have := (h.blks l ty' z' hl1 hrl).2
        have := hslot.2.2.1
        omega
    · rcases (hm l).1 hl with e2 | hl1
      · subst e2
        rw [hrl] at hslot
        rw [hblk k hk1] at e
        have := (h.blks k ty z hk1 hrk).2
        have := hslot.2.2.1
        omega
      · rw [hblk k hk1, hblk l hl1] at e
        exact h.inj k l ty z ty' z' hk1 hl1 hrk hrl e
  · intro t hno
    rw [getD_put h.size, if_neg]
    · exact h.rest t fun k hk => hno k ((hm k).2 (.inr hk))
    · rintro ⟨h1, _⟩
      exact hno i ((hm i).2 (.inl rfl)) (by rw [hd, h1])
  · cases o.dst <;> exact h.defers
  · cases o.dst <;> simp [Act.put, h.size]

theorem FInv.step (hB : DrawOk ops f) (hs0 : SRel x ⟨E, H⟩ a0 ws) {Q : Exit → Act → World → Prop} {blk : Nat → Nat} {listed : Array Bool} {a : Act} {w : World} (h : FInv x ops f res H a0 ws blk listed a w)
    (hok : ∀ j, j < f → ∃ o, ops[j]? = some o ∧ FOk P ops (envG ops 0 E res j) H o (res j)) (hdst : ∀ k t, dstAt ops k = some t → t < x.n)
    {i : Nat} (hr : i ∈ Region.ready .any ops listed) (hif : i < f) :
    wpOp P ops Q i (fun a' w' => ∃ blk', FInv x ops f res H a0 ws blk' (listed.setIfInBounds i true) a' w') a w := by
  obtain ⟨hisz, hil, o, ho, hready⟩ := mem_ready_lt h.lsize hr
  obtain ⟨o', ho', hfok⟩ := hok i hif
  rw [ho] at ho'; cases ho'
  have hisz' : i < listed.size := by rw [h.lsize]; exact hisz
  have hm : ∀ k, isL (listed.setIfInBounds i true) k ↔ k = i ∨ isL listed k := fun k => isL_set hisz'
  have hdi : dstAt ops i = o.dst := by simp [dstAt, ho]
  have hdn : ∀ t, o.dst = some t → t < x.n := fun t ht => hdst i t (by rw [hdi, ht])
  have ev := fun y hy => h.ev hB hs0 ho hif hil hready y hy
  -- what the guard's operation has yielded
  have yld : ∀ j want g b, o.guard = some (j, want) → dstAt ops j = some g → envG ops 0 E res i g = .is (.bool b) → yielded ops a.tmps j = some b := by
    intro j want g b hg hj he
    have hlk : g ∈ looks ops i := by
      unfold looks
      rw [ho]
      simp only [Oper.looksAt, hg]
      refine List.mem_append_right _ ?_
      have : (ops[j]?).bind (·.dst) = some g := hj
      rw [this]; simp
    have h1 := h.look hB hs0 ho hif hil hready hlk
    rw [he] at h1
    have hgn := hdst j g hj
    have h2 : a.tmps[g]? = some (.bool b) := by
      have hlt : g < a.tmps.size := by rw [h.size]; exact hgn
      have h3 : a.tmps.getD g undef = .bool b := h1
      simp [Array.getD, hlt] at h3
      simp [hlt, h3]
    have hj' : (ops[j]?).bind (·.dst) = some g := hj
    simp [yielded, hj', h2]
  have sameL : (∀ ty z, res i ≠ .new ty z) → L1 x.L0 res blk (listed.setIfInBounds i true) = L1 x.L0 res blk listed := by
    intro hno
    funext b
    simp only [L1, hm]
    refine propext ⟨?_, ?_⟩
    · rintro (h1 | ⟨k, ty, z, h1, h2, h3⟩)
      · exact .inl h1
      · rcases h1 with rfl | h1
        · exact absurd h2 (hno ty z)
        · exact .inr ⟨k, ty, z, h1, h2, h3⟩
    · rintro (h1 | ⟨k, ty, z, h1, h2, h3⟩)
      · exact .inl h1
      · exact .inr ⟨k, ty, z, .inr h1, h2, h3⟩
  have notH : ∀ k ty z, isL listed k → res k = .new ty z → blk k ∉ H.blocks := fun k ty z hk hrk hmem => h.inv.apart _ hmem (.inr ⟨k, ty, z, hk, hrk, rfl⟩)
  unfold wpOp
  rw [ho]
  simp only
  cases hri : res i with
  | det d =>
    rw [hri] at hfok
    obtain ⟨hw, hop⟩ := hfok
    have hwant : Region.wanted o (yielded ops a.tmps) = true := by
      rcases hw with hg | ⟨j, want, g, hg, hj, he⟩
      · simp [Region.wanted, hg]
      · simp [Region.wanted, hg, yld j want g want hg hj he]
    rw [if_pos hwant]
    refine .inl ?_
    have hL := sameL (fun ty z => by rw [hri]; exact fun h => nomatch h)
    refine (hop w (L1 x.L0 res blk listed) a.eval h.inv ev).upon ?_
    rintro v w' ⟨d', H', ⟨rfl, rfl⟩, hv, hi', he⟩
    refine ⟨blk, h.next hB ho hif hil hready hdn (fun _ _ => rfl) he (by rw [hL]; exact hi') (by rw [hL]; exact he.keeps) (fun k hk ⟨ty, z, hrk⟩ => he.block _ (h.blks k ty z hk hrk).2 (notH k ty z hk hrk)) ?_⟩
    rw [hri, hL]
    exact hv
  | skip =>
    rw [hri] at hfok
    obtain ⟨j, want, g, hg, hj, he⟩ := hfok
    have hwant : Region.wanted o (yielded ops a.tmps) = false := by
      rcases he with he | he
      · simp only [Region.wanted, hg, yld j want g (!want) hg hj he]
        cases want <;> rfl
      · have hlk : g ∈ looks ops i := by
          unfold looks
          rw [ho]
          simp only [Oper.looksAt, hg]
          refine List.mem_append_right _ ?_
          have : (ops[j]?).bind (·.dst) = some g := hj
          rw [this]; simp
        have h1 := h.look hB hs0 ho hif hil hready hlk
        rw [he] at h1
        have hgn := hdst j g hj
        have h2 : a.tmps[g]? = some undef := by
          have hlt : g < a.tmps.size := by rw [h.size]; exact hgn
          have h3 : a.tmps.getD g undef = undef := h1
          simp [Array.getD, hlt] at h3
          simp [hlt, h3]
        have hj' : (ops[j]?).bind (·.dst) = some g := hj
        have hy : yielded ops a.tmps j = none := by simp [yielded, hj', h2, undef]
        simp only [Region.wanted, hg, hy]
        rfl
    rw [if_neg (by rw [hwant]; exact Bool.false_ne_true)]
    have hL := sameL (fun ty z => by rw [hri]; exact fun h => nomatch h)
    exact ⟨blk, h.next hB ho hif hil hready hdn (fun _ _ => rfl) (Evo.refl _ _) (by rw [hL]; exact h.inv) (by rw [hL]; exact Keeps.refl _ _) (fun _ _ _ => rfl) (by rw [hri])⟩
  | new ty z =>
    rw [hri] at hfok
    obtain ⟨hg, ⟨t, ht⟩, hone, hrun⟩ := hfok
    rw [if_pos (by simp [Region.wanted, hg])]
    refine .inl ?_
    obtain ⟨arr, h1, h2, h3⟩ := hrun w (live H (L1 x.L0 res blk listed)) a.eval
    refine Good.upon (R := fun v w' => v = .pointer (some ⟨w.heap.size, 0, none⟩) ∧ w' = w.alloc (.cells arr ty)) (by rw [h1]; exact ⟨rfl, rfl⟩) ?_
    rintro v w' ⟨rfl, rfl⟩
    let blk' : Nat → Nat := fun k => if k = i then w.heap.size else blk k
    have hbi : blk' i = w.heap.size := by simp [blk']
    have hbk : ∀ k, isL listed k → blk' k = blk k := fun k hk => by
      have hki : ¬ k = i := fun e => hil (e ▸ hk)
      simp only [blk', if_neg hki]
    have hsub : ∀ b, L1 x.L0 res blk' (listed.setIfInBounds i true) b → b = w.heap.size ∨ L1 x.L0 res blk listed b := by
      rintro b (h1 | ⟨k, ty', z', h1, h2, h3⟩)
      · exact .inr (.inl h1)
      · rcases (hm k).1 h1 with rfl | h1
        · exact .inl (by rw [← h3, hbi])
        · exact .inr (.inr ⟨k, ty', z', h1, h2, by rw [← hbk k h1]; exact h3⟩)
    have hold : ∀ b, b < w.heap.size → (w.alloc (.cells arr ty)).heap[b]? = w.heap[b]? := fun b hb => alloc_old w _ b hb
    have hev : Evo w H (w.alloc (.cells arr ty)) H := ⟨rfl, rfl, rfl, by simp, fun b hb _ => hold b hb, fun b hb => .inl hb⟩
    have hkeep : Keeps w (live H (L1 x.L0 res blk listed)) (w.alloc (.cells arr ty)) (live H (L1 x.L0 res blk' (listed.setIfInBounds i true))) := fun b hb hn => ⟨hold b hb, fun hl => by
      rcases hl with hl | hl
      · rcases hsub b hl with h1 | h1
        · omega
        · exact hn (.inl h1)
      · exact hn (.inr hl)⟩
    have hinv : HInv (w.alloc (.cells arr ty)) (L1 x.L0 res blk' (listed.setIfInBounds i true)) H :=
      { rel := fun b c hm => (h.inv.rel b c hm).mono hkeep (hold b (h.inv.lt (List.mem_map.2 ⟨_, hm, rfl⟩)))
        nodup := h.inv.nodup
        apart := fun b hb hl => by
          rcases hsub b hl with h1 | h1
          · have := h.inv.lt hb; omega
          · exact h.inv.apart b hb h1
        old := fun b hl => by
          rcases hsub b hl with h1 | h1
          · simp [h1]
          · have := h.inv.old b h1; simp; omega }
    refine ⟨blk', h.next hB ho hif hil hready hdn hbk hev hinv hkeep (fun k hk ⟨ty', z', hrk⟩ => hold _ (h.blks k ty' z' hk hrk).2) ?_⟩
    rw [hri]
    refine ⟨by rw [hbi], ⟨hone, arr, by rw [hbi]; exact heap_alloc_new w _, h2, ?_⟩, by rw [hbi]; exact Nat.le_refl _, by rw [hbi]; simp⟩
    rw [List.take_of_length_le (by simp [h2])]
    exact RelL.mono hkeep _ _ h3

def unl (listed : Array Bool) (n : Nat) : Nat := ((List.range n).filter fun i => !listed.getD i true).length

theorem getD_true {listed : Array Bool} {i : Nat} (h : i < listed.size) : listed.getD i true = true ↔ isL listed i := by
  unfold isL
  rw [Array.getD_eq_getD_getElem?, Array.getElem?_eq_getElem h]
  simp

theorem filter_one (p : Nat → Bool) (m : Nat) : ([m].filter p).length = if p m = true then 1 else 0 := by cases h : p m <;> simp [h]

theorem unl_set {listed : Array Bool} {n i : Nat} (hs : listed.size = n) (hi : i < n) (hn : ¬ isL listed i) : unl listed n = unl (listed.setIfInBounds i true) n + 1 := by
  have key : ∀ m, m ≤ n → ((List.range m).filter fun k => !listed.getD k true).length = ((List.range m).filter fun k => !(listed.setIfInBounds i true).getD k true).length + (if i < m then 1 else 0) := by
    intro m
    induction m with
    | zero => intro _; rfl
    | succ m ih =>
      intro hm
      rw [List.range_succ, List.filter_append, List.filter_append, List.length_append, List.length_append, ih (by omega)]
      by_cases e : m = i
      · subst e
        have h1 : listed.getD m true = false := by
          cases h : listed.getD m true with
          | false => rfl
          | true => exact absurd ((getD_true (by omega)).1 h) hn
        have h2 : (listed.setIfInBounds m true).getD m true = true := by simp [Array.getD, hs, hi]
        rw [filter_one, filter_one, h1, h2]
        simp
      · have h1 : (listed.setIfInBounds i true).getD m true = listed.getD m true := by
          simp [Array.getD_eq_getD_getElem?, Array.getElem?_setIfInBounds_ne (Ne.symm e)]
        rw [filter_one, filter_one, h1]
        have h3 : (i < m + 1) = (i < m) := by
          refine propext ⟨fun h => by omega, fun h => by omega⟩
        simp only [h3]
        omega
  have := key n (Nat.le_refl _)
  rw [if_pos hi] at this
  exact this

theorem unl_zero {listed : Array Bool} {n i : Nat} (hs : listed.size = n) (h : unl listed n = 0) (hi : i < n) : isL listed i := by
  unfold unl at h
  have h1 := List.eq_nil_of_length_eq_zero h
  rw [List.filter_eq_nil_iff] at h1
  have := h1 i (List.mem_range.2 hi)
  have h2 : listed.getD i true = true := by simpa using this
  exact (getD_true (by omega)).1 h2

/-- Behind the first operations: the others, one behind the other. -/
theorem tail_any (hB : DrawOk ops f) {Q : Exit → Act → World → Prop} : ∀ (fuel j : Nat) (listed : Array Bool) (a : Act) (w : World), j + fuel = ops.size → f ≤ j → listed.size = ops.size →
    (∀ k, isL listed k ↔ k < j) → wpList P ops Q (ops.toList.drop j) a w → wpAny P .any ops Q fuel listed a w
  | 0, j, listed, a, w, hj, hf, hs, hl, h => by
    have hnil : Region.ready .any ops listed = [] := by
      refine List.eq_nil_iff_forall_not_mem.2 fun i hi => ?_
      obtain ⟨h1, h2, _⟩ := mem_ready_lt hs hi
      exact h2 ((hl i).2 (by omega))
    refine ⟨hnil, ?_⟩
    rw [List.drop_eq_nil_of_le (by simp; omega)] at h
    exact h
  | fuel + 1, j, listed, a, w, hj, hf, hs, hl, h => by
    have hjs : j < ops.size := by omega
    have only : ∀ i, i ∈ Region.ready .any ops listed → i = j := by
      intro i hi
      obtain ⟨h1, h2, o, ho, hr⟩ := mem_ready_lt hs hi
      have hij : j ≤ i := by
        rcases Nat.lt_or_ge i j with h' | h'
        · exact absurd ((hl i).2 h') h2
        · exact h'
      rcases Nat.eq_or_lt_of_le hij with h' | h'
      · exact h'.symm
      · exfalso
        have he := hB.tail i h1 (by omega) j h'
        have := (hl j).1 (reach_listed (S := isL listed) (fun j' e hj' he' => by
          obtain ⟨oj, ed, q1, q2, q3, rfl⟩ := mem_edges.1 he'
          have := hB.back j' oj q1 ed q2 q3
          have := (hl j').1 hj'
          exact (hl ed.on).2 (by omega)) _ i j (fun e he' => by
          obtain ⟨oj, ed, q1, q2, q3, rfl⟩ := mem_edges.1 he'
          rw [ho] at q1; cases q1
          exact hr ed q2 q3) he)
        omega
    have hready : j ∈ Region.ready .any ops listed := by
      refine mem_ready.2 ⟨?_, ops[j], by simp [hjs], fun e he hb => ?_⟩
      · have hn : ¬ isL listed j := fun h' => by have := (hl j).1 h'; omega
        cases hq : listed.getD j true with
        | false => rfl
        | true => exact absurd ((getD_true (by omega)).1 hq) hn
      · have hlt := hB.back j ops[j] (by simp [hjs]) e he hb
        have := (hl e.on).2 hlt
        unfold isL at this
        rw [Array.getD_eq_getD_getElem?, this]; rfl
    refine ⟨fun h0 => by rw [h0] at hready; exact absurd hready List.not_mem_nil, fun i hi => ?_⟩
    obtain rfl := only i hi
    rw [List.drop_eq_getElem_cons (by simpa using hjs)] at h
    have ih := fun a w => tail_any hB (Q := Q) fuel (i + 1) (listed.setIfInBounds i true) a w (by omega) (by omega) (by simp [hs]) (fun k => by rw [isL_set (by omega), hl k]; omega)
    unfold wpOp
    have ho : ops[i]? = some ops[i] := by simp [hjs]
    rw [ho]
    simp only
    have hel : ops.toList[i]'(by simpa using hjs) = ops[i] := by simp
    rw [hel] at h
    unfold wpList at h
    split
    · rename_i hw
      rw [if_pos hw] at h
      exact h.imp (Oper.wp_mono ih) id
    · rename_i hw
      rw [if_neg hw] at h
      exact ih _ _ h

theorem front_any (hB : DrawOk ops f) (hs0 : SRel x ⟨E, H⟩ a0 ws) {Q : Exit → Act → World → Prop} (hok : ∀ j, j < f → ∃ o, ops[j]? = some o ∧ FOk P ops (envG ops 0 E res j) H o (res j))
    (hdst : ∀ k t, dstAt ops k = some t → t < x.n) (hfin : ∀ blk listed a w, (∀ k, isL listed k ↔ k < f) → FInv x ops f res H a0 ws blk listed a w → wpList P ops Q (ops.toList.drop f) a w) :
    ∀ (fuel : Nat) (blk : Nat → Nat) (listed : Array Bool) (a : Act) (w : World), unl listed ops.size = fuel → FInv x ops f res H a0 ws blk listed a w → wpAny P .any ops Q fuel listed a w := by
  intro fuel
  induction fuel with
  | zero =>
    intro blk listed a w hu h
    have all : ∀ k, k < ops.size → isL listed k := fun k hk => unl_zero h.lsize hu hk
    have hfs : f = ops.size := by
      rcases Nat.eq_or_lt_of_le hB.le with h' | h'
      · exact h'
      · have := h.front f (all f h'); omega
    exact tail_any hB 0 f listed a w (by omega) (Nat.le_refl _) h.lsize (fun k => ⟨h.front k, fun hk => all k (by omega)⟩) (hfin blk listed a w (fun k => ⟨h.front k, fun hk => all k (by omega)⟩) h)
  | succ fuel ih =>
    intro blk listed a w hu h
    by_cases hall : ∀ k, k < f → isL listed k
    · have hl : ∀ k, isL listed k ↔ k < f := fun k => ⟨h.front k, hall k⟩
      have hcount : f + (fuel + 1) = ops.size := by
        have key : ∀ m, m ≤ ops.size → ((List.range m).filter fun k => !listed.getD k true).length = m - f := by
          intro m
          induction m with
          | zero => intro _; simp
          | succ m ihm =>
            intro hm
            rw [List.range_succ, List.filter_append, List.length_append, ihm (by omega)]
            by_cases hmf : m < f
            · have : listed.getD m true = true := (getD_true (by rw [h.lsize]; omega)).2 ((hl m).2 hmf)
              rw [filter_one, this]; simp; omega
            · have : listed.getD m true = false := by
                cases hq : listed.getD m true with
                | false => rfl
                | true => exact absurd ((hl m).1 ((getD_true (by rw [h.lsize]; omega)).1 hq)) hmf
              rw [filter_one, this]; simp; omega
        have := key ops.size (Nat.le_refl _)
        unfold unl at hu
        have := hB.le
        omega
      exact tail_any hB (fuel + 1) f listed a w hcount (Nat.le_refl _) h.lsize hl (hfin blk listed a w hl h)
    · -- the least one that is not listed
      have hex : ∃ k, k < f ∧ ¬ isL listed k := by
        refine Classical.byContradiction fun hn => hall fun k hk => Classical.byContradiction fun hkl => hn ⟨k, hk, hkl⟩
      have least : ∀ m, ∀ k, k ≤ m → k < f → ¬ isL listed k → ∃ k', k' < f ∧ ¬ isL listed k' ∧ ∀ l, l < k' → isL listed l := by
        intro m
        induction m with
        | zero => intro k hk hkf hkl; exact ⟨k, hkf, hkl, fun l hl => by omega⟩
        | succ m ihm =>
          intro k hk hkf hkl
          by_cases hp : ∀ l, l < k → isL listed l
          · exact ⟨k, hkf, hkl, hp⟩
          · have : ∃ l, l < k ∧ ¬ isL listed l := Classical.byContradiction fun hn => hp fun l hl => Classical.byContradiction fun hll => hn ⟨l, hl, hll⟩
            obtain ⟨l, h1, h2⟩ := this
            exact ihm l (by omega) (by omega) h2
      obtain ⟨k0, hk0f, hk0⟩ := hex
      obtain ⟨k, hkf, hkl, hkp⟩ := least k0 k0 (Nat.le_refl _) hk0f hk0
      have hks : k < ops.size := Nat.lt_of_lt_of_le hkf hB.le
      have hready : k ∈ Region.ready .any ops listed := by
        refine mem_ready.2 ⟨?_, ops[k], by simp [hks], fun e he hb => ?_⟩
        · cases hq : listed.getD k true with
          | false => rfl
          | true => exact absurd ((getD_true (by rw [h.lsize]; omega)).1 hq) hkl
        · have hlt := hB.back k ops[k] (by simp [hks]) e he hb
          have := hkp e.on hlt
          unfold isL at this
          rw [Array.getD_eq_getD_getElem?, this]; rfl
      refine ⟨fun h0 => by rw [h0] at hready; exact absurd hready List.not_mem_nil, fun i hi => ?_⟩
      have hif : i < f := by
        rcases Nat.lt_or_ge i f with h' | h'
        · exact h'
        · exfalso
          obtain ⟨h1, h2, o, ho, hr⟩ := mem_ready_lt h.lsize hi
          have he := hB.tail i h1 h' k (by omega)
          exact hkl (reach_listed (S := isL listed) (fun j' e hj' he' => by
            obtain ⟨oj, ed, q1, q2, q3, rfl⟩ := mem_edges.1 he'
            exact h.down j' oj q1 hj' ed q2 q3) _ i k (fun e he' => by
            obtain ⟨oj, ed, q1, q2, q3, rfl⟩ := mem_edges.1 he'
            rw [ho] at q1; cases q1
            exact hr ed q2 q3) he)
      obtain ⟨h1, h2, _⟩ := mem_ready_lt h.lsize hi
      refine wpOp_mono (fun a' w' ⟨blk', h'⟩ => ih blk' _ a' w' ?_ h') (h.step hB hs0 hok hdst hi hif)
      have := unl_set h.lsize h1 h2
      omega

end

end Go.Vc
