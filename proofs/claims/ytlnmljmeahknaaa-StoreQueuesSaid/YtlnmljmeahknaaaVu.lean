/- Own data, read by others: let go for good, or lent to a call. No condition. -/
import Derived.Test.YtlnmljmeahknaaaVs
namespace Go.Vc
set_option linter.unusedSimpArgs false
open Go
set_option linter.unusedVariables false

mutual
/-- Own data ('d', with the blocks 'H') may be read as 'd''. -/
def Fz (H : Heap) : D → D → Prop
  | .sl full esz rows, d => d = .sl full esz rows ∨ (full = false ∧ ((∃ f, d = .sl f esz rows) ∨ (rows = [] ∧ d = .gs none 0) ∨
      ∃ b o n cap, (d = .gs (some (b, cap)) n ∧ o = 0 ∨ d = .os b o n cap) ∧ n = rows.length ∧ ∃ e k l, (b, HC.cells e k l) ∈ H ∧ FzR H esz rows (l.drop o)))
  | .pt row, d => d = .pt row ∨ ∃ b o e k l, d = .is (.pointer (some ⟨b, o, none⟩)) ∧ (b, HC.cells e k l) ∈ H ∧ FzC H row (l.drop o)
  | .agg l', d => ∃ l, d = .agg l ∧ FzL H l' l
  | .tup l', d => ∃ l, d = .tup l ∧ FzL H l' l
  | .ifc t x', d => ∃ x, d = .ifc t x ∧ Fz H x' x
  | .is v, d => d = .is v
  | .gs g n, d => d = .gs g n
  | .os b o n cap, d => d = .os b o n cap
  | .any, d => d = .any
termination_by structural d => d
def FzL (H : Heap) : List D → List D → Prop
  | [], l => l = []
  | d' :: ds', l => ∃ d ds, l = d :: ds ∧ Fz H d' d ∧ FzL H ds' ds
def FzC (H : Heap) : List D → List D → Prop
  | [], _ => True
  | d' :: ds', l => ∃ d ds, l = d :: ds ∧ Fz H d' d ∧ FzC H ds' ds
def FzR (H : Heap) (esz : Nat) : List (List D) → List D → Prop
  | [], _ => True
  | r :: rs, l => r.length = esz ∧ FzC H r l ∧ FzR H esz rs (l.drop esz)
end

mutual
theorem Fz.refl (H : Heap) : ∀ d, Fz H d d
  | .sl .. => .inl rfl
  | .pt _ => .inl rfl
  | .agg l => ⟨l, rfl, FzL.refl H l⟩
  | .tup l => ⟨l, rfl, FzL.refl H l⟩
  | .ifc t x => ⟨x, rfl, Fz.refl H x⟩
  | .is _ => rfl
  | .gs .. => rfl
  | .os .. => rfl
  | .any => rfl
theorem FzL.refl (H : Heap) : ∀ l, FzL H l l
  | [] => rfl
  | d :: ds => ⟨d, ds, rfl, Fz.refl H d, FzL.refl H ds⟩
end
theorem FzC.refl (H : Heap) : ∀ (l r : List D), FzC H l (l ++ r)
  | [], _ => trivial
  | d :: ds, r => ⟨d, ds ++ r, rfl, Fz.refl H d, FzC.refl H ds r⟩
theorem FzR.refl (H : Heap) {esz : Nat} : ∀ (rows : List (List D)), (∀ r, r ∈ rows → r.length = esz) → FzR H esz rows rows.flatten
  | [], _ => trivial
  | r :: rs, h => by
    have h1 := h r (List.mem_cons_self ..)
    refine ⟨h1, ?_, ?_⟩
    · rw [List.flatten_cons]; exact FzC.refl H r _
    · rw [List.flatten_cons, List.drop_left' h1]; exact FzR.refl H rs fun r hr => h r (List.mem_cons_of_mem _ hr)

theorem Fz.one {H : Heap} {d' d : D} (h : Fz H d' d) (h1 : oneD d = true) : oneD d' = true := by
  cases d' with
  | sl => rfl
  | pt => rfl
  | agg l' => obtain ⟨l, rfl, _⟩ := h; cases h1
  | tup l' => obtain ⟨l, rfl, _⟩ := h; cases h1
  | ifc t x' => rfl
  | is v => obtain rfl : d = .is v := h; exact h1
  | gs g n => rfl
  | os => rfl
  | any => obtain rfl : d = .any := h; exact h1
theorem FzL.one {H : Heap} : ∀ {ds' ds : List D}, FzL H ds' ds → ds.all oneD = true → ds'.all oneD = true
  | [], _, _, _ => rfl
  | d' :: ds', l, h, h1 => by
    obtain ⟨d, ds, rfl, h2, h3⟩ := h
    rw [List.all_cons, Bool.and_eq_true] at h1
    rw [List.all_cons, h2.one h1.1, h3.one h1.2]; rfl

/-- What is asked of the blocks that are let go. -/
structure Lets (w : World) (L0 : Nat → Prop) (H H1 : Heap) (L : Nat → Prop) : Prop where
  inv : HInv w L0 H
  sub : ∀ b c, (b, c) ∈ H1 → (b, c) ∈ H ∧ ¬ L b
  less : ∀ b, b < w.heap.size → L b → live H L0 b

mutual
theorem Rel.fz {w : World} {L0 L : Nat → Prop} {H H1 : Heap} (k : Lets w L0 H H1 L) : ∀ (d' d : D) (v : Value), Fz H1 d' d → Rel w (live H L0) d v → Rel w L d' v
  | .sl full esz rows, d, v, h, r => by
    rcases h with rfl | ⟨rfl, h⟩
    · exact Rel.mono (Keeps.less k.less) _ _ r
    rcases h with ⟨f, rfl⟩ | ⟨rfl, rfl⟩ | ⟨b, o, n, cap, hd, rfl, e, kk, l, hm, hr⟩
    · have r' := Rel.mono (Keeps.less k.less) _ _ r
      obtain ⟨a, cap, h1, h2, _, h3⟩ := r'
      exact ⟨a, cap, h1, h2, fun h => (by cases h), h3⟩
    · obtain ⟨rfl, _⟩ := r
      exact ⟨none, 0, rfl, ⟨Nat.le_refl _, fun _ => rfl⟩, fun h => (by cases h), .inl rfl⟩
    · obtain ⟨hmH, hL⟩ := k.sub _ _ hm
      have hc := k.inv.rel b _ hmH
      have hone := hc.1
      obtain ⟨cs, hcs, hcell⟩ := HRel.cells hc
      have hrows : RowsAt w L esz rows b o := RowsAt.fz k esz hL rows _ (cs.drop o) o hr (all_drop hone _) (RelL.drop o _ _ hcs) (fun j u hj => hcell _ _ (by rw [List.getElem?_drop] at hj; exact hj))
      rcases hd with ⟨rfl, rfl⟩ | rfl
      · obtain ⟨rfl, hg⟩ := r
        exact ⟨some ⟨b, 0, none⟩, cap, rfl, ⟨hg, fun h => (by cases h)⟩, fun h => (by cases h), .inr ⟨b, 0, rfl, hrows⟩⟩
      · obtain ⟨o', rfl, hg, ho⟩ := r
        by_cases h0 : rows.length = 0
        · exact ⟨some ⟨b, o', none⟩, cap, rfl, ⟨hg, fun h => (by cases h)⟩, fun h => (by cases h), .inl (List.eq_nil_of_length_eq_zero h0)⟩
        · obtain rfl := ho (by omega)
          exact ⟨some ⟨b, o', none⟩, cap, rfl, ⟨hg, fun h => (by cases h)⟩, fun h => (by cases h), .inr ⟨b, o', rfl, hrows⟩⟩
  | .pt row, d, v, h, r => by
    rcases h with rfl | ⟨b, o, e, kk, l, rfl, hm, hr⟩
    · exact Rel.mono (Keeps.less k.less) _ _ r
    · obtain ⟨hmH, hL⟩ := k.sub _ _ hm
      have hc := k.inv.rel b _ hmH
      have hone := hc.1
      obtain ⟨cs, hcs, hcell⟩ := HRel.cells hc
      obtain rfl : v = .pointer (some ⟨b, o, none⟩) := r
      exact ⟨b, o, rfl, CellsAt.fz k hL row _ (cs.drop o) o hr (all_drop hone _) (RelL.drop o _ _ hcs) (fun j u hj => hcell _ _ (by rw [List.getElem?_drop] at hj; exact hj))⟩
  | .agg l', d, v, h, r => by
    obtain ⟨l, rfl, h⟩ := h
    obtain ⟨h1, cs, rfl, hr⟩ := r
    exact ⟨FzL.one h h1, cs, rfl, RelL.fz k l' l _ h hr⟩
  | .tup l', d, v, h, r => by
    obtain ⟨l, rfl, h⟩ := h
    obtain ⟨cs, rfl, hr⟩ := r
    exact ⟨cs, rfl, RelL.fz k l' l _ h hr⟩
  | .ifc t x', d, v, h, r => by
    obtain ⟨x, rfl, h⟩ := h
    obtain ⟨y, rfl, hr⟩ := r
    exact ⟨y, rfl, Rel.fz k x' x y h hr⟩
  | .is u, d, v, h, r => by obtain rfl : d = .is u := h; exact r
  | .gs g n, d, v, h, r => by obtain rfl : d = .gs g n := h; exact r
  | .os b o n cap, d, v, h, r => by obtain rfl : d = .os b o n cap := h; exact r
  | .any, d, v, h, r => trivial
theorem RelL.fz {w : World} {L0 L : Nat → Prop} {H H1 : Heap} (k : Lets w L0 H H1 L) : ∀ (l' l : List D) (vs : List Value), FzL H1 l' l → RelL w (live H L0) l vs → RelL w L l' vs
  | [], l, vs, h, r => by obtain rfl : l = [] := h; exact r
  | d' :: ds', l, vs, h, r => by
    obtain ⟨d, ds, rfl, h1, h2⟩ := h
    obtain ⟨v, rest, rfl, r1, r2⟩ := r
    exact ⟨v, rest, rfl, Rel.fz k d' d v h1 r1, RelL.fz k ds' ds rest h2 r2⟩
theorem CellsAt.fz {w : World} {L0 L : Nat → Prop} {H H1 : Heap} {b : Nat} (k : Lets w L0 H H1 L) (hL : ¬ L b) : ∀ (l' l : List D) (vs : List Value) (o : Nat), FzC H1 l' l → l.all oneD = true → RelL w (live H L0) l vs →
    (∀ (j : Nat) v, vs[j]? = some v → w.cell? ⟨b, o + j, none⟩ = some v) → CellsAt w L l' b o
  | [], _, _, _, _, _, _, _ => trivial
  | d' :: ds', l, vs, o, h, ha, r, hc => by
    obtain ⟨d, ds, rfl, h1, h2⟩ := h
    obtain ⟨v, rest, rfl, r1, r2⟩ := r
    rw [List.all_cons, Bool.and_eq_true] at ha
    refine ⟨hL, ⟨h1.one ha.1, v, by simpa using hc 0 v rfl, Rel.fz k d' d v h1 r1⟩, CellsAt.fz k hL ds' ds rest (o + 1) h2 ha.2 r2 fun j u hj => ?_⟩
    have := hc (j + 1) u (by simpa using hj)
    rwa [show o + (j + 1) = o + 1 + j by omega] at this
theorem RowsAt.fz {w : World} {L0 L : Nat → Prop} {H H1 : Heap} {b : Nat} (k : Lets w L0 H H1 L) (esz : Nat) (hL : ¬ L b) : ∀ (rows : List (List D)) (l : List D) (vs : List Value) (o : Nat), FzR H1 esz rows l → l.all oneD = true → RelL w (live H L0) l vs →
    (∀ (j : Nat) v, vs[j]? = some v → w.cell? ⟨b, o + j, none⟩ = some v) → RowsAt w L esz rows b o
  | [], _, _, _, _, _, _, _ => trivial
  | r :: rs, l, vs, o, h, ha, hr, hc => by
    obtain ⟨h1, h2, h3⟩ := h
    refine ⟨h1, CellsAt.fz k hL r l vs o h2 ha hr hc, RowsAt.fz k esz hL rs (l.drop esz) (vs.drop esz) (o + esz) h3 (all_drop ha _) (RelL.drop esz _ _ hr) fun j u hj => ?_⟩
    rw [List.getElem?_drop] at hj
    have := hc _ u hj
    rwa [show o + (esz + j) = o + esz + j by omega] at this
end

/-- A function hands back what it has made, to be read. -/
theorem Fun.fz {P : Program} {f : FuncId} {args : List D} {d0 : D} (h : Fun P f args [] false (fun d H' => Fz H' d0 d)) : Pure P f args d0 := by
  refine ⟨h.1, fun w L0 vs hi hv => (h.2 w L0 vs hi hv).mono fun ee w' ⟨v, he, d, H', hd, h2, h3, h4⟩ => ?_⟩
  refine ⟨v, he, d0, [], ⟨rfl, rfl⟩, ?_, SubH.inv (List.nil_sublist _) h3, SubH.evo (List.nil_sublist _) h4⟩
  have hl : ∀ b, live [] (fun b => L0 b ∨ (false = true ∧ b < w.heap.size ∧ b ∉ Heap.blocks [])) b → L0 b := fun b hl => by
    rcases hl with (hl | hl) | hl
    · exact hl
    · cases hl.1
    · simp [Heap.blocks] at hl
  have h2' : Rel w' (live H' L0) d v := Rel.mono (Keeps.less fun b _ hl => by
    rcases hl with hl | hl
    · exact .inl (.inl hl)
    · exact .inr hl) _ _ h2
  refine Rel.fz ⟨h3, fun b c hm => ⟨hm, fun hl' => ?_⟩, fun b _ hl' => .inl (hl b hl')⟩ d0 d v hd h2'
  exact h3.apart b (List.mem_map.2 ⟨_, hm, rfl⟩) (hl b hl')

/-- In a walk: blocks are let go, a slot is read from now on. -/
theorem Weak.fz {env : Nat → D} {H H1 H' : Heap} {t : Nat} {d' : D} (hd : Fz H1 d' (env t)) (h1 : ∀ b c, (b, c) ∈ H1 → (b, c) ∈ H ∧ b ∉ H'.blocks) (hs : H'.Sublist H) :
    Weak ⟨env, H⟩ ⟨upd env t d', H'⟩ := fun x a w h =>
  { env := fun u => by
      simp only [upd]
      by_cases e : t = u
      · subst e
        rw [beq_self_eq_true, cond_true]
        refine Rel.fz ⟨h.inv, fun b c hm => ⟨(h1 b c hm).1, fun hl => ?_⟩, fun b _ hl => hl.imp id (SubH.blocks hs b)⟩ _ _ _ hd (h.env t)
        rcases hl with hl | hl
        · exact h.inv.apart b (List.mem_map.2 ⟨_, (h1 b c hm).1, rfl⟩) hl
        · exact (h1 b c hm).2 hl
      · have : (t == u) = false := by simpa using e
        rw [this, cond_false]
        exact Rel.mono (SubH.live hs w x.L0) _ _ (h.env u)
    inv := SubH.inv hs h.inv, evo := SubH.evo hs h.evo, defers := h.defers, size := h.size }

/-- Plain data: it leads nowhere. -/
def plainD : D → Bool
  | .is _ => true
  | _ => false
def plainT : D → Bool
  | .is _ => true
  | .agg l | .tup l => l.all plainD
  | _ => false
theorem Rel.plainD {w w' : World} {L L' : Nat → Prop} {d : D} {v : Value} (h : plainD d = true) (r : Rel w L d v) : Rel w' L' d v := by
  cases d <;> first | exact r | cases h
theorem RelL.plain {w w' : World} {L L' : Nat → Prop} : ∀ (l : List D) (vs : List Value), l.all Vc.plainD = true → RelL w L l vs → RelL w' L' l vs
  | [], vs, _, r => r
  | d :: ds, vs, h, r => by
    obtain ⟨v, rest, rfl, r1, r2⟩ := r
    rw [List.all_cons, Bool.and_eq_true] at h
    exact ⟨v, rest, rfl, Rel.plainD h.1 r1, RelL.plain ds rest h.2 r2⟩
theorem Rel.plain {w w' : World} {L L' : Nat → Prop} {d : D} {v : Value} (h : plainT d = true) (r : Rel w L d v) : Rel w' L' d v := by
  cases d with
  | is u => exact r
  | agg l => obtain ⟨h1, cs, rfl, hr⟩ := r; exact ⟨h1, cs, rfl, RelL.plain _ _ h hr⟩
  | tup l => obtain ⟨cs, rfl, hr⟩ := r; exact ⟨cs, rfl, RelL.plain _ _ h hr⟩
  | _ => cases h

/-- A call that only reads what is lent. -/
theorem Op1.lend {P : Program} {o : Oper} {E : Operand → D} {f : FuncId} {as : Array Operand} {tys : Array TypeId} {H : Heap} {fr : Bool} {d0 : D} {args : List D} {K : D → Heap → Prop}
    (ho : o.op = .call ⟨.value (.func f), as, tys⟩) (hE : E (.func f) = .is (.func (.func f) #[] #[])) (h : Fun P f args [] fr (fun d H' => d = d0 ∧ H' = [])) (ha : FzL H args (as.toList.map E))
    (hp : fr = true ∨ plainT d0 = true) (hk : K d0 H) : Op1 P o E H K := by
  refine ⟨fun d H' => d = d0 ∧ H' = H, ?_, fun d H' ⟨h1, h2⟩ => h1 ▸ h2 ▸ hk⟩
  intro w L0 ε hi hx
  obtain ⟨⟨fn, hf, hbody, hname⟩, h⟩ := h
  have hrun : (execOp ε o).run P w = .ok (.enter f (as.toList.map ε).toArray) w := by
    have hff : ε (.func f) = .func (.func f) #[] #[] := by
      have := hx (.func f) (by simp [ho, Op.operands, Call.operands])
      rw [hE] at this; exact this
    have := run_callFunc hf hbody hname (as.map ε) w
    have e : (as.toList.map ε).toArray = as.map ε := by rw [← Array.toList_map]
    rw [e]
    simp [execOp, ho, resolve, Deferred.ofValue, hff, invoke, go_sem]
    exact this
  rw [hrun]
  have hargs : RelL w (live H L0) (as.toList.map E) (as.toList.map ε) := by
    have : ∀ l : List Operand, (∀ x ∈ l, x ∈ as.toList) → RelL w (live H L0) (l.map E) (l.map ε) := by
      intro l
      induction l with
      | nil => intro _; rfl
      | cons x l ih =>
        intro hl
        refine ⟨ε x, l.map ε, rfl, hx x ?_, ih fun y hy => hl y (List.mem_cons_of_mem _ hy)⟩
        have := hl x (List.mem_cons_self ..)
        simp only [ho, Op.operands, Call.operands]
        exact Array.mem_append.2 (.inr (Array.mem_toList_iff.1 this))
    exact this _ fun _ h => h
  have hlet : Lets w L0 H H (live [] L0) := ⟨hi, fun b c hm => ⟨hm, fun hl => by
    rcases hl with hl | hl
    · exact hi.apart b (List.mem_map.2 ⟨_, hm, rfl⟩) hl
    · cases hl⟩, fun b _ hl => by
    rcases hl with hl | hl
    · exact .inl hl
    · cases hl⟩
  have hi0 : HInv w L0 [] := ⟨fun b c hm => (by cases hm), List.nodup_nil, fun b hb => (by cases hb), hi.old⟩
  refine (h w L0 _ hi0 (RelL.fz hlet _ _ _ ha hargs)).mono ?_
  rintro e w' ⟨v, rfl, d, Hp', ⟨rfl, rfl⟩, hrel, hi', he⟩
  have hblk : ∀ b, b < w.heap.size → w'.heap[b]? = w.heap[b]? := fun b hb => he.block b hb (by simp [Heap.blocks])
  have hlt : ∀ b, b ∈ H.blocks → b < w.heap.size := fun b hb => hi.lt hb
  have hkeep : Keeps w (live H L0) w' (live H L0) := fun b hb hn => ⟨hblk b hb, hn⟩
  refine ⟨v, rfl, d, H, ⟨rfl, rfl⟩, ?_, ⟨fun b c hm => (hi.rel b c hm).mono hkeep (hblk b (hlt b (List.mem_map.2 ⟨_, hm, rfl⟩))), hi.nodup, hi.apart, hi'.old⟩,
    ⟨he.os, he.tape, he.output, he.size, fun b hb _ => hblk b hb, fun b hb => .inl hb⟩⟩
  rcases hp with rfl | hp
  · refine Rel.mono (Keeps.less fun b _ hl => ?_) _ _ hrel
    rcases hl with hl | hl
    · exact .inl (.inl hl)
    · exact .inl (.inr ⟨rfl, hlt b hl, by simp [Heap.blocks]⟩)
  · exact Rel.plain hp hrel

end Go.Vc
