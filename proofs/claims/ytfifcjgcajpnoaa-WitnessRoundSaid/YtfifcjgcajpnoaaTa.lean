/- Calls through method values. No condition. -/
import Derived.Test.YtfifcjgcajpnoaaWa
namespace Go.Vc
set_option linter.unusedSimpArgs false
set_option linter.unusedVariables false
open Go

/-- A call that comes to a function, however it is written; its own blocks anywhere. -/
theorem Op1.enterH {P : Program} {o : Oper} {E : Operand → D} {f : FuncId} {args : List D} {H Hp Hr : Heap} {fr : Bool} {Φ : D → Heap → Prop} {K : D → Heap → Prop} (h : Fun P f args Hp fr Φ) (hp : H.Perm (Hp ++ Hr))
    (hrun : ∀ (w : World) (L : Nat → Prop) (ε : Operand → Value), (∀ fn, P.funcs[f]? = some fn → fn.body.isSome = true → (fn.name == "runtime.NumGoroutine") = false → ∀ (xs : Array Value) (w : World), (callFunc f xs).run P w = .ok (.enter f xs) w) →
      (∀ y, y ∈ o.op.operands → Rel w L (E y) (ε y)) → ∃ vs : List Value, (execOp ε o).run P w = .ok (.enter f vs.toArray) w ∧ RelL w L args vs)
    (hk : ∀ d H', Φ d H' → K d (H' ++ Hr)) : Op1 P o E H K := by
  refine Op1.perm hp ?_
  refine ⟨fun d H' => ∃ Hp', Φ d Hp' ∧ H' = Hp' ++ Hr, ?_, fun d H' ⟨Hp', h1, h2⟩ => h2 ▸ hk d Hp' h1⟩
  intro w L0 ε hi hx
  obtain ⟨⟨fn, hf, hbody, hname⟩, h⟩ := h
  obtain ⟨vs, hr0, hargs⟩ := hrun w _ ε (fun fn hf hb hn xs w => run_callFunc hf hb hn xs w) hx
  rw [hr0]
  have hmem : ∀ b, b ∈ (Hp ++ Hr).blocks ↔ b ∈ Hp.blocks ∨ b ∈ Hr.blocks := fun b => by simp [Heap.blocks]
  let L1 : Nat → Prop := fun b => L0 b ∨ b ∈ Hr.blocks
  have hlt : ∀ b, b ∈ (Hp ++ Hr).blocks → b < w.heap.size := fun b hb => hi.lt hb
  have hnd : Hp.blocks.Nodup ∧ Hr.blocks.Nodup ∧ ∀ b, b ∈ Hp.blocks → b ∉ Hr.blocks := by
    have := hi.nodup
    simp only [Heap.blocks, List.map_append] at this
    obtain ⟨h1, h2, h3⟩ := List.nodup_append.1 this
    exact ⟨h1, h2, fun b hp hr => h3 b hp b hr rfl⟩
  have same : ∀ b, live Hp L1 b ↔ live (Hp ++ Hr) L0 b := fun b => by
    simp only [live, L1, hmem]
    constructor
    · rintro ((h | h) | h)
      · exact .inl h
      · exact .inr (.inr h)
      · exact .inr (.inl h)
    · rintro (h | h | h)
      · exact .inl (.inl h)
      · exact .inr h
      · exact .inl (.inr h)
  have hk1 : Keeps w (live (Hp ++ Hr) L0) w (live Hp L1) := Keeps.less fun b _ hl => (same b).1 hl
  have hi1 : HInv w L1 Hp :=
    { rel := fun b c hm => (hi.rel b c (List.mem_append_left _ hm)).mono hk1 rfl
      nodup := hnd.1
      apart := fun b hb hl => by
        rcases hl with hl | hl
        · exact hi.apart b ((hmem b).2 (.inl hb)) hl
        · exact hnd.2.2 b hb hl
      old := fun b hl => by
        rcases hl with hl | hl
        · exact hi.old b hl
        · exact hlt b ((hmem b).2 (.inr hl)) }
  refine (h w L1 _ hi1 (RelL.mono hk1 _ _ hargs)).mono ?_
  rintro e w' ⟨v, rfl, d, Hp', hΦ, hrel, hi', he⟩
  have hmem' : ∀ b, b ∈ (Hp' ++ Hr).blocks ↔ b ∈ Hp'.blocks ∨ b ∈ Hr.blocks := fun b => by simp [Heap.blocks]
  have hevo : Evo w (Hp ++ Hr) w' (Hp' ++ Hr) :=
    ⟨he.os, he.tape, he.output, he.size, fun b hb hn => he.block b hb (fun h => hn ((hmem b).2 (.inl h))), fun b hb => by
      rcases (hmem' b).1 hb with h | h
      · exact (he.fresh b h).imp (fun h => (hmem b).2 (.inl h)) id
      · exact .inl ((hmem b).2 (.inr h))⟩
  refine ⟨v, rfl, d, Hp' ++ Hr, ⟨Hp', hΦ, rfl⟩, ?_, ?_, hevo⟩
  · refine Rel.mono (Keeps.less fun b _ hl => ?_) _ _ hrel
    rcases hl with hl | hl
    · exact .inl (.inl (.inl hl))
    · rcases (hmem' b).1 hl with hl | hl
      · exact .inr hl
      · exact .inl (.inl (.inr hl))
  · exact
      { rel := fun b c hm => by
          rcases List.mem_append.1 hm with hm | hm
          · refine (hi'.rel b c hm).mono (Keeps.less fun b _ hl => ?_) rfl
            rcases hl with hl | hl
            · exact .inl (.inl hl)
            · rcases (hmem' b).1 hl with hl | hl
              · exact .inr hl
              · exact .inl (.inr hl)
          · have hbr : b ∈ Hr.blocks := List.mem_map.2 ⟨(b, c), hm, rfl⟩
            exact (hi.rel b c (List.mem_append_right _ hm)).mono hevo.keeps (he.block b (hlt b ((hmem b).2 (.inr hbr))) (fun h => hnd.2.2 b h hbr))
        nodup := by
          simp only [Heap.blocks, List.map_append]
          refine List.nodup_append.2 ⟨hi'.nodup, hnd.2.1, fun a ha b hb hab => ?_⟩
          subst hab
          rcases he.fresh a ha with h | h
          · exact hnd.2.2 a h hb
          · have := hlt a ((hmem a).2 (.inr hb)); omega
        apart := fun b hb hl => by
          rcases (hmem' b).1 hb with h | h
          · exact hi'.apart b h (.inl hl)
          · exact hi.apart b ((hmem b).2 (.inr h)) hl
        old := fun b hl => Nat.lt_of_lt_of_le (hi.old b hl) he.size }


/-- A call through a method value. -/
theorem Op1.callB {P : Program} {o : Oper} {E : Operand → D} {f : FuncId} {xf : Operand} {xs : Array Operand} {tys : Array TypeId} {bs : Array Value} {args : List D} {H Hp Hr : Heap} {fr : Bool} {Φ : D → Heap → Prop} {K : D → Heap → Prop}
    (ho : o.op = .call ⟨.value xf, xs, tys⟩) (hE : E xf = .is (.func (.func f) bs #[])) (ha : bs.toList.map D.is ++ xs.toList.map E = args) (h : Fun P f args Hp fr Φ)
    (hp : H.Perm (Hp ++ Hr)) (hk : ∀ d H', Φ d H' → K d (H' ++ Hr)) : Op1 P o E H K := by
  subst ha
  have hF := h.1
  obtain ⟨fn, hf, hb, hn⟩ := hF
  refine Op1.enterH h hp (fun w L ε hc hx => ?_) hk
  have hff : ε xf = .func (.func f) bs #[] := by
    have := hx xf (by simp [ho, Op.operands, Call.operands])
    rw [hE] at this; exact this
  refine ⟨bs.toList ++ xs.toList.map ε, ?_, ?_⟩
  · have e : (bs.toList ++ xs.toList.map ε).toArray = bs ++ xs.map ε := by
      apply Array.ext'
      simp
    rw [e, ← hc fn hf hb hn (bs ++ xs.map ε) w]
    simp [execOp, ho, resolve, Deferred.ofValue, hff, Go.invoke, go_sem]
  · refine RelL.append _ _ _ _ (relL_is _ _ _) ?_
    have : ∀ l : List Operand, (∀ x ∈ l, x ∈ xs.toList) → RelL w L (l.map E) (l.map ε) := by
      intro l
      induction l with
      | nil => intro _; rfl
      | cons x l ih =>
        intro hl
        refine ⟨ε x, l.map ε, rfl, hx x ?_, ih fun y hy => hl y (List.mem_cons_of_mem _ hy)⟩
        have := hl x (List.mem_cons_self ..)
        simp only [ho, Op.operands, Call.operands]
        exact Array.mem_append.2 (.inr (Array.mem_toList_iff.1 this))
    exact this _ fun _ h => h
/-- A method value. -/
theorem r_mkBound {P : Program} {o : Oper} {E : Operand → D} {H : Heap} {K : D → Heap → Prop} {fn : Fn} {c : Operand} {u : Value} (ho : o.op = .makeFunc fn #[c] #[]) (hc : E c = .is u)
    (hk : K (.is (.func fn #[u] #[])) H) : Op1 P o E H K := by
  refine Op1.value (d := .is (.func fn #[u] #[])) (fun w L0 ε hi hx => ⟨.func fn #[u] #[], ?_, rfl⟩) hk
  have h1 := hx c (by simp [ho, Op.operands])
  rw [hc] at h1
  have h1' : ε c = u := h1
  simp only [execOp, ho, Instr.makeFunc]
  have e2 : Array.map ε #[c] = #[u] := by simp [h1']
  have e3 : Array.map ε #[] = #[] := by simp
  rw [e2, e3]
  rfl
end Go.Vc
/- Calls of functions that take blocks of one's own, wherever they stand. No condition. -/
namespace Go.Vc
set_option linter.unusedSimpArgs false
set_option linter.unusedVariables false
open Go

/-- Some of a heap's blocks, in their order, and the rest. -/
inductive Pick : Heap → Heap → Heap → Prop where
  | nil {H : Heap} : Pick [] H H
  | take {x : Nat × HC} {Hp H Hr : Heap} : Pick Hp H Hr → Pick (x :: Hp) (x :: H) Hr
  | skip {x : Nat × HC} {Hp H Hr : Heap} : Pick Hp H Hr → Pick Hp (x :: H) (x :: Hr)
theorem Pick.perm {Hp H Hr : Heap} (h : Pick Hp H Hr) : H.Perm (Hp ++ Hr) := by
  induction h with
  | nil => exact List.Perm.refl _
  | take _ ih => exact List.Perm.cons _ ih
  | skip _ ih => exact (List.Perm.cons _ ih).trans List.perm_middle.symm
/-- A call that hands back a value, and its blocks with what is in them now. -/
theorem Op1.callV {P : Program} {o : Oper} {E : Operand → D} {f : FuncId} {xf : Operand} {xs : Array Operand} {tys : Array TypeId} {args : List D} {H Hp Hr : Heap} {fr : Bool} {dv : D} {hv : Heap} {K : D → Heap → Prop}
    (ho : o.op = .call ⟨.value xf, xs, tys⟩) (hE : E xf = .is (.func (.func f) #[] #[])) (h : Fun P f args Hp fr (fun d H' => d = dv ∧ H' = hv)) (ha : xs.toList.map E = args) (hp : Pick Hp H Hr)
    (hk : K dv (hv ++ Hr)) : Op1 P o E H K :=
  Op1.callG (caps := #[]) ho hE (by simp only [Array.toList_empty, List.map_nil, List.append_nil]; exact ha) h hp.perm (fun d H' ⟨h1, h2⟩ => by subst h1; subst h2; exact hk)
theorem Op1.callX {P : Program} {o : Oper} {E : Operand → D} {f : FuncId} {xf : Operand} {xs : Array Operand} {tys : Array TypeId} {args : List D} {H Hp Hr : Heap} {fr : Bool} {α : Type} {S : α → Prop} {dF : α → D} {hF : α → Heap} {K : D → Heap → Prop}
    (ho : o.op = .call ⟨.value xf, xs, tys⟩) (hE : E xf = .is (.func (.func f) #[] #[])) (h : Fun P f args Hp fr (fun d H' => ∃ x : α, S x ∧ d = dF x ∧ H' = hF x)) (ha : xs.toList.map E = args) (hp : Pick Hp H Hr)
    (hk : ∀ x, S x → K (dF x) (hF x ++ Hr)) : Op1 P o E H K :=
  Op1.cally ho hE h ha hp.perm hk
theorem VCo.nodup {P : Program} {n : Nat} {ops : Array Oper} {l : List Oper} {s : St} {Q : Exit → St → Prop} (h : s.heap.blocks.Nodup → VCo P n ops l s Q) : VCo P n ops l s Q := fun x a w hn hs => h hs.inv.nodup x a w hn hs
end Go.Vc
