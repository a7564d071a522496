/- Calls through interfaces. No condition. -/
import Derived.Test.YtfifcjgcajpnoaaWa
import Derived.Test.YtfifcjgcajpnoaaWb
import Derived.Test.YtfifcjgcajpnoaaXe
namespace Go.Vc
set_option linter.unusedSimpArgs false
set_option linter.unusedVariables false
open Go

/-- A type's own method, that takes the value itself. -/
def methI (P : Program) (t : TypeId) (name : String) : Option FuncId :=
  match P.info? t, P.underlying t with
  | some i, some d => (match d with
    | .pointer _ => none
    | _ => match i.methods.find? (·.name == name) with
      | some m => (match m.path.toList, m.func with
        | [], some (f, false) => some f
        | _, _ => none)
      | none => none)
  | _, _ => none
theorem run_typeInfo {P : Program} {t : TypeId} {i : TypeInfo} (h : P.info? t = some i) (w : World) : (typeInfo t).run P w = .ok i w := by
  unfold typeInfo
  rw [run_bind (a := P) (w' := w) rfl]
  simp only [h]
  rfl
theorem run_method {P : Program} {t : TypeId} {name : String} {f : FuncId} (h : methI P t name = some f) (n : Nat) (v : Value) (w : World) : (method (n + 1) t v name).run P w = .ok (f, v) w := by
  unfold methI at h
  split at h
  · rename_i i d hi hd
    split at h
    · cases h
    rename_i hnp
    split at h
    · rename_i m hm
      split at h
      · rename_i f' hp hf
        cases h
        unfold method
        rw [run_bind (run_typeInfo hi w)]
        simp only [hm]
        rw [hp]
        simp only [follow]
        rw [run_bind (a := (t, Place.val v)) (w' := w) rfl]
        simp only [hf]
        unfold receiverAt
        refine (run_bind (a := v) (w' := w) ?_).trans rfl
        rw [run_bind (run_underlying hd w)]
        split
        all_goals first | rfl | (exfalso; simp_all; done) | skip
      · cases h
    · cases h
  · cases h

/-- A call that comes to a function, however it is written. -/
theorem Op1.enterG {P : Program} {o : Oper} {E : Operand → D} {f : FuncId} {args : List D} {H : Heap} {fr : Bool} {Φ : D → Heap → Prop} {K : D → Heap → Prop} (h : Fun P f args [] fr Φ)
    (hrun : ∀ (w : World) (L : Nat → Prop) (ε : Operand → Value), (∀ fn, P.funcs[f]? = some fn → fn.body.isSome = true → (fn.name == "runtime.NumGoroutine") = false → ∀ (xs : Array Value) (w : World), (callFunc f xs).run P w = .ok (.enter f xs) w) →
      (∀ y, y ∈ o.op.operands → Rel w L (E y) (ε y)) → ∃ vs : List Value, (execOp ε o).run P w = .ok (.enter f vs.toArray) w ∧ RelL w L args vs)
    (hk : ∀ d H', Φ d H' → K d (H' ++ H)) : Op1 P o E H K := by
  refine ⟨fun d H' => ∃ Hp', Φ d Hp' ∧ H' = Hp' ++ H, ?_, fun d H' ⟨Hp', h1, h2⟩ => h2 ▸ hk d Hp' h1⟩
  intro w L0 ε hi hx
  obtain ⟨⟨fn, hf, hbody, hname⟩, h⟩ := h
  obtain ⟨vs, hr, hargs⟩ := hrun w _ ε (fun fn hf hb hn xs w => run_callFunc hf hb hn xs w) hx
  rw [hr]
  have same : ∀ b, live [] (live H L0) b ↔ live H L0 b := fun b => by simp [live, Heap.blocks]
  have hlt : ∀ b, b ∈ H.blocks → b < w.heap.size := fun b hb => hi.lt hb
  have hi1 : HInv w (live H L0) [] :=
    { rel := fun b c hm => by cases hm
      nodup := List.nodup_nil
      apart := fun b hb => by cases hb
      old := fun b hl => by
        rcases hl with hl | hl
        · exact hi.old b hl
        · exact hlt b hl }
  have hk1 : Keeps w (live H L0) w (live [] (live H L0)) := Keeps.less fun b _ hl => (same b).1 hl
  refine (h w (live H L0) _ hi1 (RelL.mono hk1 _ _ hargs)).mono ?_
  rintro e w' ⟨v, rfl, d, Hp', hΦ, hrel, hi', he⟩
  have hmem' : ∀ b, b ∈ (Hp' ++ H).blocks ↔ b ∈ Hp'.blocks ∨ b ∈ H.blocks := fun b => by simp [Heap.blocks]
  have hevo : Evo w H w' (Hp' ++ H) :=
    ⟨he.os, he.tape, he.output, he.size, fun b hb hn => he.block b hb (fun h => by cases h), fun b hb => by
      rcases (hmem' b).1 hb with h | h
      · exact (he.fresh b h).imp (fun h => by cases h) id
      · exact .inl h⟩
  refine ⟨v, rfl, d, Hp' ++ H, ⟨Hp', hΦ, rfl⟩, ?_, ?_, hevo⟩
  · refine Rel.mono (Keeps.less fun b _ hl => ?_) _ _ hrel
    rcases hl with hl | hl
    · exact .inl (.inl (.inl hl))
    · rcases (hmem' b).1 hl with hl | hl
      · exact .inr hl
      · exact .inl (.inl (.inr hl))
  · exact
      { rel := fun b c hm => by
          rcases List.mem_append.1 hm with hm | hm
          · refine (hi'.rel b c hm).mono (Keeps.less fun b _ hl => ?_) rfl
            rcases hl with hl | hl
            · exact .inl (.inl hl)
            · rcases (hmem' b).1 hl with hl | hl
              · exact .inr hl
              · exact .inl (.inr hl)
          · have hbr : b ∈ H.blocks := List.mem_map.2 ⟨(b, c), hm, rfl⟩
            exact (hi.rel b c hm).mono hevo.keeps (he.block b (hlt b hbr) (fun h => by cases h))
        nodup := by
          simp only [Heap.blocks, List.map_append]
          refine List.nodup_append.2 ⟨hi'.nodup, hi.nodup, fun a ha b hb hab => ?_⟩
          subst hab
          rcases he.fresh a ha with h | h
          · cases h
          · have := hlt a hb; omega
        apart := fun b hb hl => by
          rcases (hmem' b).1 hb with h | h
          · exact hi'.apart b h (.inl hl)
          · exact hi.apart b h hl
        old := fun b hl => Nat.lt_of_lt_of_le (hi.old b hl) he.size }
/-- A call of a method of an interface's value. -/
theorem Op1.invoke {P : Program} {o : Oper} {E : Operand → D} {f : FuncId} {x : Operand} {name : String} {xs : Array Operand} {tys : Array TypeId} {t : TypeId} {dv : D} {args : List D} {H : Heap} {fr : Bool} {Φ : D → Heap → Prop} {K : D → Heap → Prop}
    (ho : o.op = .call ⟨.invoke x name, xs, tys⟩) (hE : E x = .ifc t dv) (hm : methI P t name = some f) (h : Fun P f args [] fr Φ) (ha : dv :: xs.toList.map E = args) (hk : ∀ d H', Φ d H' → K d (H' ++ H)) : Op1 P o E H K := by
  subst ha
  have hF := h.1
  obtain ⟨fn, hf, hb, hn⟩ := hF
  refine Op1.enterG h (fun w L ε hc hx => ?_) hk
  have hr := hx x (by simp [ho, Op.operands, Call.operands])
  rw [hE] at hr
  obtain ⟨y, hy, hrel⟩ := hr
  refine ⟨y :: xs.toList.map ε, ?_, y, _, rfl, hrel, ?_⟩
  · have e : (y :: xs.toList.map ε).toArray = #[y] ++ xs.map ε := by
      rw [← Array.toList_map]
      apply Array.ext'
      simp
    rw [e, ← hc fn hf hb hn (#[y] ++ xs.map ε) w]
    have hmr := run_method hm (P.types.size + 99) y w
    have hex : (#[ε x] ++ xs.map ε).extract 1 (#[ε x] ++ xs.map ε).size = xs.map ε := by
      apply Array.ext'
      simp
      exact List.take_of_length_le (by simp)
    have h0 : (#[ε x] ++ xs.map ε)[0]? = some (ε x) := by
      rw [Array.getElem?_append_left (by simp)]
      rfl
    rw [hy] at h0 hex
    simp only [execOp, ho, resolve]
    rw [run_bind (a := { target := .fn (.method name) #[], args := #[ε x] ++ xs.map ε }) (w' := w) rfl]
    simp only [Go.invoke, h0, hex, hy, callMethod]
    rw [run_bind (a := P) (w' := w) rfl]
    have hmr' : (method (P.types.size + Made.depth) t y name).run P w = .ok (f, y) w := hmr
    rw [run_bind hmr']
  · have : ∀ l : List Operand, (∀ x ∈ l, x ∈ xs.toList) → RelL w L (l.map E) (l.map ε) := by
      intro l
      induction l with
      | nil => intro _; rfl
      | cons x l ih =>
        intro hl
        refine ⟨ε x, l.map ε, rfl, hx x ?_, ih fun y hy => hl y (List.mem_cons_of_mem _ hy)⟩
        have := hl x (List.mem_cons_self ..)
        simp only [ho, Op.operands, Call.operands]
        exact Array.mem_append.2 (.inr (Array.mem_toList_iff.1 this))
    exact this _ fun _ h => h
/-- A call of a method that has but an answer. -/
theorem Op1.invokep {P : Program} {o : Oper} {E : Operand → D} {f : FuncId} {x : Operand} {name : String} {xs : Array Operand} {tys : Array TypeId} {t : TypeId} {dv d0 : D} {args : List D} {H : Heap} {fr : Bool} {K : D → Heap → Prop}
    (ho : o.op = .call ⟨.invoke x name, xs, tys⟩) (hE : E x = .ifc t dv) (hm : methI P t name = some f) (h : Fun P f args [] fr (fun d H' => d = d0 ∧ H' = [])) (ha : dv :: xs.toList.map E = args) (hk : K d0 H) : Op1 P o E H K :=
  Op1.invoke ho hE hm h ha fun d H' ⟨h1, h2⟩ => by subst h1; subst h2; exact hk
end Go.Vc
/- Contracts: numbers in digits. No condition. -/
namespace Go.Proofs.Ytfifcjgcajpnoaa
set_option linter.unusedSimpArgs false
set_option linter.unusedVariables false
open Go Go.Proofs Go.Vc
attribute [local irreducible] retQ VCg VCw

end Go.Proofs.Ytfifcjgcajpnoaa
/- Contracts: whether a thread is at its end (chapter 11). No condition. -/
namespace Go.Proofs.Ytfifcjgcajpnoaa
set_option linter.unusedSimpArgs false
set_option linter.unusedVariables false
set_option maxRecDepth 20000
open Go Go.Proofs Go.Vc

def endedB (u : Un) (c : Cf) (t : Int) : Bool := match decide (0 ≤ t), u.code[t.toNat]?, c.pc[t.toNat]? with
  | true, some r, some p => (match decide (0 ≤ p), r[p.toNat]? with | true, some x => x.op == 22 | _, _ => false)
  | _, _, _ => false
end Go.Proofs.Ytfifcjgcajpnoaa
/- Contracts: whether all is over. No condition. -/
namespace Go.Proofs.Ytfifcjgcajpnoaa
set_option linter.unusedSimpArgs false
set_option linter.unusedVariables false
set_option maxRecDepth 20000
open Go Go.Proofs Go.Vc
attribute [local irreducible] retQ VCg VCw

set_option maxHeartbeats 8000000 in
theorem ended_ok (u : Un) (c : Cf) (t : Int) : Pure Try.prog 30 [.agg (unC u), .agg (cfC c), iD t] (bD (endedB u c t)) := by
  refine Fun.of T [.tmp 6] Try.func30 rfl Try.ntmps30 Try.results30 rfl (by kernel_rfl) ?_
  by_cases h1 : t < 0
  · have e1 : decide (t < 0) = true := by simpa using h1
    rw [show endedB u c t = false by simp [endedB, Int.not_le.2 h1]]
    repeat' first | refine vb rfl rfl rfl rfl ?_ | refine vs T rfl fun K hK => ?_; (try simp (disch := omega) only [go_sem, Nat.reduceBEq, Nat.reduceAdd, e1]); (refine hK _ _ ?_; clear hK K) | refine st rfl ?_ | refine sc rfl ?_ | refine nl ?_ | refine gs rfl rfl ?_ | exact ret1 T (List.nil_sublist _) ⟨rfl, rfl⟩
  have e1 : decide (t < 0) = false := by simpa using h1
  obtain ⟨i, rfl⟩ : ∃ i : Nat, t = (i : Int) := ⟨t.toNat, by omega⟩
  by_cases h2 : (i : Int) ≥ (u.code.length : Int)
  · have e2 : decide ((i : Int) ≥ (u.code.length : Int)) = true := by simpa using h2
    have hn : u.code[i]? = none := List.getElem?_eq_none (by omega)
    rw [show endedB u c i = false by simp [endedB, hn]]
    repeat' first | refine vb rfl rfl rfl rfl ?_ | refine vs T rfl fun K hK => ?_; (try simp (disch := omega) only [go_sem, Nat.reduceBEq, Nat.reduceAdd, e1, e2, codeRs_len]); (refine hK _ _ ?_; clear hK K) | refine st rfl ?_ | refine sc rfl ?_ | refine nl ?_ | refine gs rfl rfl ?_ | exact ret1 T (List.nil_sublist _) ⟨rfl, rfl⟩
  have e2 : decide ((i : Int) ≥ (u.code.length : Int)) = false := by simpa using h2
  by_cases h3 : (i : Int) ≥ (c.pc.length : Int)
  · have e3 : decide ((i : Int) ≥ (c.pc.length : Int)) = true := by simpa using h3
    have hn : c.pc[i]? = none := List.getElem?_eq_none (by omega)
    rw [show endedB u c i = false by simp [endedB, hn]]
    repeat' first | refine vb rfl rfl rfl rfl ?_ | refine vs T rfl fun K hK => ?_; (try simp (disch := omega) only [go_sem, Nat.reduceBEq, Nat.reduceAdd, e1, e2, e3, codeRs_len, iRs_len]); (refine hK _ _ ?_; clear hK K) | refine st rfl ?_ | refine sc rfl ?_ | refine nl ?_ | refine gs rfl rfl ?_ | exact ret1 T (List.nil_sublist _) ⟨rfl, rfl⟩
  have e3 : decide ((i : Int) ≥ (c.pc.length : Int)) = false := by simpa using h3
  obtain ⟨r, hr⟩ : ∃ r, u.code[i]? = some r := ⟨_, List.getElem?_eq_getElem (by omega)⟩
  obtain ⟨p, hp⟩ : ∃ p, c.pc[i]? = some p := ⟨_, List.getElem?_eq_getElem (by omega)⟩
  have rr : (codeRs u.code)[i]? = some [.sl false 7 (insRs r)] := by rw [codeRs_at, hr]; rfl
  have rp : (iRs c.pc)[i]? = some [iD p] := by rw [iRs_at, hp]; rfl
  have l1 : i < u.code.length := by omega
  have l2 : i < c.pc.length := by omega
  by_cases h4 : p < 0
  · have e4 : decide (p ≥ 0) = false := by simp; omega
    rw [show endedB u c i = false by simp [endedB, hr, hp, Int.not_le.2 h4]]
    repeat' first | refine vb rfl rfl rfl rfl ?_ | refine vs T rfl fun K hK => ?_; (try simp (disch := omega) only [go_sem, Nat.reduceBEq, Nat.reduceAdd, e1, e2, e3, e4, rp, codeRs_len, iRs_len]); (first | refine hK _ _ ?_; clear hK K | refine ⟨?_, hK _ _ ?_⟩ <;> clear hK K; focus (try omega)) | refine st rfl ?_ | refine sc rfl ?_ | refine nl ?_ | refine gs rfl rfl ?_ | exact ret1 T (List.nil_sublist _) ⟨rfl, rfl⟩
  have e4 : decide (p ≥ 0) = true := by simp; omega
  obtain ⟨q, rfl⟩ : ∃ q : Nat, p = (q : Int) := ⟨p.toNat, by omega⟩
  by_cases h5 : (q : Int) < (r.length : Int)
  case neg =>
    have e5 : decide ((q : Int) < (r.length : Int)) = false := by simpa using h5
    have hn : r[q]? = none := List.getElem?_eq_none (by omega)
    rw [show endedB u c i = false by simp [endedB, hr, hp, hn]]
    repeat' first | refine vb rfl rfl rfl rfl ?_ | refine vs T rfl fun K hK => ?_; (try simp (disch := omega) only [go_sem, Nat.reduceBEq, Nat.reduceAdd, e1, e2, e3, e4, e5, rr, rp, codeRs_len, iRs_len, insRs_len]); (first | refine hK _ _ ?_; clear hK K | refine ⟨?_, hK _ _ ?_⟩ <;> clear hK K; focus (try omega)) | refine st rfl ?_ | refine sc rfl ?_ | refine nl ?_ | refine gs rfl rfl ?_ | exact ret1 T (List.nil_sublist _) ⟨rfl, rfl⟩
  have e5 : decide ((q : Int) < (r.length : Int)) = true := by simpa using h5
  obtain ⟨x, hx⟩ : ∃ x, r[q]? = some x := ⟨_, List.getElem?_eq_getElem (by omega)⟩
  have rx : (insRs r)[q]? = some [iD x.op, iD x.reg, iD x.loc, opsD x.e, opsD x.f, bD x.ne, iD x.to] := by rw [insRs_at, hx]; rfl
  have l3 : q < r.length := by omega
  rw [show endedB u c i = (x.op == 22) by simp [endedB, hr, hp, hx]]
  repeat' first | refine vb rfl rfl rfl rfl ?_ | refine vs T rfl fun K hK => ?_; (try simp (disch := omega) only [go_sem, Nat.reduceBEq, Nat.reduceAdd, e1, e2, e3, e4, e5, rr, rp, rx, codeRs_len, iRs_len, insRs_len]); (first | refine hK _ _ ?_; clear hK K | refine ⟨?_, hK _ _ ?_⟩ <;> clear hK K; focus (try omega)) | refine st rfl ?_ | refine sc rfl ?_ | refine nl ?_ | refine gs rfl rfl ?_ | exact ret1 T (List.nil_sublist _) ⟨rfl, rfl⟩

theorem quiet_ok (c : Cf) (hn : c.bufs.length ≤ 1000000) : Pure Try.prog 31 [.agg (cfC c)] (bD (quietB c)) := by
  refine Fun.of T [.tmp 2] Try.func31 rfl Try.ntmps31 Try.results31 rfl (by kernel_rfl) ?_
  repeat' first | refine vb rfl rfl rfl rfl ?_ | refine vs T rfl fun K hK => ?_; (try simp (disch := omega) only [go_sem, Nat.reduceBEq, bufsR_len]); (refine hK _ _ ?_; clear hK K) | refine st rfl ?_ | refine nl ?_
  refine VC.loop {k : Nat // k ≤ c.bufs.length ∧ ∀ (i : Nat) (y : List En), i < k → c.bufs[i]? = some y → decide (y.length = 0) = true} (fun p => ⟨lookD [(1, .pt (cfC c)), (6, .sl false 1 (bufsR c.bufs)), (7, iD (c.bufs.length : Nat)), (8, iD (p.1 : Nat))], []⟩) (fun p => c.bufs.length - p.1) ⟨0, by omega, fun i y hi => by omega⟩ ?_ ?_
  · refine Weak.sub ?_
    simp [sub, upd]
  · rintro ⟨k, hk, hs⟩
    dsimp only
    rcases Nat.lt_or_ge k c.bufs.length with hlt | hge
    · have hd : decide ((k : Int) < (c.bufs.length : Int)) = true := by simp; omega
      have hw : IntKind.i64.wrap ((k : Int) + 1) = ((k + 1 : Nat) : Int) := by rw [w64 (by omega)]; omega
      obtain ⟨b, hb⟩ : ∃ b, c.bufs[k]? = some b := ⟨_, List.getElem?_eq_getElem hlt⟩
      have rb : (bufsR c.bufs)[k]? = some [buf b] := by rw [bufsR_at, hb]; rfl
      by_cases h0 : b.length = 0
      · have e0 : decide ((b.length : Int) > 0) = false := by rw [h0]; rfl
        repeat' first | refine vs T rfl fun K hK => ?_; (try simp (disch := omega) only [go_sem, Nat.reduceBEq, hd, hw, rb, e0, bufsR_len, eRs_len]); (first | refine hK _ _ ?_; clear hK K | refine ⟨?_, hK _ _ ?_⟩ <;> clear hK K; focus (try omega)) | refine st rfl ?_ | refine sc rfl ?_ | refine nl ?_
        refine ⟨⟨k + 1, by omega, step_of hs hb (by simpa using h0)⟩, Weak.sub ?_, by simp only []; omega⟩
        simp [sub, upd]
      · have e0 : decide ((b.length : Int) > 0) = true := by simp; omega
        rw [show quietB c = false from all_not hb (by simpa using h0)]
        repeat' first | refine vs T rfl fun K hK => ?_; (try simp (disch := omega) only [go_sem, Nat.reduceBEq, hd, rb, e0, bufsR_len, eRs_len]); (first | refine hK _ _ ?_; clear hK K | refine ⟨?_, hK _ _ ?_⟩ <;> clear hK K; focus (try omega)) | refine st rfl ?_ | refine sc rfl ?_ | refine nl ?_ | exact ret1 T (List.nil_sublist _) ⟨rfl, rfl⟩
    · have hd : decide ((k : Int) < (c.bufs.length : Int)) = false := by simp; omega
      rw [show quietB c = true from all_of fun i x hi hx => hs i x (by omega) hx]
      repeat' first | refine vs T rfl fun K hK => ?_; (try simp (disch := omega) only [go_sem, Nat.reduceBEq, hd]); (refine hK _ _ ?_; clear hK K) | refine st rfl ?_ | refine sc rfl ?_ | refine nl ?_ | exact ret1 T (List.nil_sublist _) ⟨rfl, rfl⟩

/-- Whether all is over. -/
def finalB (u : Un) (c : Cf) : Bool := ((List.range u.code.length).all fun t => endedB u c (t : Nat)) && quietB c
theorem range_all' {n : Nat} {p : Nat → Bool} (h : ∀ i, i < n → p i = true) : (List.range n).all p = true := by
  rw [List.all_eq_true]
  exact fun x hx => h x (List.mem_range.1 hx)
theorem range_not' {n i : Nat} {p : Nat → Bool} (hi : i < n) (h : p i = false) : (List.range n).all p = false := by
  rw [List.all_eq_false]
  exact ⟨i, List.mem_range.2 hi, by simp [h]⟩
theorem final_ok (u : Un) (c : Cf) (hu : u.code.length ≤ 1000000) (hn : c.bufs.length ≤ 1000000) : Pure Try.prog 20 [.agg (unC u), .agg (cfC c)] (bD (finalB u c)) := by
  have cq := quiet_ok c hn
  refine Fun.of T [.tmp 4] Try.func20 rfl Try.ntmps20 Try.results20 rfl (by kernel_rfl) ?_
  repeat' first | refine vb rfl rfl rfl rfl ?_ | refine vs T rfl fun K hK => ?_; (try simp (disch := omega) only [go_sem, Nat.reduceBEq, codeRs_len]); (refine hK _ _ ?_; clear hK K) | refine st rfl ?_ | refine nl ?_
  refine VC.loop {k : Nat // k ≤ u.code.length ∧ ∀ i, i < k → endedB u c (i : Nat) = true} (fun p => ⟨lookD [(2, .pt (unC u)), (3, .pt (cfC c)), (8, iD (u.code.length : Nat)), (9, iD (p.1 : Nat))], []⟩) (fun p => u.code.length - p.1) ⟨0, by omega, fun i hi => by omega⟩ ?_ ?_
  · refine Weak.sub ?_
    simp [sub, upd]
  rintro ⟨k, hk, hs⟩
  dsimp only
  rcases Nat.lt_or_ge k u.code.length with hlt | hge
  · have hd : decide ((k : Int) < (u.code.length : Int)) = true := by simp; omega
    have hw : IntKind.i64.wrap ((k : Int) + 1) = ((k + 1 : Nat) : Int) := by rw [w64 (by omega)]; omega
    have ce := ended_ok u c (k : Nat)
    cases hE : endedB u c (k : Nat) with
    | false =>
      rw [hE] at ce
      rw [show finalB u c = false by rw [finalB, range_not' hlt hE]; rfl]
      repeat' first | refine vs T rfl fun K hK => ?_; (try simp (disch := omega) only [go_sem, Nat.reduceBEq, Nat.reduceAdd, Nat.reduceLeDiff, hd, Bool.not_false]); (first | refine hK _ _ ?_; clear hK K | refine Op1.callp rfl rfl (ce) rfl ?_; refine hK _ _ ?_; clear hK K) | refine st rfl ?_ | refine sc rfl ?_ | refine nl ?_ | exact ret1 T (List.nil_sublist _) ⟨rfl, rfl⟩
    | true =>
      rw [hE] at ce
      repeat' first | refine vs T rfl fun K hK => ?_; (try simp (disch := omega) only [go_sem, Nat.reduceBEq, Nat.reduceAdd, Nat.reduceLeDiff, hd, hw, Bool.not_true]); (first | refine hK _ _ ?_; clear hK K | refine Op1.callp rfl rfl (ce) rfl ?_; refine hK _ _ ?_; clear hK K) | refine st rfl ?_ | refine sc rfl ?_ | refine nl ?_
      refine ⟨⟨k + 1, by omega, fun i hi => ?_⟩, Weak.sub ?_, by simp only []; omega⟩
      · rcases Nat.lt_or_ge i k with h | h
        · exact hs i h
        · obtain rfl : i = k := by omega
          exact hE
      · simp [sub, upd]
  have hd : decide ((k : Int) < (u.code.length : Int)) = false := by simp; omega
  rw [show finalB u c = quietB c by rw [finalB, range_all' fun i hi => hs i (by omega), Bool.true_and]]
  repeat' first | refine vs T rfl fun K hK => ?_; (try simp (disch := omega) only [go_sem, Nat.reduceBEq, Nat.reduceAdd, Nat.reduceLeDiff, hd]); (first | refine hK _ _ ?_; clear hK K | refine Op1.callp rfl rfl (cq) rfl ?_; refine hK _ _ ?_; clear hK K) | refine st rfl ?_ | refine sc rfl ?_ | refine nl ?_ | exact ret1 T (List.nil_sublist _) ⟨rfl, rfl⟩
end Go.Proofs.Ytfifcjgcajpnoaa
