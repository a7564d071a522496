/- Calls through interfaces. No condition. -/
import Derived.Test.YtlnmljmeahknaaaGreatWa
import Derived.Test.YtlnmljmeahknaaaGreatWb
import Derived.Test.YtlnmljmeahknaaaGreatXe
import Derived.Test.YtlnmljmeahknaaaGreatXf
namespace Go.Vc
set_option linter.unusedSimpArgs false
set_option linter.unusedVariables false
open Go

/-- A type's own method, that takes the value itself. -/
def methI (P : Program) (t : TypeId) (name : String) : Option FuncId :=
  match P.info? t, P.underlying t with
  | some i, some d => (match d with
    | .pointer _ => none
    | _ => match i.methods.find? (·.name == name) with
      | some m => (match m.path.toList, m.func with
        | [], some (f, false) => some f
        | _, _ => none)
      | none => none)
  | _, _ => none
theorem run_typeInfo {P : Program} {t : TypeId} {i : TypeInfo} (h : P.info? t = some i) (w : World) : (typeInfo t).run P w = .ok i w := by
  unfold typeInfo
  rw [run_bind (a := P) (w' := w) rfl]
  simp only [h]
  rfl
theorem run_method {P : Program} {t : TypeId} {name : String} {f : FuncId} (h : methI P t name = some f) (n : Nat) (v : Value) (w : World) : (method (n + 1) t v name).run P w = .ok (f, v) w := by
  unfold methI at h
  split at h
  · rename_i i d hi hd
    split at h
    · cases h
    rename_i hnp
    split at h
    · rename_i m hm
      split at h
      · rename_i f' hp hf
        cases h
        unfold method
        rw [run_bind (run_typeInfo hi w)]
        simp only [hm]
        rw [hp]
        simp only [follow]
        rw [run_bind (a := (t, Place.val v)) (w' := w) rfl]
        simp only [hf]
        unfold receiverAt
        refine (run_bind (a := v) (w' := w) ?_).trans rfl
        rw [run_bind (run_underlying hd w)]
        split
        all_goals first | rfl | (exfalso; simp_all; done) | skip
      · cases h
    · cases h
  · cases h

/-- A call that comes to a function, however it is written. -/
theorem Op1.enterG {P : Program} {o : Oper} {E : Operand → D} {f : FuncId} {args : List D} {H : Heap} {fr : Bool} {Φ : D → Heap → Prop} {K : D → Heap → Prop} (h : Fun P f args [] fr Φ)
    (hrun : ∀ (w : World) (L : Nat → Prop) (ε : Operand → Value), (∀ fn, P.funcs[f]? = some fn → fn.body.isSome = true → (fn.name == "runtime.NumGoroutine") = false → ∀ (xs : Array Value) (w : World), (callFunc f xs).run P w = .ok (.enter f xs) w) →
      (∀ y, y ∈ o.op.operands → Rel w L (E y) (ε y)) → ∃ vs : List Value, (execOp ε o).run P w = .ok (.enter f vs.toArray) w ∧ RelL w L args vs)
    (hk : ∀ d H', Φ d H' → K d (H' ++ H)) : Op1 P o E H K := by
  refine ⟨fun d H' => ∃ Hp', Φ d Hp' ∧ H' = Hp' ++ H, ?_, fun d H' ⟨Hp', h1, h2⟩ => h2 ▸ hk d Hp' h1⟩
  intro w L0 ε hi hx
  obtain ⟨⟨fn, hf, hbody, hname⟩, h⟩ := h
  obtain ⟨vs, hr, hargs⟩ := hrun w _ ε (fun fn hf hb hn xs w => run_callFunc hf hb hn xs w) hx
  rw [hr]
  have same : ∀ b, live [] (live H L0) b ↔ live H L0 b := fun b => by simp [live, Heap.blocks]
  have hlt : ∀ b, b ∈ H.blocks → b < w.heap.size := fun b hb => hi.lt hb
  have hi1 : HInv w (live H L0) [] :=
    { rel := fun b c hm => by cases hm
      nodup := List.nodup_nil
      apart := fun b hb => by cases hb
      old := fun b hl => by
        rcases hl with hl | hl
        · exact hi.old b hl
        · exact hlt b hl }
  have hk1 : Keeps w (live H L0) w (live [] (live H L0)) := Keeps.less fun b _ hl => (same b).1 hl
  refine (h w (live H L0) _ hi1 (RelL.mono hk1 _ _ hargs)).mono ?_
  rintro e w' ⟨v, rfl, d, Hp', hΦ, hrel, hi', he⟩
  have hmem' : ∀ b, b ∈ (Hp' ++ H).blocks ↔ b ∈ Hp'.blocks ∨ b ∈ H.blocks := fun b => by simp [Heap.blocks]
  have hevo : Evo w H w' (Hp' ++ H) :=
    ⟨he.os, he.tape, he.output, he.size, fun b hb hn => he.block b hb (fun h => by cases h), fun b hb => by
      rcases (hmem' b).1 hb with h | h
      · exact (he.fresh b h).imp (fun h => by cases h) id
      · exact .inl h⟩
  refine ⟨v, rfl, d, Hp' ++ H, ⟨Hp', hΦ, rfl⟩, ?_, ?_, hevo⟩
  · refine Rel.mono (Keeps.less fun b _ hl => ?_) _ _ hrel
    rcases hl with hl | hl
    · exact .inl (.inl (.inl hl))
    · rcases (hmem' b).1 hl with hl | hl
      · exact .inr hl
      · exact .inl (.inl (.inr hl))
  · exact
      { rel := fun b c hm => by
          rcases List.mem_append.1 hm with hm | hm
          · refine (hi'.rel b c hm).mono (Keeps.less fun b _ hl => ?_) rfl
            rcases hl with hl | hl
            · exact .inl (.inl hl)
            · rcases (hmem' b).1 hl with hl | hl
              · exact .inr hl
              · exact .inl (.inr hl)
          · have hbr : b ∈ H.blocks := List.mem_map.2 ⟨(b, c), hm, rfl⟩
            exact (hi.rel b c hm).mono hevo.keeps (he.block b (hlt b hbr) (fun h => by cases h))
        nodup := by
          simp only [Heap.blocks, List.map_append]
          refine List.nodup_append.2 ⟨hi'.nodup, hi.nodup, fun a ha b hb hab => ?_⟩
          subst hab
          rcases he.fresh a ha with h | h
          · cases h
          · have := hlt a hb; omega
        apart := fun b hb hl => by
          rcases (hmem' b).1 hb with h | h
          · exact hi'.apart b h (.inl hl)
          · exact hi.apart b h hl
        old := fun b hl => Nat.lt_of_lt_of_le (hi.old b hl) he.size }
/-- A call of a method of an interface's value. -/
theorem Op1.invoke {P : Program} {o : Oper} {E : Operand → D} {f : FuncId} {x : Operand} {name : String} {xs : Array Operand} {tys : Array TypeId} {t : TypeId} {dv : D} {args : List D} {H : Heap} {fr : Bool} {Φ : D → Heap → Prop} {K : D → Heap → Prop}
    (ho : o.op = .call ⟨.invoke x name, xs, tys⟩) (hE : E x = .ifc t dv) (hm : methI P t name = some f) (h : Fun P f args [] fr Φ) (ha : dv :: xs.toList.map E = args) (hk : ∀ d H', Φ d H' → K d (H' ++ H)) : Op1 P o E H K := by
  subst ha
  have hF := h.1
  obtain ⟨fn, hf, hb, hn⟩ := hF
  refine Op1.enterG h (fun w L ε hc hx => ?_) hk
  have hr := hx x (by simp [ho, Op.operands, Call.operands])
  rw [hE] at hr
  obtain ⟨y, hy, hrel⟩ := hr
  refine ⟨y :: xs.toList.map ε, ?_, y, _, rfl, hrel, ?_⟩
  · have e : (y :: xs.toList.map ε).toArray = #[y] ++ xs.map ε := by
      rw [← Array.toList_map]
      apply Array.ext'
      simp
    rw [e, ← hc fn hf hb hn (#[y] ++ xs.map ε) w]
    have hmr := run_method hm (P.types.size + 99) y w
    have hex : (#[ε x] ++ xs.map ε).extract 1 (#[ε x] ++ xs.map ε).size = xs.map ε := by
      apply Array.ext'
      simp
      exact List.take_of_length_le (by simp)
    have h0 : (#[ε x] ++ xs.map ε)[0]? = some (ε x) := by
      rw [Array.getElem?_append_left (by simp)]
      rfl
    rw [hy] at h0 hex
    simp only [execOp, ho, resolve]
    rw [run_bind (a := { target := .fn (.method name) #[], args := #[ε x] ++ xs.map ε }) (w' := w) rfl]
    simp only [Go.invoke, h0, hex, hy, callMethod]
    rw [run_bind (a := P) (w' := w) rfl]
    have hmr' : (method (P.types.size + Made.depth) t y name).run P w = .ok (f, y) w := hmr
    rw [run_bind hmr']
  · have : ∀ l : List Operand, (∀ x ∈ l, x ∈ xs.toList) → RelL w L (l.map E) (l.map ε) := by
      intro l
      induction l with
      | nil => intro _; rfl
      | cons x l ih =>
        intro hl
        refine ⟨ε x, l.map ε, rfl, hx x ?_, ih fun y hy => hl y (List.mem_cons_of_mem _ hy)⟩
        have := hl x (List.mem_cons_self ..)
        simp only [ho, Op.operands, Call.operands]
        exact Array.mem_append.2 (.inr (Array.mem_toList_iff.1 this))
    exact this _ fun _ h => h
/-- A call of a method that has but an answer. -/
theorem Op1.invokep {P : Program} {o : Oper} {E : Operand → D} {f : FuncId} {x : Operand} {name : String} {xs : Array Operand} {tys : Array TypeId} {t : TypeId} {dv d0 : D} {args : List D} {H : Heap} {fr : Bool} {K : D → Heap → Prop}
    (ho : o.op = .call ⟨.invoke x name, xs, tys⟩) (hE : E x = .ifc t dv) (hm : methI P t name = some f) (h : Fun P f args [] fr (fun d H' => d = d0 ∧ H' = [])) (ha : dv :: xs.toList.map E = args) (hk : K d0 H) : Op1 P o E H K :=
  Op1.invoke ho hE hm h ha fun d H' ⟨h1, h2⟩ => by subst h1; subst h2; exact hk
end Go.Vc
/- Contracts: numbers in digits. No condition. -/
namespace Go.Proofs.YtlnmljmeahknaaaGreat
set_option linter.unusedSimpArgs false
set_option linter.unusedVariables false
open Go Go.Proofs Go.Vc

/-- A number in digits. -/
def decF : Nat → Nat → List UInt8
  | 0, n => [UInt8.ofNat (48 + n % 10)]
  | k + 1, n => if n < 10 then [UInt8.ofNat (48 + n)] else decF k (n / 10) ++ [UInt8.ofNat (48 + n % 10)]

theorem decF_small (k n : Nat) (h : n < 10) : decF k n = [UInt8.ofNat (48 + n)] := by
  cases k with
  | zero => rw [decF, Nat.mod_eq_of_lt h]
  | succ k => rw [decF, if_pos h]
theorem decF_step (k n : Nat) (h : ¬ n < 10) : decF (k + 1) n = decF k (n / 10) ++ [UInt8.ofNat (48 + n % 10)] := by rw [decF, if_neg h]
theorem bytes_append (a b : List UInt8) : (⟨a.toArray⟩ : ByteArray) ++ ⟨b.toArray⟩ = ⟨(a ++ b).toArray⟩ := by
  apply ByteArray.ext
  simp

theorem decF_len : ∀ k n, (decF k n).length ≤ k + 1
  | 0, n => by simp [decF]
  | k + 1, n => by
    rw [decF]
    split
    · simp
    · have := decF_len k (n / 10)
      simp; omega

theorem u8_digit {n : Int} (h0 : 0 ≤ n) (h : n < 10) : bytesS [IntKind.u8.wrap (IntKind.i64.wrap (48 + n))] = ⟨[UInt8.ofNat (48 + n.toNat)].toArray⟩ := by
  rw [w64 (by omega), wu8 (by omega), bytesS_one]
  congr 4
  omega

theorem decimalM_ok : ∀ (k : Nat) (n : Int), 0 ≤ n → n < 10 ^ (k + 1) → k ≤ 17 → Pure Tryz.prog 106 [iD n] (sD ⟨(decF k n.toNat).toArray⟩) := by
  intro k
  induction k with
  | zero =>
    intro n h0 h1 _
    refine Fun.of T [.tmp 2] Tryz.func106 rfl Tryz.ntmps106 Tryz.results106 rfl (by kernel_rfl) ?_
    repeat' first | refine VC.draw (id := 3) T 9 (by kernel_rfl) (by kernel_rfl) (by kernel_rfl) ?_ | apply VCg.step T rfl rfl; focus ((try simp (disch := omega) only [WB, Nat.reduceBEq, T3, T5, T9, T145]); (first | exact rfl | refine ⟨?_, rfl⟩; try omega)) | refine VCo.step T rfl rfl (fun K hK => ?_); (try simp (disch := omega) only [WB, argE, fillD, setL, rowsOf, Nat.reduceBEq, Nat.reduceMul, Nat.reduceLeDiff, T3, T5, T9, T145]); (refine hK _ _ ?_; clear hK K) | refine VC.region ?_ | refine VC.seq' ?_ | (first | refine VCo.nil ?_ | refine VC.skip ?_ | refine VC.ret ?_); (try simp only [QB]) | refine ret1 T (List.nil_sublist _) ?_; (try simp only [upd, Nat.reduceBEq, cond_true, cond_false, and_true]) | refine VC.cond rfl ?_ | refine gsplit_intro (fun hc => ?_) (fun hc => ?_) <;> (simp only [])
    · rw [u8_digit h0 (by omega), decF_small _ _ (by omega)]
    · simp at hc; omega
  | succ k ih =>
    intro n h0 h1 hk
    have hb : n ≤ 1000000000000000000 := by
      have h2 : (10 : Nat) ^ (k + 1 + 1) ≤ 10 ^ 18 := Nat.pow_le_pow_right (by omega) (by omega)
      have h3 : ((10 ^ (k + 1 + 1) : Nat) : Int) ≤ ((10 ^ 18 : Nat) : Int) := by exact_mod_cast h2
      simp only [Int.natCast_pow] at h3
      have h4 : n < ((10 : Nat) : Int) ^ (k + 1 + 1) := h1
      have : (((10 : Nat) : Int) ^ 18) = 1000000000000000000 := by decide
      omega
    have hd : n / 10 < 10 ^ (k + 1) := by
      have : (10 : Int) ^ (k + 1 + 1) = 10 ^ (k + 1) * 10 := Int.pow_succ ..
      omega
    have hq := quo64 (n := n) (k := 10) h0 (by omega) (by omega)
    have hr := rem_pos (n := n) (k := 10) h0
    have hl := decF_len k (n / 10).toNat
    have hm : 0 ≤ n % 10 ∧ n % 10 < 10 := by omega
    have hg := u8_digit hm.1 hm.2
    clear h1
    refine Fun.of T [.tmp 2] Tryz.func106 rfl Tryz.ntmps106 Tryz.results106 rfl (by kernel_rfl) ?_
    repeat' first | refine VC.draw (id := 3) T 9 (by kernel_rfl) (by kernel_rfl) (by kernel_rfl) ?_ | refine VCg.nil T ?_; simp only [allK, WB] | apply VCg.step T rfl rfl; focus ((try simp (disch := omega) only [WB, fillD, setL, rowsOf, Nat.reduceBEq, Nat.reduceMul, Nat.reduceLeDiff, T3, T5, T9, T145, hq, hr, hg]); (first | exact rfl | refine ⟨?_, rfl⟩; try omega | refine Op1.callp rfl rfl (ih _ (by omega) (by omega) (by omega)) rfl ?_; exact ⟨rfl, rfl⟩)) | refine VCo.step T rfl rfl (fun K hK => ?_); (try simp (disch := omega) only [WB, argE, fillD, setL, rowsOf, Nat.reduceBEq, Nat.reduceMul, Nat.reduceLeDiff, T3, T5, T9, T145]); (first | refine hK _ _ ?_; clear hK K | refine ⟨?_, hK _ _ ?_⟩ <;> clear hK K) | refine VC.region ?_ | refine VC.seq' ?_ | (first | refine VCo.nil ?_ | refine VC.skip ?_ | refine VC.ret ?_); (try simp only [QB]) | refine ret1 T (List.nil_sublist _) ?_; (try simp only [upd, Nat.reduceBEq, cond_true, cond_false, and_true]) | refine VC.cond rfl ?_ | refine gsplit_intro (fun hc => ?_) (fun hc => ?_) <;> (simp only [])
    · have hn : n < 10 := by simpa using hc
      rw [u8_digit h0 hn, decF_small _ _ (by omega)]
    · simp [ByteArray.size]; omega
    · have hn : ¬ n < 10 := by simpa using hc
      rw [show (⟨#[UInt8.ofNat (48 + (n % 10).toNat)]⟩ : ByteArray) = ⟨[UInt8.ofNat (48 + (n % 10).toNat)].toArray⟩ from rfl, bytes_append, decF_step _ _ (by omega)]
      rw [show (n / 10).toNat = n.toNat / 10 by omega, show (n % 10).toNat = n.toNat % 10 by omega]


def dec6 (n : Int) : ByteArray := ⟨(decF 5 n.toNat).toArray⟩
theorem dec6_size (n : Int) : (dec6 n).size ≤ 6 := by
  have := decF_len 5 n.toNat
  simpa [dec6, ByteArray.size] using this
theorem decimal6_ok (n : Int) (h : 0 ≤ n ∧ n < 1000000) : Pure Tryz.prog 106 [iD n] (sD (dec6 n)) := decimalM_ok 5 n h.1 (by omega) (by omega)
end Go.Proofs.YtlnmljmeahknaaaGreat
/- Contracts: whether a thread is at its end (chapter 11). No condition. -/
namespace Go.Proofs.YtlnmljmeahknaaaGreat
set_option linter.unusedSimpArgs false
set_option linter.unusedVariables false
set_option maxRecDepth 20000
open Go Go.Proofs Go.Vc

def endedB (u : Un) (c : Cf) (t : Int) : Bool := match decide (0 ≤ t), u.code[t.toNat]?, c.pc[t.toNat]? with
  | true, some r, some p => (match decide (0 ≤ p), r[p.toNat]? with | true, some x => x.op == 22 | _, _ => false)
  | _, _, _ => false
set_option maxHeartbeats 8000000 in
theorem rended_ok (u : Un) (c : Cf) (t : Int) : Pure Tryz.prog 49 [.agg (unC u), .agg (cfC c), iD t] (bD (endedB u c t)) := by
  refine Fun.of T [.tmp 6] Tryz.func49 rfl Tryz.ntmps49 Tryz.results49 rfl (by kernel_rfl) ?_
  by_cases h1 : t < 0
  · have e1 : decide (t < 0) = true := by simpa using h1
    have hr : endedB u c t = false := by simp [endedB, Int.not_le.2 h1]
    rw [hr]
    repeat' first | refine VCo.stepO rfl rfl (fun K hK => r_boxR rfl rfl rfl (hK _ _ ?_)); (try simp only [updO]) | refine VC.draw (id := 1) T 36 (by kernel_rfl) (by kernel_rfl) (by kernel_rfl) ?_ | refine VCg.nil T ?_; simp only [allK, WB] | (first | apply VCg.step T rfl rfl | apply exF); focus ((try simp (disch := omega) only [WB, Nat.reduceBEq, T3, T5, T9, T22, T23, T25, T26, T27, T29, T51, T53, T62, T65, T66, T68, T72, T78, T145, e1]); (exact rfl)) | refine VCg.gstep T rfl rfl rfl rfl ?_; try simp only [GB] | (refine VCo.step T rfl rfl (fun K hK => ?_)); (try simp (disch := omega) only [WB, argE, Nat.reduceBEq, Nat.reduceAdd, T3, T5, T9, T22, T23, T25, T26, T27, T29, T51, T53, T62, T65, T66, T68, T72, T78, T145]); (refine hK _ _ ?_; clear hK K) | refine VCo.gstep rfl rfl rfl rfl rfl ?_; try simp only [GB] | refine VC.region ?_ | refine VC.seq' ?_ | (first | refine VCo.nil ?_ | refine VC.ret ?_); (try simp only [QB]) | refine ret1 T (List.nil_sublist _) ?_; (try simp only [upd, Nat.reduceBEq, cond_true, cond_false, and_true]) | refine VC.cond rfl ?_; (try simp only [gsplit_true])
  have e1 : decide (t < 0) = false := by simpa using h1
  obtain ⟨i, rfl⟩ : ∃ i : Nat, t = (i : Int) := ⟨t.toNat, by omega⟩
  by_cases h2 : (i : Int) ≥ (u.code.length : Int)
  · have e2 : decide ((i : Int) ≥ (u.code.length : Int)) = true := by simpa using h2
    have hn : u.code[i]? = none := List.getElem?_eq_none (by omega)
    have hr : endedB u c i = false := by simp [endedB, hn]
    rw [hr]
    repeat' first | refine VCo.stepO rfl rfl (fun K hK => r_boxR rfl rfl rfl (hK _ _ ?_)); (try simp only [updO]) | refine VC.draw (id := 1) T 36 (by kernel_rfl) (by kernel_rfl) (by kernel_rfl) ?_ | refine VCg.nil T ?_; simp only [allK, WB] | (first | apply VCg.step T rfl rfl | apply exF); focus ((try simp (disch := omega) only [WB, Nat.reduceBEq, T3, T5, T9, T22, T23, T25, T26, T27, T29, T51, T53, T62, T65, T66, T68, T72, T78, T145, e1, e2, codeRs_len]); (exact rfl)) | refine VCg.gstep T rfl rfl rfl rfl ?_; try simp only [GB] | (refine VCo.step T rfl rfl (fun K hK => ?_)); (try simp (disch := omega) only [WB, argE, Nat.reduceBEq, Nat.reduceAdd, T3, T5, T9, T22, T23, T25, T26, T27, T29, T51, T53, T62, T65, T66, T68, T72, T78, T145]); (refine hK _ _ ?_; clear hK K) | refine VCo.gstep rfl rfl rfl rfl rfl ?_; try simp only [GB] | refine VC.region ?_ | refine VC.seq' ?_ | (first | refine VCo.nil ?_ | refine VC.ret ?_); (try simp only [QB]) | refine ret1 T (List.nil_sublist _) ?_; (try simp only [upd, Nat.reduceBEq, cond_true, cond_false, and_true]) | refine VC.cond rfl ?_; (try simp only [gsplit_true])
  have e2 : decide ((i : Int) ≥ (u.code.length : Int)) = false := by simpa using h2
  by_cases h3 : (i : Int) ≥ (c.pc.length : Int)
  · have e3 : decide ((i : Int) ≥ (c.pc.length : Int)) = true := by simpa using h3
    have hn : c.pc[i]? = none := List.getElem?_eq_none (by omega)
    have hr : endedB u c i = false := by
      unfold endedB
      rw [show ((i : Int)).toNat = i from rfl, hn]
      split <;> simp_all
    rw [hr]
    repeat' first | refine VCo.stepO rfl rfl (fun K hK => r_boxR rfl rfl rfl (hK _ _ ?_)); (try simp only [updO]) | refine VC.draw (id := 1) T 36 (by kernel_rfl) (by kernel_rfl) (by kernel_rfl) ?_ | refine VCg.nil T ?_; simp only [allK, WB] | (first | apply VCg.step T rfl rfl | apply exF); focus ((try simp (disch := omega) only [WB, Nat.reduceBEq, T3, T5, T9, T22, T23, T25, T26, T27, T29, T51, T53, T62, T65, T66, T68, T72, T78, T145, e1, e2, e3, codeRs_len, iRs_len]); (exact rfl)) | refine VCg.gstep T rfl rfl rfl rfl ?_; try simp only [GB] | (refine VCo.step T rfl rfl (fun K hK => ?_)); (try simp (disch := omega) only [WB, argE, Nat.reduceBEq, Nat.reduceAdd, T3, T5, T9, T22, T23, T25, T26, T27, T29, T51, T53, T62, T65, T66, T68, T72, T78, T145]); (refine hK _ _ ?_; clear hK K) | refine VCo.gstep rfl rfl rfl rfl rfl ?_; try simp only [GB] | refine VC.region ?_ | refine VC.seq' ?_ | (first | refine VCo.nil ?_ | refine VC.ret ?_); (try simp only [QB]) | refine ret1 T (List.nil_sublist _) ?_; (try simp only [upd, Nat.reduceBEq, cond_true, cond_false, and_true]) | refine VC.cond rfl ?_; (try simp only [gsplit_true])
  have e3 : decide ((i : Int) ≥ (c.pc.length : Int)) = false := by simpa using h3
  have hil : i < u.code.length := by omega
  have hip : i < c.pc.length := by omega
  obtain ⟨r, hr⟩ : ∃ r, u.code[i]? = some r := ⟨_, List.getElem?_eq_getElem hil⟩
  obtain ⟨p, hp⟩ : ∃ p, c.pc[i]? = some p := ⟨_, List.getElem?_eq_getElem hip⟩
  have rr : (codeRs u.code)[i]? = some [.sl false 7 (insRs r)] := by rw [codeRs_at, hr]; rfl
  have rp : (iRs c.pc)[i]? = some [iD p] := by rw [iRs_at, hp]; rfl
  by_cases h4 : p < 0
  · have e4 : decide (p < 0) = true := by simpa using h4
    have hE : endedB u c i = false := by simp [endedB, hr, hp, Int.not_le.2 h4]
    rw [hE]
    repeat' first | refine VCo.stepO rfl rfl (fun K hK => r_boxR rfl rfl rfl (hK _ _ ?_)); (try simp only [updO]) | refine VC.draw (id := 1) T 36 (by kernel_rfl) (by kernel_rfl) (by kernel_rfl) ?_ | refine VCg.nil T ?_; simp only [allK, WB] | (first | apply VCg.step T rfl rfl | apply exF); focus ((try simp (disch := omega) only [WB, Nat.reduceBEq, T3, T5, T9, T22, T23, T25, T26, T27, T29, T51, T53, T62, T65, T66, T68, T72, T78, T145, e1, e2, e3, e4, rp, codeRs_len, iRs_len]); (first | exact rfl | refine ⟨?_, rfl⟩; try omega)) | refine VCg.gstep T rfl rfl rfl rfl ?_; try simp only [GB] | (refine VCo.step T rfl rfl (fun K hK => ?_)); (try simp (disch := omega) only [WB, argE, Nat.reduceBEq, Nat.reduceAdd, T3, T5, T9, T22, T23, T25, T26, T27, T29, T51, T53, T62, T65, T66, T68, T72, T78, T145]); (refine hK _ _ ?_; clear hK K) | refine VCo.gstep rfl rfl rfl rfl rfl ?_; try simp only [GB] | refine VC.region ?_ | refine VC.seq' ?_ | (first | refine VCo.nil ?_ | refine VC.ret ?_); (try simp only [QB]) | refine ret1 T (List.nil_sublist _) ?_; (try simp only [upd, Nat.reduceBEq, cond_true, cond_false, and_true]) | refine VC.cond rfl ?_; (try simp only [gsplit_true])
  have e4 : decide (p < 0) = false := by simpa using h4
  obtain ⟨q, rfl⟩ : ∃ q : Nat, p = (q : Int) := ⟨p.toNat, by omega⟩
  by_cases h5 : (q : Int) ≥ (r.length : Int)
  · have e5 : decide ((q : Int) ≥ (r.length : Int)) = true := by simpa using h5
    have hn : r[q]? = none := List.getElem?_eq_none (by omega)
    have hE : endedB u c i = false := by simp [endedB, hr, hp, hn]
    rw [hE]
    repeat' first | refine VCo.stepO rfl rfl (fun K hK => r_boxR rfl rfl rfl (hK _ _ ?_)); (try simp only [updO]) | refine VC.draw (id := 1) T 36 (by kernel_rfl) (by kernel_rfl) (by kernel_rfl) ?_ | refine VCg.nil T ?_; simp only [allK, WB] | (first | apply VCg.step T rfl rfl | apply exF); focus ((try simp (disch := omega) only [WB, Nat.reduceBEq, T3, T5, T9, T22, T23, T25, T26, T27, T29, T51, T53, T62, T65, T66, T68, T72, T78, T145, e1, e2, e3, e4, rr, rp, codeRs_len, iRs_len, insRs_len]); (first | exact rfl | refine ⟨?_, rfl⟩; try omega)) | refine VCg.gstep T rfl rfl rfl rfl ?_; try simp only [GB] | (first | refine VCo.step T rfl rfl (fun K hK => ?_) | refine VCr.step T rfl (fun K hK => ?_)); (try simp (disch := omega) only [WB, argE, Nat.reduceBEq, Nat.reduceAdd, T3, T5, T9, T22, T23, T25, T26, T27, T29, T51, T53, T62, T65, T66, T68, T72, T78, T145, e5]); (refine hK _ _ ?_; clear hK K) | refine VCo.gstep rfl rfl rfl rfl rfl ?_; try simp only [GB] | refine VC.region ?_ | refine VC.seq' ?_ | (first | refine VCo.nil ?_ | refine VC.ret ?_); (try simp only [QB]) | refine ret1 T (List.nil_sublist _) ?_; (try simp only [upd, Nat.reduceBEq, cond_true, cond_false, and_true]) | refine VC.cond rfl ?_; (try simp only [gsplit_true])
  have e5 : decide ((q : Int) ≥ (r.length : Int)) = false := by simpa using h5
  have hql : q < r.length := by omega
  obtain ⟨x, hx⟩ : ∃ x, r[q]? = some x := ⟨_, List.getElem?_eq_getElem hql⟩
  have rx : (insRs r)[q]? = some [iD x.op, iD x.reg, iD x.loc, opsD x.e, opsD x.f, bD x.ne, iD x.to] := by rw [insRs_at, hx]; rfl
  have hE : endedB u c i = (x.op == 22) := by simp [endedB, hr, hp, hx]
  rw [hE]
  repeat' first | refine VCo.stepO rfl rfl (fun K hK => r_boxR rfl rfl rfl (hK _ _ ?_)); (try simp only [updO]) | refine VC.draw (id := 1) T 36 (by kernel_rfl) (by kernel_rfl) (by kernel_rfl) ?_ | refine VC.draw (id := 3) T 10 (by kernel_rfl) (by kernel_rfl) (by kernel_rfl) ?_ | refine VCg.nil T ?_; simp only [allK, WB] | (first | apply VCg.step T rfl rfl | apply exF); focus ((try simp (disch := omega) only [WB, Nat.reduceBEq, T3, T5, T9, T22, T23, T25, T26, T27, T29, T51, T53, T62, T65, T66, T68, T72, T78, T145, e1, e2, e3, e4, rr, rp, codeRs_len, iRs_len, insRs_len]); (first | exact rfl | refine ⟨?_, rfl⟩; try omega)) | refine VCg.gstep T rfl rfl rfl rfl ?_; try simp only [GB] | (first | refine VCo.step T rfl rfl (fun K hK => ?_) | refine VCr.step T rfl (fun K hK => ?_)); (try simp (disch := omega) only [WB, argE, Nat.reduceBEq, Nat.reduceAdd, T3, T5, T9, T22, T23, T25, T26, T27, T29, T51, T53, T62, T65, T66, T68, T72, T78, T145, e5, rx, insRs_len]); (first | refine hK _ _ ?_; clear hK K | refine ⟨?_, hK _ _ ?_⟩ <;> clear hK K; focus (try omega)) | refine VCo.gstep rfl rfl rfl rfl rfl ?_; try simp only [GB] | refine VC.region ?_ | refine VC.seq' ?_ | (first | refine VCo.nil ?_ | refine VC.skip ?_ | refine VC.ret ?_); (try simp only [QB]) | refine ret1 T (List.nil_sublist _) ?_; (try simp only [upd, Nat.reduceBEq, cond_true, cond_false, and_true]) | refine VC.cond rfl ?_; (try simp only [gsplit_false])
end Go.Proofs.YtlnmljmeahknaaaGreat
/- Contracts: whether all is over. No condition. -/
namespace Go.Proofs.YtlnmljmeahknaaaGreat
set_option linter.unusedSimpArgs false
set_option linter.unusedVariables false
set_option maxRecDepth 20000
open Go Go.Proofs Go.Vc

set_option maxHeartbeats 8000000 in
theorem ended_ok (u : Un) (c : Cf) (t : Int) : Pure Tryz.prog 47 [.agg (unC u), .agg (cfC c), iD t] (bD (endedB u c t)) := by
  refine Fun.of T [.tmp 6] Tryz.func47 rfl Tryz.ntmps47 Tryz.results47 rfl (by kernel_rfl) ?_
  by_cases h1 : t < 0
  · have e1 : decide (t < 0) = true := by simpa using h1
    rw [show endedB u c t = false by simp [endedB, Int.not_le.2 h1]]
    repeat' first | refine VCo.stepO rfl rfl (fun K hK => r_boxR rfl rfl rfl (hK _ _ ?_)); (try simp only [updO]) | (refine VCo.step T rfl rfl (fun K hK => ?_)); (try simp (disch := omega) only [WB, argE, Nat.reduceBEq, Nat.reduceAdd, T3, T5, T9, T22, T23, T25, T26, T27, T29, T51, T53, T62, T65, T66, T68, T72, T78, T145, e1]); (refine hK _ _ ?_; clear hK K) | refine VCo.gstep rfl rfl rfl rfl rfl ?_; try simp only [GB] | refine VC.region ?_ | refine VC.seq' ?_ | (first | refine VCo.nil ?_ | refine VC.ret ?_); (try simp only [QB]) | refine ret1 T (List.nil_sublist _) ?_; (try simp only [upd, Nat.reduceBEq, cond_true, cond_false, and_true]) | refine VC.cond rfl ?_; (try simp only [gsplit_true])
  have e1 : decide (t < 0) = false := by simpa using h1
  obtain ⟨i, rfl⟩ : ∃ i : Nat, t = (i : Int) := ⟨t.toNat, by omega⟩
  by_cases h2 : (i : Int) ≥ (u.code.length : Int)
  · have e2 : decide ((i : Int) ≥ (u.code.length : Int)) = true := by simpa using h2
    have hn : u.code[i]? = none := List.getElem?_eq_none (by omega)
    rw [show endedB u c i = false by simp [endedB, hn]]
    repeat' first | refine VCo.stepO rfl rfl (fun K hK => r_boxR rfl rfl rfl (hK _ _ ?_)); (try simp only [updO]) | (first | refine VCo.step T rfl rfl (fun K hK => ?_) | refine VCr.step T rfl (fun K hK => ?_)); (try simp (disch := omega) only [WB, argE, Nat.reduceBEq, Nat.reduceAdd, T3, T5, T9, T22, T23, T25, T26, T27, T29, T51, T53, T62, T65, T66, T68, T72, T78, T145, e1, e2, codeRs_len]); (refine hK _ _ ?_; clear hK K) | refine VCo.gstep rfl rfl rfl rfl rfl ?_; try simp only [GB] | refine VC.region ?_ | refine VC.seq' ?_ | (first | refine VCo.nil ?_ | refine VC.ret ?_); (try simp only [QB]) | refine ret1 T (List.nil_sublist _) ?_; (try simp only [upd, Nat.reduceBEq, cond_true, cond_false, and_true]) | refine VC.cond rfl ?_; (try simp only [gsplit_true])
  have e2 : decide ((i : Int) ≥ (u.code.length : Int)) = false := by simpa using h2
  by_cases h3 : (i : Int) ≥ (c.pc.length : Int)
  · have e3 : decide ((i : Int) ≥ (c.pc.length : Int)) = true := by simpa using h3
    have hn : c.pc[i]? = none := List.getElem?_eq_none (by omega)
    rw [show endedB u c i = false by simp [endedB, hn]]
    repeat' first | refine VCo.stepO rfl rfl (fun K hK => r_boxR rfl rfl rfl (hK _ _ ?_)); (try simp only [updO]) | (first | refine VCo.step T rfl rfl (fun K hK => ?_) | refine VCr.step T rfl (fun K hK => ?_)); (try simp (disch := omega) only [WB, argE, Nat.reduceBEq, Nat.reduceAdd, T3, T5, T9, T22, T23, T25, T26, T27, T29, T51, T53, T62, T65, T66, T68, T72, T78, T145, e1, e2, e3, codeRs_len, iRs_len]); (refine hK _ _ ?_; clear hK K) | refine VCo.gstep rfl rfl rfl rfl rfl ?_; try simp only [GB] | refine VC.region ?_ | refine VC.seq' ?_ | (first | refine VCo.nil ?_ | refine VC.ret ?_); (try simp only [QB]) | refine ret1 T (List.nil_sublist _) ?_; (try simp only [upd, Nat.reduceBEq, cond_true, cond_false, and_true]) | refine VC.cond rfl ?_; (try simp only [gsplit_true])
  have e3 : decide ((i : Int) ≥ (c.pc.length : Int)) = false := by simpa using h3
  obtain ⟨r, hr⟩ : ∃ r, u.code[i]? = some r := ⟨_, List.getElem?_eq_getElem (by omega)⟩
  obtain ⟨p, hp⟩ : ∃ p, c.pc[i]? = some p := ⟨_, List.getElem?_eq_getElem (by omega)⟩
  have rr : (codeRs u.code)[i]? = some [.sl false 7 (insRs r)] := by rw [codeRs_at, hr]; rfl
  have rp : (iRs c.pc)[i]? = some [iD p] := by rw [iRs_at, hp]; rfl
  have l1 : i < u.code.length := by omega
  have l2 : i < c.pc.length := by omega
  by_cases h4 : p < 0
  · have e4 : decide (p ≥ 0) = false := by simp; omega
    rw [show endedB u c i = false by simp [endedB, hr, hp, Int.not_le.2 h4]]
    repeat' first | refine VCo.stepO rfl rfl (fun K hK => r_boxR rfl rfl rfl (hK _ _ ?_)); (try simp only [updO]) | (first | refine VCo.step T rfl rfl (fun K hK => ?_) | refine VCr.step T rfl (fun K hK => ?_)); (try simp (disch := omega) only [WB, argE, Nat.reduceBEq, Nat.reduceAdd, T3, T5, T9, T22, T23, T25, T26, T27, T29, T51, T53, T62, T65, T66, T68, T72, T78, T145, e1, e2, e3, e4, rp, codeRs_len, iRs_len]); (first | refine hK _ _ ?_; clear hK K | refine ⟨?_, hK _ _ ?_⟩ <;> clear hK K; focus (try omega)) | refine VCo.gstep rfl rfl rfl rfl rfl ?_; try simp only [GB] | refine VC.region ?_ | refine VC.seq' ?_ | (first | refine VCo.nil ?_ | refine VC.skip ?_ | refine VC.ret ?_); (try simp only [QB]) | refine ret1 T (List.nil_sublist _) ?_; (try simp only [upd, Nat.reduceBEq, cond_true, cond_false, and_true]) | refine VC.cond rfl ?_; (try simp only [gsplit_false])
  have e4 : decide (p ≥ 0) = true := by simp; omega
  obtain ⟨q, rfl⟩ : ∃ q : Nat, p = (q : Int) := ⟨p.toNat, by omega⟩
  by_cases h5 : (q : Int) < (r.length : Int)
  case neg =>
    have e5 : decide ((q : Int) < (r.length : Int)) = false := by simpa using h5
    have hn : r[q]? = none := List.getElem?_eq_none (by omega)
    rw [show endedB u c i = false by simp [endedB, hr, hp, hn]]
    repeat' first | refine VCo.stepO rfl rfl (fun K hK => r_boxR rfl rfl rfl (hK _ _ ?_)); (try simp only [updO]) | (first | refine VCo.step T rfl rfl (fun K hK => ?_) | refine VCr.step T rfl (fun K hK => ?_)); (try simp (disch := omega) only [WB, argE, Nat.reduceBEq, Nat.reduceAdd, T3, T5, T9, T22, T23, T25, T26, T27, T29, T51, T53, T62, T65, T66, T68, T72, T78, T145, e1, e2, e3, e4, e5, rr, rp, codeRs_len, iRs_len, insRs_len]); (first | refine hK _ _ ?_; clear hK K | refine ⟨?_, hK _ _ ?_⟩ <;> clear hK K; focus (try omega)) | refine VCo.gstep rfl rfl rfl rfl rfl ?_; try simp only [GB] | refine VC.region ?_ | refine VC.seq' ?_ | (first | refine VCo.nil ?_ | refine VC.skip ?_ | refine VC.ret ?_); (try simp only [QB]) | refine ret1 T (List.nil_sublist _) ?_; (try simp only [upd, Nat.reduceBEq, cond_true, cond_false, and_true]) | refine VC.cond rfl ?_; (try simp only [gsplit_false])
  have e5 : decide ((q : Int) < (r.length : Int)) = true := by simpa using h5
  obtain ⟨x, hx⟩ : ∃ x, r[q]? = some x := ⟨_, List.getElem?_eq_getElem (by omega)⟩
  have rx : (insRs r)[q]? = some [iD x.op, iD x.reg, iD x.loc, opsD x.e, opsD x.f, bD x.ne, iD x.to] := by rw [insRs_at, hx]; rfl
  have l3 : q < r.length := by omega
  rw [show endedB u c i = (x.op == 22) by simp [endedB, hr, hp, hx]]
  repeat' first | refine VCo.stepO rfl rfl (fun K hK => r_boxR rfl rfl rfl (hK _ _ ?_)); (try simp only [updO]) | (first | refine VCo.step T rfl rfl (fun K hK => ?_) | refine VCr.step T rfl (fun K hK => ?_)); (try simp (disch := omega) only [WB, argE, Nat.reduceBEq, Nat.reduceAdd, T3, T5, T9, T22, T23, T25, T26, T27, T29, T51, T53, T62, T65, T66, T68, T72, T78, T145, e1, e2, e3, e4, e5, rr, rp, rx, codeRs_len, iRs_len, insRs_len]); (first | refine hK _ _ ?_; clear hK K | refine ⟨?_, hK _ _ ?_⟩ <;> clear hK K; focus (try omega)) | refine VCo.gstep rfl rfl rfl rfl rfl ?_; try simp only [GB] | refine VC.region ?_ | refine VC.seq' ?_ | (first | refine VCo.nil ?_ | refine VC.skip ?_ | refine VC.ret ?_); (try simp only [QB]) | refine ret1 T (List.nil_sublist _) ?_; (try simp only [upd, Nat.reduceBEq, cond_true, cond_false, and_true]) | refine VC.cond rfl ?_; (try simp only [gsplit_false])

theorem quiet_ok (c : Cf) (hn : c.bufs.length ≤ 1000000) : Pure Tryz.prog 48 [.agg (cfC c)] (bD (quietB c)) := by
  refine Fun.of T [.tmp 2] Tryz.func48 rfl Tryz.ntmps48 Tryz.results48 rfl (by kernel_rfl) ?_
  repeat' first | refine VCo.stepO rfl rfl (fun K hK => r_boxR rfl rfl rfl (hK _ _ ?_)); (try simp only [updO]) | refine VCo.step T rfl rfl (fun K hK => ?_); (try simp (disch := omega) only [WB, argE, Nat.reduceBEq, T3, T5, T9, T22, T23, T26, T27, T29, T51, T53, T62, T65, T66, T68, T72, T78, T145, bufsR_len]); (refine hK _ _ ?_; clear hK K) | refine VC.region ?_ | refine VC.seq' ?_ | refine VC.block ?_ | (refine VCo.nil ?_); (try simp only [QB])
  refine VC.loop {k : Nat // k ≤ c.bufs.length ∧ ∀ (i : Nat) (y : List En), i < k → c.bufs[i]? = some y → decide (y.length = 0) = true} (fun p => ⟨lookD [(1, .pt (cfC c)), (6, .sl false 1 (bufsR c.bufs)), (7, iD (c.bufs.length : Nat)), (8, iD (p.1 : Nat))], []⟩) (fun p => c.bufs.length - p.1) ⟨0, by omega, fun i y hi => by omega⟩ ?_ ?_
  · refine Weak.sub ?_
    simp [sub, upd]
  · rintro ⟨k, hk, hs⟩
    dsimp only
    rcases Nat.lt_or_ge k c.bufs.length with hlt | hge
    · have hd : decide ((k : Int) < (c.bufs.length : Int)) = true := by simp; omega
      have hw : IntKind.i64.wrap ((k : Int) + 1) = ((k + 1 : Nat) : Int) := by rw [w64 (by omega)]; omega
      obtain ⟨b, hb⟩ : ∃ b, c.bufs[k]? = some b := ⟨_, List.getElem?_eq_getElem hlt⟩
      have rb : (bufsR c.bufs)[k]? = some [buf b] := by rw [bufsR_at, hb]; rfl
      by_cases h0 : b.length = 0
      · have e0 : decide ((b.length : Int) > 0) = false := by rw [h0]; rfl
        repeat' first | refine VCo.step T rfl rfl (fun K hK => ?_); (try simp (disch := omega) only [WB, lookD, Nat.reduceBEq, T3, T5, T9, T22, T23, T26, T27, T29, T51, T53, T62, T65, T66, T68, T72, T78, T145, hd, hw, rb, e0, bufsR_len, eRs_len]); (first | refine hK _ _ ?_; clear hK K | refine ⟨?_, hK _ _ ?_⟩ <;> clear hK K; focus (try omega)) | refine VC.region ?_ | refine VC.seq' ?_ | refine VC.block ?_ | (first | refine VCo.nil ?_ | refine VC.skip ?_); (try simp only [QB]) | refine VC.cond rfl ?_; (try simp only [gsplit_true, gsplit_false])
        refine ⟨⟨k + 1, by omega, step_of hs hb (by simpa using h0)⟩, Weak.sub ?_, by simp only []; omega⟩
        simp [sub, upd]
      · have e0 : decide ((b.length : Int) > 0) = true := by simp; omega
        rw [show quietB c = false from all_not hb (by simpa using h0)]
        repeat' first | refine VCo.step T rfl rfl (fun K hK => ?_); (try simp (disch := omega) only [WB, lookD, Nat.reduceBEq, T3, T5, T9, T22, T23, T26, T27, T29, T51, T53, T62, T65, T66, T68, T72, T78, T145, hd, rb, e0, bufsR_len, eRs_len]); (first | refine hK _ _ ?_; clear hK K | refine ⟨?_, hK _ _ ?_⟩ <;> clear hK K; focus (try omega)) | refine VC.region ?_ | refine VC.seq' ?_ | refine VC.block ?_ | (first | refine VCo.nil ?_ | refine VC.skip ?_ | refine VC.ret ?_); (try simp only [QB]) | refine ret1 T (List.nil_sublist _) ?_; (try simp only [upd, Nat.reduceBEq, cond_true, cond_false, and_true]) | refine VC.cond rfl ?_; (try simp only [gsplit_true])
    · have hd : decide ((k : Int) < (c.bufs.length : Int)) = false := by simp; omega
      rw [show quietB c = true from all_of fun i x hi hx => hs i x (by omega) hx]
      repeat' first | refine VCo.step T rfl rfl (fun K hK => ?_); (try simp (disch := omega) only [WB, lookD, Nat.reduceBEq, T3, T5, T9, T22, T23, T26, T27, T29, T51, T53, T62, T65, T66, T68, T72, T78, T145, hd]); (refine hK _ _ ?_; clear hK K) | refine VC.region ?_ | refine VC.seq' ?_ | (first | refine VCo.nil ?_ | refine VC.ret ?_ | refine VC.exit ?_); (try simp only [QB]) | refine ret1 T (List.nil_sublist _) ?_; (try simp only [upd, Nat.reduceBEq, cond_true, cond_false, and_true]) | refine VC.cond rfl ?_; (try simp only [gsplit_false])

/-- Whether all is over. -/
def finalB (u : Un) (c : Cf) : Bool := ((List.range u.code.length).all fun t => endedB u c (t : Nat)) && quietB c
theorem range_all' {n : Nat} {p : Nat → Bool} (h : ∀ i, i < n → p i = true) : (List.range n).all p = true := by
  rw [List.all_eq_true]
  exact fun x hx => h x (List.mem_range.1 hx)
theorem range_not' {n i : Nat} {p : Nat → Bool} (hi : i < n) (h : p i = false) : (List.range n).all p = false := by
  rw [List.all_eq_false]
  exact ⟨i, List.mem_range.2 hi, by simp [h]⟩
theorem final_ok (u : Un) (c : Cf) (hu : u.code.length ≤ 1000000) (hn : c.bufs.length ≤ 1000000) : Pure Tryz.prog 32 [.agg (unC u), .agg (cfC c)] (bD (finalB u c)) := by
  have cq := quiet_ok c hn
  refine Fun.of T [.tmp 4] Tryz.func32 rfl Tryz.ntmps32 Tryz.results32 rfl (by kernel_rfl) ?_
  repeat' first | refine VCo.stepO rfl rfl (fun K hK => r_boxR rfl rfl rfl (hK _ _ ?_)); (try simp only [updO]) | refine VCo.step T rfl rfl (fun K hK => ?_); (try simp (disch := omega) only [WB, argE, Nat.reduceBEq, T3, T5, T9, T22, T23, T25, T26, T27, T29, T51, T53, T62, T65, T66, T68, T72, T78, T145, codeRs_len]); (refine hK _ _ ?_; clear hK K) | refine VC.region ?_ | refine VC.seq' ?_ | refine VC.block ?_ | (refine VCo.nil ?_); (try simp only [QB])
  refine VC.loop {k : Nat // k ≤ u.code.length ∧ ∀ i, i < k → endedB u c (i : Nat) = true} (fun p => ⟨lookD [(2, .pt (unC u)), (3, .pt (cfC c)), (8, iD (u.code.length : Nat)), (9, iD (p.1 : Nat))], []⟩) (fun p => u.code.length - p.1) ⟨0, by omega, fun i hi => by omega⟩ ?_ ?_
  · refine Weak.sub ?_
    simp [sub, upd]
  rintro ⟨k, hk, hs⟩
  dsimp only
  rcases Nat.lt_or_ge k u.code.length with hlt | hge
  · have hd : decide ((k : Int) < (u.code.length : Int)) = true := by simp; omega
    have hw : IntKind.i64.wrap ((k : Int) + 1) = ((k + 1 : Nat) : Int) := by rw [w64 (by omega)]; omega
    have ce := ended_ok u c (k : Nat)
    cases hE : endedB u c (k : Nat) with
    | false =>
      rw [hE] at ce
      rw [show finalB u c = false by rw [finalB, range_not' hlt hE]; rfl]
      repeat' first | refine VCo.step T rfl rfl (fun K hK => ?_); (try simp (disch := omega) only [WB, lookD, Nat.reduceBEq, Nat.reduceAdd, Nat.reduceLeDiff, T3, T5, T9, T22, T23, T25, T26, T27, T29, T51, T53, T62, T65, T66, T68, T72, T78, T145, hd, Bool.not_false]); (first | refine hK _ _ ?_; clear hK K | refine Op1.callp rfl rfl (ce) rfl ?_; refine hK _ _ ?_; clear hK K) | refine VC.region ?_ | refine VC.seq' ?_ | refine VC.block ?_ | (first | refine VCo.nil ?_ | refine VC.skip ?_ | refine VC.ret ?_); (try simp only [QB]) | refine ret1 T (List.nil_sublist _) ?_; (try simp only [upd, Nat.reduceBEq, cond_true, cond_false, and_true]) | refine VC.cond rfl ?_; (try simp only [gsplit_true])
    | true =>
      rw [hE] at ce
      repeat' first | refine VCo.step T rfl rfl (fun K hK => ?_); (try simp (disch := omega) only [WB, lookD, Nat.reduceBEq, Nat.reduceAdd, Nat.reduceLeDiff, T3, T5, T9, T22, T23, T25, T26, T27, T29, T51, T53, T62, T65, T66, T68, T72, T78, T145, hd, hw, Bool.not_true]); (first | refine hK _ _ ?_; clear hK K | refine Op1.callp rfl rfl (ce) rfl ?_; refine hK _ _ ?_; clear hK K) | refine VC.region ?_ | refine VC.seq' ?_ | refine VC.block ?_ | (first | refine VCo.nil ?_ | refine VC.skip ?_); (try simp only [QB]) | refine VC.cond rfl ?_; (try simp only [gsplit_true, gsplit_false])
      refine ⟨⟨k + 1, by omega, fun i hi => ?_⟩, Weak.sub ?_, by simp only []; omega⟩
      · rcases Nat.lt_or_ge i k with h | h
        · exact hs i h
        · obtain rfl : i = k := by omega
          exact hE
      · simp [sub, upd]
  have hd : decide ((k : Int) < (u.code.length : Int)) = false := by simp; omega
  rw [show finalB u c = quietB c by rw [finalB, range_all' fun i hi => hs i (by omega), Bool.true_and]]
  repeat' first | refine VCo.step T rfl rfl (fun K hK => ?_); (try simp (disch := omega) only [WB, lookD, Nat.reduceBEq, Nat.reduceAdd, Nat.reduceLeDiff, T3, T5, T9, T22, T23, T25, T26, T27, T29, T51, T53, T62, T65, T66, T68, T72, T78, T145, hd]); (first | refine hK _ _ ?_; clear hK K | refine Op1.callp rfl rfl (cq) rfl ?_; refine hK _ _ ?_; clear hK K) | refine VC.region ?_ | refine VC.seq' ?_ | (first | refine VCo.nil ?_ | refine VC.ret ?_ | refine VC.exit ?_); (try simp only [QB]) | refine ret1 T (List.nil_sublist _) ?_; (try simp only [upd, Nat.reduceBEq, cond_true, cond_false, and_true]) | refine VC.cond rfl ?_; (try simp only [gsplit_false])
theorem rfinal_ok (u : Un) (c : Cf) (hu : u.code.length ≤ 1000000) (hn : c.bufs.length ≤ 1000000) : Pure Tryz.prog 33 [.agg (unC u), .agg (cfC c)] (bD (finalB u c)) := by
  have cq := rquiet_ok c hn
  refine Fun.of T [.tmp 4] Tryz.func33 rfl Tryz.ntmps33 Tryz.results33 rfl (by kernel_rfl) ?_
  repeat' first | refine VCo.stepO rfl rfl (fun K hK => r_boxR rfl rfl rfl (hK _ _ ?_)); (try simp only [updO]) | refine VCo.step T rfl rfl (fun K hK => ?_); (try simp (disch := omega) only [WB, argE, T3, T5, T9, T22, T23, T25, T26, T27, T29, T51, T53, T62, T65, T66, T68, T72, T78, T145]); (refine hK _ _ ?_; clear hK K) | refine VC.region ?_ | refine VC.seq' ?_ | refine VC.block ?_ | (refine VCo.nil ?_); (try simp only [QB])
  refine VC.loop {k : Nat // k ≤ u.code.length ∧ ∀ i, i < k → endedB u c (i : Nat) = true} (fun p => ⟨lookD [(2, .pt (unC u)), (3, .pt (cfC c)), (5, iD (p.1 : Nat))], []⟩) (fun p => u.code.length - p.1) ⟨0, by omega, fun i hi => by omega⟩ ?_ ?_
  · refine Weak.sub ?_
    simp [sub, upd]
  rintro ⟨k, hk, hs⟩
  dsimp only
  rcases Nat.lt_or_ge k u.code.length with hlt | hge
  · have hd : decide ((k : Int) < (u.code.length : Int)) = true := by simp; omega
    have hw : IntKind.i64.wrap ((k : Int) + 1) = ((k + 1 : Nat) : Int) := by rw [w64 (by omega)]; omega
    have ce := rended_ok u c (k : Nat)
    cases hE : endedB u c (k : Nat) with
    | false =>
      rw [hE] at ce
      rw [show finalB u c = false by rw [finalB, range_not' hlt hE]; rfl]
      repeat' first | refine VCo.step T rfl rfl (fun K hK => ?_); (try simp (disch := omega) only [WB, lookD, Nat.reduceBEq, Nat.reduceAdd, Nat.reduceLeDiff, T3, T5, T9, T22, T23, T25, T26, T27, T29, T51, T53, T62, T65, T66, T68, T72, T78, T145, hd, codeRs_len, Bool.not_false]); (first | refine hK _ _ ?_; clear hK K | refine Op1.callp rfl rfl (ce) rfl ?_; refine hK _ _ ?_; clear hK K) | refine VC.region ?_ | refine VC.seq' ?_ | refine VC.block ?_ | (first | refine VCo.nil ?_ | refine VC.skip ?_ | refine VC.ret ?_); (try simp only [QB]) | refine ret1 T (List.nil_sublist _) ?_; (try simp only [upd, Nat.reduceBEq, cond_true, cond_false, and_true]) | refine VC.cond rfl ?_; (try simp only [gsplit_true])
    | true =>
      rw [hE] at ce
      repeat' first | refine VCo.step T rfl rfl (fun K hK => ?_); (try simp (disch := omega) only [WB, lookD, Nat.reduceBEq, Nat.reduceAdd, Nat.reduceLeDiff, T3, T5, T9, T22, T23, T25, T26, T27, T29, T51, T53, T62, T65, T66, T68, T72, T78, T145, hd, hw, codeRs_len, Bool.not_true]); (first | refine hK _ _ ?_; clear hK K | refine Op1.callp rfl rfl (ce) rfl ?_; refine hK _ _ ?_; clear hK K) | refine VC.region ?_ | refine VC.seq' ?_ | refine VC.block ?_ | (first | refine VCo.nil ?_ | refine VC.skip ?_); (try simp only [QB]) | refine VC.cond rfl ?_; (try simp only [gsplit_true, gsplit_false])
      refine ⟨⟨k + 1, by omega, fun i hi => ?_⟩, Weak.sub ?_, by simp only []; omega⟩
      · rcases Nat.lt_or_ge i k with h | h
        · exact hs i h
        · obtain rfl : i = k := by omega
          exact hE
      · simp [sub, upd]
  have hd : decide ((k : Int) < (u.code.length : Int)) = false := by simp; omega
  rw [show finalB u c = quietB c by rw [finalB, range_all' fun i hi => hs i (by omega), Bool.true_and]]
  repeat' first | refine VCo.step T rfl rfl (fun K hK => ?_); (try simp (disch := omega) only [WB, lookD, Nat.reduceBEq, Nat.reduceAdd, Nat.reduceLeDiff, T3, T5, T9, T22, T23, T25, T26, T27, T29, T51, T53, T62, T65, T66, T68, T72, T78, T145, hd, codeRs_len]); (first | refine hK _ _ ?_; clear hK K | refine Op1.callp rfl rfl (cq) rfl ?_; refine hK _ _ ?_; clear hK K) | refine VC.region ?_ | refine VC.seq' ?_ | (first | refine VCo.nil ?_ | refine VC.ret ?_ | refine VC.exit ?_); (try simp only [QB]) | refine ret1 T (List.nil_sublist _) ?_; (try simp only [upd, Nat.reduceBEq, cond_true, cond_false, and_true]) | refine VC.cond rfl ?_; (try simp only [gsplit_false])
end Go.Proofs.YtlnmljmeahknaaaGreat
