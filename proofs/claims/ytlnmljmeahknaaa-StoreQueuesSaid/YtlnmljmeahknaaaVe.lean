/- What each operation makes of descriptors: the operations that write nothing. No condition. -/
import Derived.Test.YtlnmljmeahknaaaVd
namespace Go.Vc
set_option linter.unusedSimpArgs false
open Go
set_option linter.unusedVariables false

theorem OpS.k {P : Program} {o : Oper} {E : Operand → D} {H : Heap} {d : D} {K : D → Heap → Prop} (h : OpS P o E H (fun d' H' => d' = d ∧ H' = H)) (hk : K d H) : Op1 P o E H K :=
  ⟨_, h, fun _ _ ⟨h1, h2⟩ => h1 ▸ h2 ▸ hk⟩

/-- One operand, exact: what comes of it is exact. -/
theorem Op1.value {P : Program} {o : Oper} {E : Operand → D} {H : Heap} {K : D → Heap → Prop} {d : D}
    (h : ∀ (w : World) (L0 : Nat → Prop) (ε : Operand → Value), HInv w L0 H → (∀ x, x ∈ o.op.operands → Rel w (live H L0) (E x) (ε x)) → ∃ v, (execOp ε o).run P w = .ok (.value v) w ∧ Rel w (live H L0) d v)
    (hk : K d H) : Op1 P o E H K := (OpS.value h).k hk

theorem r_move {P : Program} {o : Oper} {E : Operand → D} {H : Heap} {K : D → Heap → Prop} {x : Operand} (ho : o.op = .move x ∨ o.op = .assign x) (hk : K (E x) H) : Op1 P o E H K :=
  Op1.value (fun w L0 ε hi hx => ⟨ε x, by rcases ho with ho | ho <;> (simp only [execOp, ho]; rfl), hx x (by rcases ho with ho | ho <;> simp [ho, Op.operands])⟩) hk

def cPick (c a b : D) (K : D → Prop) : Prop :=
  match c with
  | .is (.bool t) => gsplit t fun t => K (match t with | true => a | false => b)
  | _ => False

theorem r_pick {P : Program} {o : Oper} {E : Operand → D} {H : Heap} {K : D → Heap → Prop} {c a b : Operand} (ho : o.op = .pick c a b) (hk : cPick (E c) (E a) (E b) (K · H)) : Op1 P o E H K := by
  unfold cPick at hk
  split at hk
  · rename_i t hc
    have h := gsplit_elim hk
    refine Op1.value (fun w L0 ε hi hx => ?_) h
    have h1 := hx c (by simp [ho, Op.operands])
    have h2 := hx a (by simp [ho, Op.operands])
    have h3 := hx b (by simp [ho, Op.operands])
    rw [hc] at h1
    have h1' : ε c = .bool t := h1
    refine ⟨if t then ε a else ε b, ?_, ?_⟩
    · simp only [execOp, ho, h1', asBool]
      cases t <;> rfl
    · cases t
      · exact h3
      · exact h2
  · exact hk.elim

/-! ### Numbers, bools, strings -/

def kTag : IntKind → Nat
  | .i8 => 0 | .i16 => 1 | .i32 => 2 | .i64 => 3 | .u8 => 4 | .u16 => 5 | .u32 => 6 | .u64 => 7
theorem kTag_inj {j k : IntKind} (h : (kTag j == kTag k) = true) : j = k := by cases j <;> cases k <;> first | rfl | (simp [kTag] at h)

def cInt (op : BinOp) (k : IntKind) (x y : Int) (K : D → Prop) : Prop :=
  match op with
  | .add => K (.is (.int k (k.wrap (x + y))))
  | .sub => K (.is (.int k (k.wrap (x - y))))
  | .mul => K (.is (.int k (k.wrap (x * y))))
  | .quo => y ≠ 0 ∧ K (.is (.int k (k.wrap (x.tdiv y))))
  | .rem => y ≠ 0 ∧ K (.is (.int k (x.tmod y)))
  | .eql => K (.is (.bool (x == y)))
  | .neq => K (.is (.bool (x != y)))
  | .lss => K (.is (.bool (decide (x < y))))
  | .leq => K (.is (.bool (decide (x ≤ y))))
  | .gtr => K (.is (.bool (decide (x > y))))
  | .geq => K (.is (.bool (decide (x ≥ y))))
  | _ => False

def cStr (op : BinOp) (x y : ByteArray) (K : D → Prop) : Prop :=
  match op with
  | .add => x.size + y.size ≤ 9223372036854775807 ∧ K (.is (.string (x ++ y)))
  | .eql => K (.is (.bool (decide (x = y))))
  | .neq => K (.is (.bool (!decide (x = y))))
  | .lss => K (.is (.bool (Op.bytesLess x.data.toList y.data.toList)))
  | _ => False

def cBin (kd : Kd) (op : BinOp) (a b : D) (K : D → Prop) : Prop :=
  match a, b with
  | .is (.int k x), .is (.int k' y) => match kTag k == kTag k' with | true => cInt op k x y K | false => False
  | .is (.string x), .is (.string y) => cStr op x y K
  | .is (.bool x), .is (.bool y) => match kd, op with
    | .bool, .eql => K (.is (.bool (x == y)))
    | .bool, .neq => K (.is (.bool (x != y)))
    | _, _ => False
  | _, _ => False

theorem bytes_toList_eq (x y : ByteArray) : (x.toList == y.toList) = decide (x = y) := by
  rw [ByteArray.toList_eq, ByteArray.toList_eq]
  by_cases h : x = y
  · subst h; simp
  · have : x.data.toList ≠ y.data.toList := fun e => h (by cases x; cases y; simp only [ByteArray.mk.injEq]; exact Array.toList_inj.1 e)
    rw [decide_eq_false h, beq_eq_false_iff_ne]
    exact this

theorem run_ite {α : Type} {P : Program} {w : World} {c : Prop} [Decidable c] {A B : Sem α} {r : Result α} (hA : A.run P w = r) (hB : B.run P w = r) : (if c then A else B).run P w = r := by
  split <;> assumption

theorem run_eqGuard_simple {P : Program} {w : World} {op : BinOp} {t : TypeId} {x y : Operand} {a b : Value} (h : (match a, b with | .nilIface, .nilIface => False | .agg _, .agg _ => False | _, _ => True)) :
    (eqGuard op t x y a b).run P w = .ok () w := by
  unfold eqGuard
  refine run_ite rfl ?_
  split
  · exact h.elim
  · exact h.elim
  · rfl

theorem run_equal_bool {P : Program} {t : TypeId} (hu : P.underlying t = some .bool) (a b : Bool) (w : World) : (Op.equal t (.bool a) (.bool b)).run P w = .ok (a == b) w := by
  show (Op.equalIn (9999 + 1) t _ _).run P w = _
  unfold Op.equalIn
  rw [run_bind (run_underlying hu w)]
  rfl

theorem kd_bool {P : Program} (T : Tab P) {t : TypeId} (h : (match (T.get t).known with | true => (T.get t).kd | false => Kd.other) = .bool) : P.underlying t = some .bool := by
  cases hkn : (T.get t).known with
  | false => rw [hkn] at h; cases h
  | true =>
    rw [hkn] at h
    obtain ⟨d, i, z, h1, h2, h3, h4, _⟩ := T.facts hkn
    rw [show (T.get t).kd = Kd.bool from h] at h4
    cases d <;> simp only [kdOf] at h4 <;> first | exact h1 | cases h4 | (split at h4 <;> cases h4)

theorem r_bin {P : Program} (T : Tab P) {o : Oper} {E : Operand → D} {H : Heap} {K : D → Heap → Prop} {op : BinOp} {t u : TypeId} {x y : Operand} (ho : o.op = .binOp op t x y u)
    (hk : cBin (match (T.get t).known with | true => (T.get t).kd | false => .other) op (E x) (E y) (K · H)) : Op1 P o E H K := by
  have fin : ∀ (a b : Value) (d : D) (v : Value), E x = .is a → E y = .is b → (∀ w, (eqGuard op t x y a b).run P w = .ok () w) → (∀ w, (binOp op t a b).run P w = .ok v w) → d = .is v → K d H → Op1 P o E H K := by
    intro a b d v ha hb hg hr hd hk
    refine Op1.value (fun w L0 ε hi hx => ?_) hk
    have h1 := hx x (by simp [ho, Op.operands])
    have h2 := hx y (by simp [ho, Op.operands])
    rw [ha] at h1; rw [hb] at h2
    have h1' : ε x = a := h1
    have h2' : ε y = b := h2
    refine ⟨v, ?_, by subst hd; rfl⟩
    simp only [execOp, ho, h1', h2']
    rw [run_bind (a := v) (w' := w) (by rw [run_bind (hg w)]; exact hr w)]
    rfl
  unfold cBin at hk
  split at hk
  · rename_i k a k' b ha hb
    split at hk
    · rename_i hkk
      obtain rfl := kTag_inj hkk
      have hg : ∀ w, (eqGuard op t x y (.int k a) (.int k b)).run P w = .ok () w := fun w => run_eqGuard_simple trivial
      unfold cInt at hk
      cases op <;> simp only at hk
      all_goals first
        | exact hk.elim
        | exact fin _ _ _ _ ha hb hg (fun w => by simp only [binOp, ne_eq, not_true_eq_false, if_false, Op.intArith, Op.intCmp]; rfl) rfl hk
        | exact fin _ _ _ _ ha hb hg (fun w => by simp only [binOp, ne_eq, not_true_eq_false, if_false, Op.intDiv, hk.1]; rfl) rfl hk.2
    · exact hk.elim
  · rename_i a b ha hb
    have hg : ∀ w, (eqGuard op t x y (.string a) (.string b)).run P w = .ok () w := fun w => run_eqGuard_simple trivial
    unfold cStr at hk
    cases op <;> simp only at hk
    all_goals first
      | exact hk.elim
      | (refine fin _ _ _ _ ha hb hg (fun w => ?_) rfl hk.2
         simp only [binOp, Op.stringOp]
         rw [if_neg (by have := hk.1; simp only [IntKind.max, IntKind.bits, IntKind.signed]; simp; omega)]
         rfl)
      | exact fin _ _ _ _ ha hb hg (fun w => by simp only [binOp, Op.stringOp, bytes_toList_eq]; rfl) rfl hk
      | exact fin _ _ _ _ ha hb hg (fun w => by simp only [binOp, Op.stringOp, ByteArray.toList_eq]; rfl) rfl hk
  · rename_i a b ha hb
    have hg : ∀ w, (eqGuard op t x y (.bool a) (.bool b)).run P w = .ok () w := fun w => run_eqGuard_simple trivial
    split at hk
    · rename_i hkd
      have hu := kd_bool T hkd
      refine fin _ _ _ _ ha hb hg (fun w => ?_) rfl hk
      show (Op.equal t (.bool a) (.bool b) >>= fun r => pure (Value.bool r)).run P w = _
      rw [run_bind (run_equal_bool hu a b w)]
      rfl
    · rename_i hkd
      have hu := kd_bool T hkd
      refine fin _ _ _ _ ha hb hg (fun w => ?_) rfl hk
      show (Op.equal t (.bool a) (.bool b) >>= fun r => pure (Value.bool (!r))).run P w = _
      rw [run_bind (run_equal_bool hu a b w)]
      rfl
    · exact hk.elim
  · exact hk.elim

def cUn (op : UnOp) (a : D) (K : D → Prop) : Prop :=
  match op, a with
  | .not, .is (.bool b) => K (.is (.bool !b))
  | .neg, .is (.int k n) => K (.is (.int k (k.wrap (0 - n))))
  | _, _ => False

theorem r_un {P : Program} {o : Oper} {E : Operand → D} {H : Heap} {K : D → Heap → Prop} {op : UnOp} {t : TypeId} {x : Operand} (ho : o.op = .unOp op t x) (hk : cUn op (E x) (K · H)) : Op1 P o E H K := by
  unfold cUn at hk
  split at hk
  · rename_i b hx0
    refine Op1.value (d := .is (.bool !b)) (fun w L0 ε hi hx => ⟨.bool !b, ?_, rfl⟩) hk
    have h1 := hx x (by simp [ho, Op.operands])
    rw [hx0] at h1
    have h1' : ε x = .bool b := h1
    simp only [execOp, ho, h1']
    rfl
  · rename_i k n hx0
    refine Op1.value (d := .is (.int k (k.wrap (0 - n)))) (fun w L0 ε hi hx => ⟨.int k (k.wrap (0 - n)), ?_, rfl⟩) hk
    have h1 := hx x (by simp [ho, Op.operands])
    rw [hx0] at h1
    have h1' : ε x = .int k n := h1
    simp only [execOp, ho, h1']
    rfl
  · exact hk.elim

end Go.Vc
