/- Contracts: what operators do; the parts of instructions. No condition. -/
import Derived.Test.YtfifcjgcajpnoaaXe
namespace Go.Proofs.Ytfifcjgcajpnoaa
set_option linter.unusedSimpArgs false
set_option linter.unusedVariables false
set_option maxRecDepth 20000
open Go Go.Proofs Go.Vc

def tI (b : Bool) : Int := match b with | true => 1 | false => 0
def twoF (op a b md : Int) : Int :=
  if op = 6 then (a + b).tmod md else if op = 7 then (a - b + md).tmod md else if op = 8 then (a * b).tmod md else if op = 9 then tI (a == b) else if op = 10 then tI (a != b)
  else if op = 11 then tI (decide (a < b)) else if op = 12 then tI (decide (a ≤ b)) else if op = 13 then tI ((a != 0) && (b != 0)) else tI ((a != 0) || (b != 0))
end Go.Proofs.Ytfifcjgcajpnoaa
/- Contracts: the parts of instructions. No condition. -/
namespace Go.Proofs.Ytfifcjgcajpnoaa
set_option linter.unusedSimpArgs false
set_option linter.unusedVariables false
set_option maxRecDepth 20000
open Go Go.Proofs Go.Vc

def doneB (x : Ins) : Bool := decide (x.op = 22) && (decide (x.reg = 0) && (decide (x.loc = 0) && (decide (x.e.length = 0) && (decide (x.f.length = 0) && (!x.ne && decide (x.to = 0))))))
end Go.Proofs.Ytfifcjgcajpnoaa
/- Contracts: whether code can be (how many numbers lie there). No condition. -/
namespace Go.Proofs.Ytfifcjgcajpnoaa
set_option linter.unusedSimpArgs false
set_option linter.unusedVariables false
set_option maxRecDepth 20000
open Go Go.Proofs Go.Vc

/-- One step: how many numbers lie there; none: a step takes what is not there, or is none. -/
def lieStep (op : Int) (n : Int) : Option Int :=
  if 1 ≤ op ∧ op ≤ 4 then some (n + 1) else if op = 5 ∧ 1 ≤ n then some n else if (6 ≤ op ∧ op ≤ 14) ∧ 2 ≤ n then some (n - 1) else none
def liesF : List Opc → Int → Int → Option (Int × Int)
  | [], n, most => some (n, most)
  | x :: r, n, most => match lieStep x.1 n with
    | some n' => liesF r n' (max most n')
    | none => none

theorem r_max {P : Program} {o : Oper} {E : Operand → D} {H : Heap} {K : D → Heap → Prop} {x y : Operand} {ts : Array TypeId} {k : IntKind} {a b : Int} (ho : o.op = .call ⟨.builtin .max, #[x, y], ts⟩) (ha : E x = .is (.int k a)) (hb : E y = .is (.int k b)) (hk : K (.is (.int k (max a b))) H) : Op1 P o E H K := by
  refine Op1.value (d := .is (.int k (max a b))) (fun w L0 ε hi hx => ?_) hk
  have h1 := hx x (by simp [ho, Op.operands, Call.operands])
  have h2 := hx y (by simp [ho, Op.operands, Call.operands])
  rw [ha] at h1; rw [hb] at h2
  have h1' : ε x = .int k a := h1
  have h2' : ε y = .int k b := h2
  refine ⟨.int k (max a b), ?_, rfl⟩
  simp only [execOp, ho, resolve, invoke, builtin]
  simp [go_sem, h1', h2', Builtin.max_, Builtin.max2]
  split <;> omega

theorem liesF_cons (x : Opc) (r : List Opc) (n most : Int) : liesF (x :: r) n most = (match lieStep x.1 n with | some n' => liesF r n' (max most n') | none => none) := rfl
def liesD (o : Option (Int × Int)) : D := match o with | some p => .tup [iD p.1, iD p.2] | none => .tup [iD (-1), iD (-1)]

end Go.Proofs.Ytfifcjgcajpnoaa
/- Contracts: whether two configurations are the same. No condition. -/
namespace Go.Proofs.Ytfifcjgcajpnoaa
set_option linter.unusedSimpArgs false
set_option linter.unusedVariables false
set_option maxRecDepth 20000
open Go Go.Proofs Go.Vc

/-- The lists are short. -/
structure OkC (c : Cf) : Prop where
  pc : c.pc.length ≤ 1000
  mem : c.mem.length ≤ 1000
  regs : c.regs.length ≤ 1000
  row : ∀ r, r ∈ c.regs → r.length ≤ 1000
  bufs : c.bufs.length ≤ 1000
  buf : ∀ b, b ∈ c.bufs → b.length ≤ 1000

def sameC (a b : Cf) : Bool := decide (a.pc = b.pc) && (decide (a.mem = b.mem) && (decide (a.regs = b.regs) && decide (a.bufs = b.bufs)))
theorem ext_of {α : Type} {l m : List α} (hl : l.length = m.length) (h : ∀ i, i < l.length → l[i]? = m[i]?) : l = m := by
  apply List.ext_getElem?
  intro i
  rcases Nat.lt_or_ge i l.length with h' | h'
  · exact h i h'
  · rw [List.getElem?_eq_none h', List.getElem?_eq_none (by omega)]
theorem ne_of_at {α : Type} {l m : List α} {i : Nat} {x y : α} (hx : l[i]? = some x) (hy : m[i]? = some y) (h : x ≠ y) : l ≠ m := fun e => by
  rw [e, hy] at hx
  exact h (Option.some.inj hx).symm
theorem samestep {α : Type} {l m : List α} {k : Nat} {x : α} (hs : ∀ i, i < k → l[i]? = m[i]?) (hx : l[k]? = some x) (hy : m[k]? = some x) : ∀ i, i < k + 1 → l[i]? = m[i]? := fun i hi => by
  rcases Nat.lt_or_ge i k with h' | h'
  · exact hs i h'
  · obtain rfl : i = k := by omega
    rw [hx, hy]

end Go.Proofs.Ytfifcjgcajpnoaa
