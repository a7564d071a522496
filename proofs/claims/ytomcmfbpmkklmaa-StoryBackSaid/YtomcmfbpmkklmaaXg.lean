/- Contracts: what operators do; the parts of instructions. No condition. -/
import Derived.Test.YtomcmfbpmkklmaaXe
namespace Go.Proofs.Ytomcmfbpmkklmaa
set_option maxHeartbeats 16000000
set_option linter.unusedSimpArgs false
set_option linter.unusedVariables false
set_option maxRecDepth 20000
open Go Go.Proofs Go.Vc
def tI (b : Bool) : Int := match b with | true => 1 | false => 0
def twoF (op a b md : Int) : Int :=
 if op = 6 then (a + b).tmod md else if op = 7 then (a - b + md).tmod md else if op = 8 then (a * b).tmod md else if op = 9 then tI (a == b) else if op = 10 then tI (a != b)
 else if op = 11 then tI (decide (a < b)) else if op = 12 then tI (decide (a ≤ b)) else if op = 13 then tI ((a != 0) && (b != 0)) else tI ((a != 0) || (b != 0))
def doneB (x : Ins) : Bool := decide (x.op = 22) && (decide (x.reg = 0) && (decide (x.loc = 0) && (decide (x.e.length = 0) && (decide (x.f.length = 0) && (!x.ne && decide (x.to = 0))))))
def lieStep (op : Int) (n : Int) : Option Int :=
 if 1 ≤ op ∧ op ≤ 4 then some (n + 1) else if op = 5 ∧ 1 ≤ n then some n else if (6 ≤ op ∧ op ≤ 14) ∧ 2 ≤ n then some (n - 1) else none
def liesF : List Opc → Int → Int → Option (Int × Int)
 | [], n, most => some (n, most)
 | x :: r, n, most => match lieStep x.1 n with
  | some n' => liesF r n' (max most n')
  | none => none
theorem r_max {P : Program} {o : Oper} {E : Operand → D} {H : Heap} {K : D → Heap → Prop} {x y : Operand} {ts : Array TypeId} {k : IntKind} {a b : Int} (ho : o.op = .call ⟨.builtin .max, #[x, y], ts⟩) (ha : E x = .is (.int k a)) (hb : E y = .is (.int k b)) (hk : K (.is (.int k (max a b))) H) : Op1 P o E H K := by
 refine Op1.value (d := .is (.int k (max a b))) (fun w L0 ε hi hx => ?_) hk
 have h1 := hx x (by simp [ho, Op.operands, Call.operands])
 have h2 := hx y (by simp [ho, Op.operands, Call.operands])
 rw [ha] at h1; rw [hb] at h2
 have h1' : ε x = .int k a := h1
 have h2' : ε y = .int k b := h2
 refine ⟨.int k (max a b), ?_, rfl⟩
 simp only [execOp, ho, resolve, invoke, builtin]
 simp [go_sem, h1', h2', Builtin.max_, Builtin.max2]
 split <;> omega
theorem liesF_cons (x : Opc) (r : List Opc) (n most : Int) : liesF (x :: r) n most = (match lieStep x.1 n with | some n' => liesF r n' (max most n') | none => none) := rfl
def liesD (o : Option (Int × Int)) : D := match o with | some p => .tup [iD p.1, iD p.2] | none => .tup [iD (-1), iD (-1)]
attribute [local irreducible] retQ VCg VCw VCx
structure OkC (c : Cf) : Prop where
 pc : c.pc.length ≤ 1000
 mem : c.mem.length ≤ 1000
 regs : c.regs.length ≤ 1000
 row : ∀ r, r ∈ c.regs → r.length ≤ 1000
 bufs : c.bufs.length ≤ 1000
 buf : ∀ b, b ∈ c.bufs → b.length ≤ 1000
def sameC (a b : Cf) : Bool := decide (a.pc = b.pc) && (decide (a.mem = b.mem) && (decide (a.regs = b.regs) && decide (a.bufs = b.bufs)))
theorem ext_of {α : Type} {l m : List α} (hl : l.length = m.length) (h : ∀ i, i < l.length → l[i]? = m[i]?) : l = m := by
 apply List.ext_getElem?
 intro i
 rcases Nat.lt_or_ge i l.length with h' | h'
 ·exact h i h'
 ·rw [List.getElem?_eq_none h', List.getElem?_eq_none (by omega)]
theorem ne_of_at {α : Type} {l m : List α} {i : Nat} {x y : α} (hx : l[i]? = some x) (hy : m[i]? = some y) (h : x ≠ y) : l ≠ m := fun e => by
 rw [e, hy] at hx
 exact h (Option.some.inj hx).symm
theorem samestep {α : Type} {l m : List α} {k : Nat} {x : α} (hs : ∀ i, i < k → l[i]? = m[i]?) (hx : l[k]? = some x) (hy : m[k]? = some x) : ∀ i, i < k + 1 → l[i]? = m[i]? := fun i hi => by
 rcases Nat.lt_or_ge i k with h' | h'
 ·exact hs i h'
 ·obtain rfl : i = k := by omega
  rw [hx, hy]
theorem rsame_ok (a b : Cf) (ha : OkC a) (hb : OkC b) : Pure Try.prog 14 [.agg (cfC a), .agg (cfC b)] (bD (sameC a b)) := by
 have ap := ha.pc
 have bp := hb.pc
 have am := ha.mem
 have bm := hb.mem
 have ar := ha.regs
 have br := hb.regs
 have ab := ha.bufs
 have bb := hb.bufs
 have c1 := ints_ok a.pc b.pc (by omega) (by omega)
 have c2 := ints_ok a.mem b.mem (by omega) (by omega)
 refine Fun.of T [.tmp 4] Try.func14 rfl Try.ntmps14 Try.results14 rfl (by kernel_rfl) ?_
 by_cases h1 : a.pc = b.pc
 case neg =>
  have e1 : decide (a.pc = b.pc) = false := decide_eq_false h1
  have hS : sameC a b = false := by simp [sameC, h1]
  rw [hS]
  rw [e1] at c1
  repeat' first | refine vb rfl rfl rfl rfl ?_ | refine vs T rfl fun K hK => ?_; (try simp (disch := omega) only [go_sem, Nat.reduceBEq, Bool.not_false]); (first | refine hK _ _ ?_; clear hK K | refine Op1.callp rfl rfl (c1) rfl ?_; refine hK _ _ ?_; clear hK K) | refine st rfl ?_ | refine sc rfl ?_ | refine nl ?_ | refine gs rfl rfl ?_ | exact ret1 T (List.nil_sublist _) ⟨rfl, rfl⟩
 have e1 : decide (a.pc = b.pc) = true := decide_eq_true h1
 rw [e1] at c1
 by_cases h2 : a.mem = b.mem
 case neg =>
  have e2 : decide (a.mem = b.mem) = false := decide_eq_false h2
  have hS : sameC a b = false := by simp [sameC, h2]
  rw [hS]
  rw [e2] at c2
  repeat' first | refine vb rfl rfl rfl rfl ?_ | refine vs T rfl fun K hK => ?_; (try simp (disch := omega) only [go_sem, Nat.reduceBEq, Bool.not_false, Bool.not_true]); (first | refine hK _ _ ?_; clear hK K | refine Op1.callp rfl rfl (c1) rfl ?_; refine hK _ _ ?_; clear hK K | refine Op1.callp rfl rfl (c2) rfl ?_; refine hK _ _ ?_; clear hK K) | refine st rfl ?_ | refine sc rfl ?_ | refine nl ?_ | refine gs rfl rfl ?_ | exact ret1 T (List.nil_sublist _) ⟨rfl, rfl⟩
 have e2 : decide (a.mem = b.mem) = true := decide_eq_true h2
 rw [e2] at c2
 by_cases h3 : a.regs.length = b.regs.length
 case neg =>
  have e3 : ((a.regs.length : Int) != (b.regs.length : Int)) = true := bne_iff_ne.2 (by omega)
  have hS : sameC a b = false := by
   have : a.regs ≠ b.regs := fun h => h3 (by rw [h])
   simp [sameC, this]
  rw [hS]
  repeat' first | refine vb rfl rfl rfl rfl ?_ | refine vs T rfl fun K hK => ?_; (try simp (disch := omega) only [go_sem, Nat.reduceBEq, e3, rowsI_len, Bool.not_true]); (first | refine hK _ _ ?_; clear hK K | refine Op1.callp rfl rfl (c1) rfl ?_; refine hK _ _ ?_; clear hK K | refine Op1.callp rfl rfl (c2) rfl ?_; refine hK _ _ ?_; clear hK K) | refine st rfl ?_ | refine sc rfl ?_ | refine nl ?_ | refine gs rfl rfl ?_ | exact ret1 T (List.nil_sublist _) ⟨rfl, rfl⟩
 have e3 : ((a.regs.length : Int) != (b.regs.length : Int)) = false := by simp [h3]
 by_cases h4 : a.bufs.length = b.bufs.length
 case neg =>
  have e4 : ((a.bufs.length : Int) != (b.bufs.length : Int)) = true := bne_iff_ne.2 (by omega)
  have hS : sameC a b = false := by
   have : a.bufs ≠ b.bufs := fun h => h4 (by rw [h])
   simp [sameC, this]
  rw [hS]
  repeat' first | refine vb rfl rfl rfl rfl ?_ | refine vs T rfl fun K hK => ?_; (try simp (disch := omega) only [go_sem, Nat.reduceBEq, e3, e4, rowsI_len, bufsR_len, Bool.not_true]); (first | refine hK _ _ ?_; clear hK K | refine Op1.callp rfl rfl (c1) rfl ?_; refine hK _ _ ?_; clear hK K | refine Op1.callp rfl rfl (c2) rfl ?_; refine hK _ _ ?_; clear hK K) | refine st rfl ?_ | refine sc rfl ?_ | refine nl ?_ | refine gs rfl rfl ?_ | exact ret1 T (List.nil_sublist _) ⟨rfl, rfl⟩
 have e4 : ((a.bufs.length : Int) != (b.bufs.length : Int)) = false := by simp [h4]
 repeat' first | refine vb rfl rfl rfl rfl ?_ | refine vs T rfl fun K hK => ?_; (try simp (disch := omega) only [go_sem, Nat.reduceBEq, e3, e4, rowsI_len, bufsR_len, Bool.not_true]); (first | refine hK _ _ ?_; clear hK K | refine Op1.callp rfl rfl (c1) rfl ?_; refine hK _ _ ?_; clear hK K | refine Op1.callp rfl rfl (c2) rfl ?_; refine hK _ _ ?_; clear hK K) | refine st rfl ?_ | refine sc rfl ?_ | refine nl ?_ | refine gs rfl rfl ?_
 refine VC.loop {k : Nat // k ≤ a.regs.length ∧ ∀ i, i < k → a.regs[i]? = b.regs[i]?} (fun p => ⟨lookD [(2, .pt (cfC a)), (3, .pt (cfC b)), (5, iD (p.1 : Nat))], []⟩) (fun p => a.regs.length - p.1) ⟨0, by omega, fun i hi => by omega⟩ ?_ ?_
 ·refine Weak.sub ?_
  simp [sub, upd]
 ·rintro ⟨k, hk, hs⟩
  dsimp only
  rcases Nat.lt_or_ge k a.regs.length with hlt | hge
  ·have hd : decide ((k : Int) < (a.regs.length : Int)) = true := by simp; omega
   have hw : IntKind.i64.wrap ((k : Int) + 1) = ((k + 1 : Nat) : Int) := by rw [w64 (by omega)]; omega
   have hkb : k < b.regs.length := by omega
   obtain ⟨x, hx⟩ : ∃ x, a.regs[k]? = some x := ⟨_, List.getElem?_eq_getElem hlt⟩
   obtain ⟨y, hy⟩ : ∃ y, b.regs[k]? = some y := ⟨_, List.getElem?_eq_getElem hkb⟩
   have rx : (rowsI a.regs)[k]? = some [ints x] := by rw [rowsI_at, hx]; rfl
   have ry : (rowsI b.regs)[k]? = some [ints y] := by rw [rowsI_at, hy]; rfl
   have xl := ha.row x (List.mem_of_getElem? hx)
   have yl := hb.row y (List.mem_of_getElem? hy)
   have c3 := ints_ok x y (by omega) (by omega)
   by_cases he : x = y
   ·rw [decide_eq_true he] at c3
    repeat' first | refine dr (id := 6) T 10 (by kernel_rfl) ?_ | refine gn ?_ | (first | apply VCg.step T rfl rfl | apply exF); focus ((try simp (disch := omega) only [go_sem, Nat.reduceBEq, rx, ry, rowsI_len]); (first | exact rfl | refine ⟨?_, rfl⟩; try omega)) | refine vs T rfl fun K hK => ?_; (try simp (disch := omega) only [go_sem, Nat.reduceBEq, hd, hw, rowsI_len, Bool.not_true]); (first | refine hK _ _ ?_; clear hK K | refine Op1.callp rfl rfl (c3) rfl ?_; refine hK _ _ ?_; clear hK K) | refine st rfl ?_ | refine sc rfl ?_ | refine nl ?_
    refine ⟨⟨k + 1, by omega, samestep hs hx (by rw [hy, he])⟩, Weak.sub ?_, by simp only []; omega⟩
    simp [sub, upd]
   ·rw [decide_eq_false he] at c3
    have hS : sameC a b = false := by
     have := ne_of_at hx hy he
     simp [sameC, this]
    rw [hS]
    repeat' first | refine dr (id := 6) T 10 (by kernel_rfl) ?_ | refine gn ?_ | (apply VCg.step T rfl rfl); focus ((try simp (disch := omega) only [go_sem, Nat.reduceBEq, rx, ry, rowsI_len]); (first | exact rfl | refine ⟨?_, rfl⟩; try omega)) | refine vs T rfl fun K hK => ?_; (try simp (disch := omega) only [go_sem, Nat.reduceBEq, hd, rowsI_len, Bool.not_false]); (first | refine hK _ _ ?_; clear hK K | refine Op1.callp rfl rfl (c3) rfl ?_; refine hK _ _ ?_; clear hK K) | refine st rfl ?_ | refine sc rfl ?_ | refine nl ?_ | exact ret1 T (List.nil_sublist _) ⟨rfl, rfl⟩
  ·have hd : decide ((k : Int) < (a.regs.length : Int)) = false := by simp; omega
   have hr : a.regs = b.regs := ext_of h3 fun i hi => hs i (by omega)
   repeat' first | refine vs T rfl fun K hK => ?_; (try simp (disch := omega) only [go_sem, Nat.reduceBEq, hd, rowsI_len]); (refine hK _ _ ?_; clear hK K) | refine st rfl ?_ | refine sc rfl ?_ | refine nl ?_
   refine VC.loop {k : Nat // k ≤ a.bufs.length ∧ ∀ i, i < k → a.bufs[i]? = b.bufs[i]?} (fun p => ⟨lookD [(2, .pt (cfC a)), (3, .pt (cfC b)), (6, iD (p.1 : Nat))], []⟩) (fun p => a.bufs.length - p.1) ⟨0, by omega, fun i hi => by omega⟩ ?_ ?_
   ·refine Weak.sub ?_
    simp [sub, upd]
   ·rintro ⟨k, hk, hs⟩
    dsimp only
    rcases Nat.lt_or_ge k a.bufs.length with hlt | hge
    ·have hd : decide ((k : Int) < (a.bufs.length : Int)) = true := by simp; omega
     have hw : IntKind.i64.wrap ((k : Int) + 1) = ((k + 1 : Nat) : Int) := by rw [w64 (by omega)]; omega
     have hkb : k < b.bufs.length := by omega
     obtain ⟨x, hx⟩ : ∃ x, a.bufs[k]? = some x := ⟨_, List.getElem?_eq_getElem hlt⟩
     obtain ⟨y, hy⟩ : ∃ y, b.bufs[k]? = some y := ⟨_, List.getElem?_eq_getElem hkb⟩
     have rx : (bufsR a.bufs)[k]? = some [buf x] := by rw [bufsR_at, hx]; rfl
     have ry : (bufsR b.bufs)[k]? = some [buf y] := by rw [bufsR_at, hy]; rfl
     have xl := ha.buf x (List.mem_of_getElem? hx)
     have yl := hb.buf y (List.mem_of_getElem? hy)
     have c3 := same_ok x y (by omega) (by omega)
     by_cases he : x = y
     ·rw [decide_eq_true he] at c3
      repeat' first | refine dr (id := 11) T 10 (by kernel_rfl) ?_ | refine gn ?_ | (first | apply VCg.step T rfl rfl | apply exF); focus ((try simp (disch := omega) only [go_sem, Nat.reduceBEq, rx, ry, bufsR_len]); (first | exact rfl | refine ⟨?_, rfl⟩; try omega)) | refine vs T rfl fun K hK => ?_; (try simp (disch := omega) only [go_sem, Nat.reduceBEq, hd, hw, bufsR_len, Bool.not_true]); (first | refine hK _ _ ?_; clear hK K | refine Op1.callp rfl rfl (c3) rfl ?_; refine hK _ _ ?_; clear hK K) | refine st rfl ?_ | refine sc rfl ?_ | refine nl ?_
      refine ⟨⟨k + 1, by omega, samestep hs hx (by rw [hy, he])⟩, Weak.sub ?_, by simp only []; omega⟩
      simp [sub, upd]
     ·rw [decide_eq_false he] at c3
      have hS : sameC a b = false := by
       have := ne_of_at hx hy he
       simp [sameC, this]
      rw [hS]
      repeat' first | refine dr (id := 11) T 10 (by kernel_rfl) ?_ | refine gn ?_ | (apply VCg.step T rfl rfl); focus ((try simp (disch := omega) only [go_sem, Nat.reduceBEq, rx, ry, bufsR_len]); (first | exact rfl | refine ⟨?_, rfl⟩; try omega)) | refine vs T rfl fun K hK => ?_; (try simp (disch := omega) only [go_sem, Nat.reduceBEq, hd, bufsR_len, Bool.not_false]); (first | refine hK _ _ ?_; clear hK K | refine Op1.callp rfl rfl (c3) rfl ?_; refine hK _ _ ?_; clear hK K) | refine st rfl ?_ | refine sc rfl ?_ | refine nl ?_ | exact ret1 T (List.nil_sublist _) ⟨rfl, rfl⟩
    ·have hd : decide ((k : Int) < (a.bufs.length : Int)) = false := by simp; omega
     have hb' : a.bufs = b.bufs := ext_of h4 fun i hi => hs i (by omega)
     have hS : sameC a b = true := by simp [sameC, h1, h2, hr, hb']
     rw [hS]
     repeat' first | refine vs T rfl fun K hK => ?_; (try simp (disch := omega) only [go_sem, Nat.reduceBEq, hd, bufsR_len]); (refine hK _ _ ?_; clear hK K) | refine st rfl ?_ | refine sc rfl ?_ | refine nl ?_ | exact ret1 T (List.nil_sublist _) ⟨rfl, rfl⟩
end Go.Proofs.Ytomcmfbpmkklmaa
