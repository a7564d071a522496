/- Contracts: what can act. No condition. -/
import Derived.Test.YtomcmfbpmkklmaaGreatRb
import Derived.Test.YtomcmfbpmkklmaaGreatRa
import Derived.Test.YtomcmfbpmkklmaaGreatZm
namespace Go.Proofs.YtomcmfbpmkklmaaGreat
set_option maxHeartbeats 16000000
set_option linter.unusedSimpArgs false
set_option linter.unusedVariables false
set_option maxRecDepth 20000
open Go Go.Proofs Go.Vc
attribute [local irreducible] retQ VCg VCw VCx
inductive Ag where
 | th (t : Nat)
 | fl (t : Nat) (l : Int)
def agD : Ag → D
 | .th t => .ifc 186 (iD (t : Nat))
 | .fl t l => .ifc 188 (.agg [iD (t : Nat), iD l])
def agsR (l : List Ag) : List (List D) := l.map fun a => [agD a]
theorem agsR_len (l : List Ag) : (agsR l).length = l.length := List.length_map ..
theorem agsR_at (l : List Ag) (i : Nat) : (agsR l)[i]? = (l[i]?).map fun a => [agD a] := List.getElem?_map ..
theorem agsR_row (l : List Ag) : ∀ r, r ∈ agsR l → r.length = 1 := by
 intro r hr
 obtain ⟨a, _, rfl⟩ := List.mem_map.1 hr
 rfl
theorem agsR_flat (l : List Ag) : (agsR l).flatten = l.map agD := by
 induction l with
 | nil => rfl
 | cons a l ih => simp only [agsR, List.map_cons, List.flatten_cons] at ih ⊢; rw [ih]; rfl
def thsF (k : Nat) : List Ag := (List.range k).map .th
def flsF (u : Un) (m : Int) (t : Nat) : List Ag := if m = 2 then [.fl t (-1)] else if m = 3 then (List.range u.init.length).map fun (l : Nat) => .fl t (l : Int) else []
def allF (u : Un) (m : Int) (k : Nat) : List Ag := thsF u.regs.length ++ (List.range k).flatMap (flsF u m)
def agsF (u : Un) (m : Int) : List Ag := if unitB u = true ∧ 1 ≤ m ∧ m ≤ 3 then allF u m u.regs.length else []
theorem thsF_succ (k : Nat) : thsF (k + 1) = thsF k ++ [.th k] := by simp [thsF, List.range_succ]
theorem allF_succ (u : Un) (m : Int) (k : Nat) : allF u m (k + 1) = allF u m k ++ flsF u m k := by simp [allF, List.range_succ, List.append_assoc]
theorem thsF_len (k : Nat) : (thsF k).length = k := by simp [thsF]
theorem unit_lens {u : Un} (h : unitB u = true) : u.regs.length ≤ 4 ∧ u.init.length ≤ 6 ∧ 1 ≤ u.regs.length := by
 simp only [unitB, headB, Bool.and_eq_true, decide_eq_true_eq] at h
 omega
theorem nI186 : ∃ d, Tryz.prog.underlying 186 = some d ∧ ∀ ms, d ≠ .interface ms := ⟨_, Tryz.underlying186, fun ms h => by cases h⟩
theorem nI188 : ∃ d, Tryz.prog.underlying 188 = some d ∧ ∀ ms, d ≠ .interface ms := ⟨_, Tryz.underlying188, fun ms h => by cases h⟩
theorem agents_ok (u : Un) (hu : OkU u) (m : Int) : Pure Tryz.prog 118 [.agg (unC u), iD m] (.sl false 1 (agsR (agsF u m))) := by
 have cu := rightL_ok u hu
 refine Fun.freeze (agsR_row _) ?_
 refine Fun.of T [.tmp 4] Tryz.func118 rfl Tryz.ntmps118 Tryz.results118 rfl (by kernel_rfl) ?_
 have fin0 : agsF u m = [] → ∀ E : Nat → D, E 4 = .gs none 0 → retQ T [.tmp 4] (fun d H' => ∃ g e, d = .gs g (agsR (agsF u m)).length ∧ H' = shp g e 1 (agsR (agsF u m)).flatten []) .ret ⟨E, []⟩ := fun h E hE => by
  rw [h]
  exact ret1 T (List.nil_sublist _) ⟨none, 0, by rw [hE]; rfl, rfl⟩
 cases hU : unitB u with
 | false =>
  rw [hU] at cu
  repeat' first | refine vb rfl rfl rfl rfl ?_ | refine vs T rfl fun K hK => ?_; (try simp (disch := omega) only [go_sem, Nat.reduceBEq, Nat.reduceAdd, Nat.reduceLeDiff, Bool.not_false]); (first | refine hK _ _ ?_; clear hK K | refine Op1.callp rfl rfl (cu) rfl ?_; refine hK _ _ ?_; clear hK K) | refine st rfl ?_ | refine sc rfl ?_ | refine nl ?_ | refine gs rfl rfl ?_
  exact fin0 (by simp [agsF, hU]) _ rfl
 | true =>
 rw [hU] at cu
 by_cases h1 : m < 1
 ·have e1 : decide (m < 1) = true := by simpa using h1
  repeat' first | refine vb rfl rfl rfl rfl ?_ | refine vs T rfl fun K hK => ?_; (try simp (disch := omega) only [go_sem, Nat.reduceBEq, Nat.reduceAdd, Nat.reduceLeDiff, e1, Bool.not_true]); (first | refine hK _ _ ?_; clear hK K | refine Op1.callp rfl rfl (cu) rfl ?_; refine hK _ _ ?_; clear hK K) | refine st rfl ?_ | refine sc rfl ?_ | refine nl ?_ | refine gs rfl rfl ?_
  exact fin0 (by simp [agsF]; omega) _ rfl
 have e1 : decide (m < 1) = false := by simpa using h1
 by_cases h3 : m > 3
 ·have e3 : decide (m > 3) = true := by simpa using h3
  repeat' first | refine vb rfl rfl rfl rfl ?_ | refine vs T rfl fun K hK => ?_; (try simp (disch := omega) only [go_sem, Nat.reduceBEq, Nat.reduceAdd, Nat.reduceLeDiff, e1, e3, Bool.not_true]); (first | refine hK _ _ ?_; clear hK K | refine Op1.callp rfl rfl (cu) rfl ?_; refine hK _ _ ?_; clear hK K) | refine st rfl ?_ | refine sc rfl ?_ | refine nl ?_ | refine gs rfl rfl ?_
  exact fin0 (by simp [agsF]; omega) _ rfl
 have e3 : decide (m > 3) = false := by simpa using h3
 clear fin0
 obtain ⟨kn, ki, k0⟩ := unit_lens hU
 have hA : agsF u m = allF u m u.regs.length := if_pos ⟨hU, by omega, by omega⟩
 rw [hA]
 repeat' first | refine vb rfl rfl rfl rfl ?_ | refine vs T rfl fun K hK => ?_; (try simp (disch := omega) only [go_sem, Nat.reduceBEq, Nat.reduceAdd, Nat.reduceLeDiff, e1, e3, iRs_len, Bool.not_true]); (first | refine hK _ _ ?_; clear hK K | refine Op1.callp rfl rfl (cu) rfl ?_; refine hK _ _ ?_; clear hK K) | refine st rfl ?_ | refine sc rfl ?_ | refine nl ?_ | refine gs rfl rfl ?_
 refine VC.loop {p : Nat × Option (Nat × Nat) // p.1 ≤ u.regs.length} (fun p => ⟨lookD [(1, iD m), (2, .pt (unC u)), (5, .gs p.1.2 p.1.1), (22, iD (u.regs.length : Nat)), (23, iD (p.1.1 : Nat))], shp p.1.2 136 1 ((thsF p.1.1).map agD) []⟩) (fun p => u.regs.length - p.1.1) ⟨(0, none), by dsimp only; omega⟩ ?_ ?_
 ·refine Weak.sub ?_
  simp [sub, upd]
 rintro ⟨⟨k, g⟩, hk⟩
 dsimp only at hk ⊢
 rcases Nat.lt_or_ge k u.regs.length with hlt | hge
 case inl =>
  have hd : decide ((k : Int) < (u.regs.length : Int)) = true := by simp; omega
  have hw : IntKind.i64.wrap ((k : Int) + 1) = ((k + 1 : Nat) : Int) := by rw [w64 (by omega)]; omega
  repeat' first | refine vs T rfl fun K hK => ?_; (try simp (disch := omega) only [go_sem, Nat.reduceBEq, Nat.reduceMul, Nat.reduceLeDiff, hd, hw]); (first | refine ⟨nI186, hK _ _ ?_⟩; clear hK K | refine hK _ _ ?_; clear hK K | refine ⟨_, _, _, _, (by repeat (exact Sp.here)), ?_, (by exact ⟨rfl, rfl⟩), ⟨by decide, ?_⟩, fun g' hg' => hK _ _ ?_⟩ <;> clear hK K) | refine st rfl ?_ | refine sc rfl ?_ | refine nl ?_
  ·simp [thsF_len]
  ·omega
  ·refine ⟨⟨(k + 1, g'), by dsimp only; omega⟩, Weak_subEq ?_ ?_, by dsimp only; omega⟩
   ·dsimp only
    rw [thsF_succ, List.map_append]
    rfl
   ·simp [sub, upd]
 obtain rfl : k = u.regs.length := by omega
 have hd : decide ((u.regs.length : Int) < (u.regs.length : Int)) = false := by simp
 repeat' first | refine vs T rfl fun K hK => ?_; (try simp (disch := omega) only [go_sem, Nat.reduceBEq, hd, iRs_len]); (refine hK _ _ ?_; clear hK K) | refine st rfl ?_ | refine sc rfl ?_ | refine nl ?_
 refine VC.loop {p : Nat × List Ag × Option (Nat × Nat) // p.1 ≤ u.regs.length ∧ p.2.1 = allF u m p.1 ∧ p.2.1.length ≤ 10 + 10 * p.1} (fun p => ⟨lookD [(1, iD m), (2, .pt (unC u)), (5, .gs p.1.2.2 p.1.2.1.length), (34, iD (u.regs.length : Nat)), (35, iD (p.1.1 : Nat))], shp p.1.2.2 136 1 (p.1.2.1.map agD) []⟩) (fun p => u.regs.length - p.1.1) ⟨(0, thsF u.regs.length, g), by dsimp only; omega, by dsimp only; simp [allF], by dsimp only; rw [thsF_len]; omega⟩ ?_ ?_
 ·refine Weak.sub ?_
  simp [sub, upd, thsF_len]
 rintro ⟨⟨t, L, g⟩, ht, hL, hB⟩
 dsimp only at ht hL hB ⊢
 rcases Nat.lt_or_ge t u.regs.length with hlt | hge
 case inr =>
  obtain rfl : t = u.regs.length := by omega
  have hd : decide ((u.regs.length : Int) < (u.regs.length : Int)) = false := by simp
  repeat' first | refine vs T rfl fun K hK => ?_; (try simp (disch := omega) only [go_sem, Nat.reduceBEq, hd]); (refine hK _ _ ?_; clear hK K) | refine st rfl ?_ | refine sc rfl ?_ | refine nl ?_
  exact ret1 T (List.Sublist.refl _) ⟨g, 136, by rw [← hL, agsR_len]; rfl, by rw [← hL, agsR_flat]⟩
 have hd : decide ((t : Int) < (u.regs.length : Int)) = true := by simp; omega
 have hw : IntKind.i64.wrap ((t : Int) + 1) = ((t + 1 : Nat) : Int) := by rw [w64 (by omega)]; omega
 by_cases m2 : m = 2
 ·have f2 : (m == 2) = true := by simpa using m2
  repeat' first | refine vs T rfl fun K hK => ?_; (try simp (disch := omega) only [go_sem, Nat.reduceBEq, Nat.reduceAdd, Nat.reduceMul, Nat.reduceLeDiff, hd, hw, f2]); (first | refine ⟨nI188, hK _ _ ?_⟩; clear hK K | refine hK _ _ ?_; clear hK K | refine ⟨_, _, _, _, (by repeat (exact Sp.here)), ?_, (by exact ⟨rfl, rfl⟩), ⟨by decide, ?_⟩, fun g' hg' => hK _ _ ?_⟩ <;> clear hK K) | refine st rfl ?_ | refine sc rfl ?_ | refine nl ?_
  ·simp
  ·omega
  ·refine ⟨⟨(t + 1, L ++ [.fl t (-1)], g'), by dsimp only; omega, by dsimp only; rw [allF_succ, ← hL]; simp [flsF, m2], by dsimp only; simp; omega⟩, Weak_subEq ?_ ?_, by dsimp only; omega⟩
   ·dsimp only
    rw [List.map_append]
    rfl
   ·simp [sub, upd]
 have f2 : (m == 2) = false := by simpa using m2
 by_cases m3 : m = 3
 case neg =>
  have f3 : (m == 3) = false := by simpa using m3
  repeat' first | refine vs T rfl fun K hK => ?_; (try simp (disch := omega) only [go_sem, Nat.reduceBEq, hd, hw, f2, f3]); (refine hK _ _ ?_; clear hK K) | refine st rfl ?_ | refine sc rfl ?_ | refine nl ?_
  refine ⟨⟨(t + 1, L, g), by dsimp only; omega, by dsimp only; rw [allF_succ, ← hL]; simp [flsF, m2, m3], by dsimp only; omega⟩, Weak_subEq rfl ?_, by dsimp only; omega⟩
  simp [sub, upd]
 have f3 : (m == 3) = true := by simpa using m3
 repeat' first | refine vs T rfl fun K hK => ?_; (try simp (disch := omega) only [go_sem, Nat.reduceBEq, hd, f2, f3, iRs_len]); (refine hK _ _ ?_; clear hK K) | refine st rfl ?_ | refine sc rfl ?_ | refine nl ?_
 refine VC.loop {p : Nat × List Ag × Option (Nat × Nat) // p.1 ≤ u.init.length ∧ p.2.1 = allF u m t ++ (List.range p.1).map (fun (l : Nat) => .fl t (l : Int)) ∧ p.2.1.length ≤ 10 + 10 * t + p.1} (fun p => ⟨lookD [(1, iD m), (2, .pt (unC u)), (5, .gs p.1.2.2 p.1.2.1.length), (7, iD (t : Nat)), (34, iD (u.regs.length : Nat)), (35, iD (t : Nat)), (51, iD (u.init.length : Nat)), (52, iD (p.1.1 : Nat))], shp p.1.2.2 136 1 (p.1.2.1.map agD) []⟩) (fun p => u.init.length - p.1.1) ⟨(0, L, g), by dsimp only; omega, by dsimp only; simp [hL], by dsimp only; omega⟩ ?_ ?_
 ·refine Weak.sub ?_
  simp [sub, upd]
 rintro ⟨⟨l, L2, g2⟩, hl, hL2, hB2⟩
 dsimp only at hl hL2 hB2 ⊢
 rcases Nat.lt_or_ge l u.init.length with hlt2 | hge2
 case inl =>
  have hd2 : decide ((l : Int) < (u.init.length : Int)) = true := by simp; omega
  have hw2 : IntKind.i64.wrap ((l : Int) + 1) = ((l + 1 : Nat) : Int) := by rw [w64 (by omega)]; omega
  repeat' first | refine vs T rfl fun K hK => ?_; (try simp (disch := omega) only [go_sem, Nat.reduceBEq, Nat.reduceAdd, Nat.reduceMul, Nat.reduceLeDiff, hd2, hw2]); (first | refine ⟨nI188, hK _ _ ?_⟩; clear hK K | refine hK _ _ ?_; clear hK K | refine ⟨_, _, _, _, (by repeat (exact Sp.here)), ?_, (by exact ⟨rfl, rfl⟩), ⟨by decide, ?_⟩, fun g' hg' => hK _ _ ?_⟩ <;> clear hK K) | refine st rfl ?_ | refine sc rfl ?_ | refine nl ?_
  ·simp
  ·omega
  ·refine ⟨⟨(l + 1, L2 ++ [.fl t (l : Int)], g'), by dsimp only; omega, by dsimp only; rw [hL2, List.range_succ, List.map_append, List.append_assoc]; rfl, by dsimp only; simp; omega⟩, Weak_subEq ?_ ?_, by dsimp only; omega⟩
   ·dsimp only
    rw [List.map_append]
    rfl
   ·simp [sub, upd]
 obtain rfl : l = u.init.length := by omega
 have hd2 : decide ((u.init.length : Int) < (u.init.length : Int)) = false := by simp
 repeat' first | refine vs T rfl fun K hK => ?_; (try simp (disch := omega) only [go_sem, Nat.reduceBEq, hd2, hw]); (refine hK _ _ ?_; clear hK K) | refine st rfl ?_ | refine sc rfl ?_ | refine nl ?_
 refine ⟨⟨(t + 1, L2, g2), by dsimp only; omega, by dsimp only; rw [allF_succ, hL2]; simp [flsF, m2, m3], by dsimp only; omega⟩, Weak_subEq rfl ?_, by dsimp only; omega⟩
 simp [sub, upd]
theorem mA1 : methI Tryz.prog 186 "spinnaker/machine.act" = some 207 := by kernel_rfl
theorem mN1 : methI Tryz.prog 186 "spinnaker/machine.name" = some 209 := by kernel_rfl
theorem mA2 : methI Tryz.prog 188 "spinnaker/machine.act" = some 236 := by kernel_rfl
theorem mN2 : methI Tryz.prog 188 "spinnaker/machine.name" = some 238 := by kernel_rfl
def InvA (a : Ag) (name : String) (args : List D) (d0 : D) : Prop := ∃ t dv f, agD a = .ifc t dv ∧ methI Tryz.prog t name = some f ∧ Pure Tryz.prog f (dv :: args) d0
theorem Op1.inva {o : Oper} {E : Operand → D} {x : Operand} {name : String} {xs : Array Operand} {tys : Array TypeId} {a : Ag} {args : List D} {d0 : D} {H : Heap} {K : D → Heap → Prop}
  (ho : o.op = .call ⟨.invoke x name, xs, tys⟩) (hE : E x = agD a) (hm : InvA a name args d0) (ha : xs.toList.map E = args) (hk : K d0 H) : Op1 Tryz.prog o E H K := by
 obtain ⟨t, dv, f, h1, h2, h3⟩ := hm
 exact Op1.invokep ho (hE.trans h1) h2 h3 (by rw [ha]) hk
theorem agD_one (a : Ag) : oneD (agD a) = true := by cases a <;> rfl
abbrev woC (u : Un) (c : Cf) (m r : Int) : List D :=
 [iD u.md, ints u.init, ints u.regs, .sl false 1 (codeRs u.code), ints c.pc, .sl false 1 (rowsI c.regs), ints c.mem, .sl false 1 (bufsR c.bufs), iD m, iD r]
def canA (u : Un) (c : Cf) (m r : Int) : Ag → Bool
 | .th t => enT u c m r (t : Nat)
 | .fl t l => flushB c m (t : Nat) l
def actA (u : Un) (c : Cf) (m r : Int) : Ag → Cf
 | .th t => actT u c m r (t : Nat)
 | .fl t l => flushC c m (t : Nat) l
abbrev bT : ByteArray := ⟨#[116]⟩
abbrev bF : ByteArray := ⟨#[102]⟩
abbrev bP : ByteArray := ⟨#[46]⟩
def nameA : Ag → ByteArray
 | .th t => bT ++ dec6 (t : Nat)
 | .fl t l => match decide (l ≥ 0) with | true => (bF ++ dec6 (t : Nat)) ++ (bP ++ dec6 l) | false => bF ++ dec6 (t : Nat)
section
variable {u : Un} {c : Cf} {m r : Int}
theorem actI_ok (h : Rt u c m r) (a : Ag) : InvA a "spinnaker/machine.act" [.agg (woC u c m r)] (.tup [.agg (cfC (actA u c m r a)), bD (canA u c m r a)]) := by
 cases a with
 | th t =>
  refine ⟨_, _, _, rfl, mA1, ?_⟩
  have c1 := actT_ok h (t : Nat)
  refine Fun.of T [.cell 4 43, .tmp 5] Tryz.func207 rfl Tryz.ntmps207 Tryz.results207 rfl (by kernel_rfl) ?_
  repeat' first | refine vb rfl rfl rfl rfl ?_ | refine vs T rfl fun K hK => ?_; (try simp (disch := omega) only [go_sem, Nat.reduceBEq, Nat.reduceAdd, Nat.reduceLeDiff]); (first | refine hK _ _ ?_; clear hK K | intro bq hbq; (try simp only [HB] at hbq); refine hK _ _ ?_; clear hK K | refine Op1.callp rfl rfl (c1) rfl ?_; refine hK _ _ ?_; clear hK K) | refine st rfl ?_ | refine nl ?_ | exact retc1 T rfl (by (simp (disch := omega) only [hget_eq]) <;> rfl) rfl rfl rfl (List.nil_sublist _) ⟨rfl, rfl⟩
 | fl t l =>
  refine ⟨_, _, _, rfl, mA2, ?_⟩
  have c1 := flush_ok c h.okC h.locs m (t : Nat) l
  refine Fun.of T [.cell 4 43, .tmp 5] Tryz.func236 rfl Tryz.ntmps236 Tryz.results236 rfl (by kernel_rfl) ?_
  repeat' first | refine vb rfl rfl rfl rfl ?_ | refine vs T rfl fun K hK => ?_; (try simp (disch := omega) only [go_sem, Nat.reduceBEq, Nat.reduceAdd, Nat.reduceLeDiff]); (first | refine hK _ _ ?_; clear hK K | intro bq hbq; (try simp only [HB] at hbq); refine hK _ _ ?_; clear hK K | refine Op1.callp rfl rfl (c1) rfl ?_; refine hK _ _ ?_; clear hK K) | refine st rfl ?_ | refine nl ?_ | exact retc1 T rfl (by (simp (disch := omega) only [hget_eq]) <;> rfl) rfl rfl rfl (List.nil_sublist _) ⟨rfl, rfl⟩
def AgOk : Ag → Prop
 | .th t => t < 1000
 | .fl t l => t < 1000 ∧ l < 1000
theorem name_ok (a : Ag) (h : AgOk a) : InvA a "spinnaker/machine.name" [] (sD (nameA a)) := by
 cases a with
 | th t =>
  refine ⟨_, _, _, rfl, mN1, ?_⟩
  have h : t < 1000 := h
  have c1 := decimal6_ok (t : Nat) (by omega)
  have hs := dec6_size (t : Nat)
  refine Fun.of T [.tmp 2] Tryz.func209 rfl Tryz.ntmps209 Tryz.results209 rfl (by kernel_rfl) ?_
  have z1 : (⟨#[116]⟩ : ByteArray).size = 1 := rfl
  have y1 : (#[116] : Array UInt8).size = 1 := rfl
  repeat' first
   | (refine vs T rfl fun K hK => ?_; (try simp (disch := omega) only [go_sem, Nat.reduceBEq, Nat.reduceAdd, Nat.reduceMul, Nat.reduceSub, Nat.reduceLeDiff, Int.reduceToNat]); (first | (refine hK _ _ ?_; clear hK K) | (refine ⟨?_, hK _ _ ?_⟩ <;> clear hK K; focus (try (first | omega | exact ⟨rfl, by decide⟩ | exact rfl))) | (refine ⟨_, ?_, hK _ _ ?_⟩ <;> clear hK K) | (refine Op1.callp rfl rfl (c1) rfl ?_; refine hK _ _ ?_; clear hK K) | skip))
   | (refine st rfl ?_)
   | (refine sc rfl ?_)
   | (refine nl ?_)
   | (refine ov ?_)
   | (exact ret1 T (List.nil_sublist _) rfl)
   | (exact ret1 T (List.nil_sublist _) ⟨rfl, rfl⟩)
   | (refine ret1 T (List.nil_sublist _) ?_; (try simp only [upd, Nat.reduceBEq, cond_true, cond_false, and_true]))
   | (with_reducible refine gt ?_ ?_; focus (simp (disch := omega) only [go_sem, Nat.reduceBEq, Nat.reduceAdd, Nat.reduceMul, Nat.reduceSub, Nat.reduceLeDiff, Int.reduceToNat]; done))
   | (with_reducible refine gf ?_ ?_; focus (simp (disch := omega) only [go_sem, Nat.reduceBEq, Nat.reduceAdd, Nat.reduceMul, Nat.reduceSub, Nat.reduceLeDiff, Int.reduceToNat]; done))
   | (with_reducible refine gsplit_intro (fun hc => ?_) (fun hc => ?_))
  all_goals first | omega | rfl
 | fl t l =>
  refine ⟨_, _, _, rfl, mN2, ?_⟩
  have h : t < 1000 ∧ l < 1000 := h
  have c1 := decimal6_ok (t : Nat) (by omega)
  have hs := dec6_size (t : Nat)
  have hs2 := dec6_size l
  have z1 : (⟨#[102]⟩ : ByteArray).size = 1 := rfl
  have z2 : (⟨#[46]⟩ : ByteArray).size = 1 := rfl
  have y1 : (#[102] : Array UInt8).size = 1 := rfl
  have y2 : (#[46] : Array UInt8).size = 1 := rfl
  refine Fun.of T [.tmp 2] Tryz.func238 rfl Tryz.ntmps238 Tryz.results238 rfl (by kernel_rfl) ?_
  by_cases hl : l ≥ 0
  ·have e1 : decide (l ≥ 0) = true := by simpa using hl
   have c2 := decimal6_ok l (by omega)
   repeat' first
    | (refine vb rfl rfl rfl rfl ?_)
    | (refine vs T rfl fun K hK => ?_; (try simp (disch := omega) only [go_sem, Nat.reduceBEq, Nat.reduceAdd, Nat.reduceMul, Nat.reduceSub, Nat.reduceLeDiff, Int.reduceToNat, e1]); (first | (refine hK _ _ ?_; clear hK K) | (intro bq hbq; (try simp only [HB] at hbq); refine hK _ _ ?_; clear hK K) | (refine ⟨?_, hK _ _ ?_⟩ <;> clear hK K; focus (try (first | omega | exact ⟨rfl, by decide⟩ | exact rfl))) | (refine ⟨_, ?_, hK _ _ ?_⟩ <;> clear hK K) | (refine Op1.callp rfl rfl (c1) rfl ?_; refine hK _ _ ?_; clear hK K) | (refine Op1.callp rfl rfl (c2) rfl ?_; refine hK _ _ ?_; clear hK K) | skip))
    | (refine st rfl ?_)
    | (refine sc rfl ?_)
    | (refine nl ?_)
    | (refine ov ?_)
    | (exact ret1 T (List.nil_sublist _) rfl)
    | (exact ret1 T (List.nil_sublist _) ⟨rfl, rfl⟩)
    | (refine ret1 T (List.nil_sublist _) ?_; (try simp only [upd, Nat.reduceBEq, cond_true, cond_false, and_true, e1]))
    | (with_reducible refine gt ?_ ?_; focus (simp (disch := omega) only [go_sem, Nat.reduceBEq, Nat.reduceAdd, Nat.reduceMul, Nat.reduceSub, Nat.reduceLeDiff, Int.reduceToNat, e1]; done))
    | (with_reducible refine gf ?_ ?_; focus (simp (disch := omega) only [go_sem, Nat.reduceBEq, Nat.reduceAdd, Nat.reduceMul, Nat.reduceSub, Nat.reduceLeDiff, Int.reduceToNat, e1]; done))
    | (with_reducible refine gsplit_intro (fun hc => ?_) (fun hc => ?_))
   all_goals first | omega | (rw [ByteArray.size_append, ByteArray.size_append]; omega) | (simp only [nameA, e1]; done) | (simp only [nameA, e1]; rfl)
  ·have e1 : decide (l ≥ 0) = false := by simpa using hl
   repeat' first
    | (refine vb rfl rfl rfl rfl ?_)
    | (refine vs T rfl fun K hK => ?_; (try simp (disch := omega) only [go_sem, Nat.reduceBEq, Nat.reduceAdd, Nat.reduceMul, Nat.reduceSub, Nat.reduceLeDiff, Int.reduceToNat, e1]); (first | (refine hK _ _ ?_; clear hK K) | (intro bq hbq; (try simp only [HB] at hbq); refine hK _ _ ?_; clear hK K) | (refine ⟨?_, hK _ _ ?_⟩ <;> clear hK K; focus (try (first | omega | exact ⟨rfl, by decide⟩ | exact rfl))) | (refine ⟨_, ?_, hK _ _ ?_⟩ <;> clear hK K) | (refine Op1.callp rfl rfl (c1) rfl ?_; refine hK _ _ ?_; clear hK K) | skip))
    | (refine st rfl ?_)
    | (refine sc rfl ?_)
    | (refine nl ?_)
    | (refine ov ?_)
    | (exact ret1 T (List.nil_sublist _) rfl)
    | (exact ret1 T (List.nil_sublist _) ⟨rfl, rfl⟩)
    | (refine ret1 T (List.nil_sublist _) ?_; (try simp only [upd, Nat.reduceBEq, cond_true, cond_false, and_true, e1]))
    | (with_reducible refine gt ?_ ?_; focus (simp (disch := omega) only [go_sem, Nat.reduceBEq, Nat.reduceAdd, Nat.reduceMul, Nat.reduceSub, Nat.reduceLeDiff, Int.reduceToNat, e1]; done))
    | (with_reducible refine gf ?_ ?_; focus (simp (disch := omega) only [go_sem, Nat.reduceBEq, Nat.reduceAdd, Nat.reduceMul, Nat.reduceSub, Nat.reduceLeDiff, Int.reduceToNat, e1]; done))
    | (with_reducible refine gsplit_intro (fun hc => ?_) (fun hc => ?_))
   all_goals first | omega | (simp only [nameA, e1]; done) | (simp only [nameA, e1]; rfl)
end
theorem flsF_len {u : Un} (hi : u.init.length ≤ 6) (m : Int) (t : Nat) : (flsF u m t).length ≤ 6 := by
 unfold flsF
 split
 ·simp
 split
 ·simpa using hi
 ·simp
theorem allF_len {u : Un} (hi : u.init.length ≤ 6) (m : Int) (k : Nat) : (allF u m k).length ≤ u.regs.length + 6 * k := by
 induction k with
 | zero => simp [allF, thsF_len]
 | succ k ih => rw [allF_succ, List.length_append]; have := flsF_len hi m k; omega
theorem agsF_len (u : Un) (m : Int) : (agsF u m).length ≤ 28 := by
 unfold agsF
 split
 ·rename_i h
  have := unit_lens h.1
  have := allF_len this.2.1 m u.regs.length
  omega
 ·simp
theorem agsF_ok {u : Un} {m : Int} {a : Ag} (h : a ∈ agsF u m) : AgOk a := by
 unfold agsF at h
 split at h
 ·rename_i hu
  have hl := unit_lens hu.1
  simp only [allF, thsF, List.mem_append, List.mem_map, List.mem_flatMap, List.mem_range] at h
  rcases h with ⟨t, ht, rfl⟩ | ⟨t, ht, h⟩
  ·show t < 1000; omega
  ·unfold flsF at h
   split at h
   ·simp at h; subst h; exact ⟨by omega, by omega⟩
   split at h
   ·obtain ⟨l, hl2, rfl⟩ := List.mem_map.1 h
    have := List.mem_range.1 hl2
    exact ⟨by omega, by omega⟩
   ·cases h
 ·cases h
def oneF (u : Un) (m a : Int) : Option Ag := match decide (0 ≤ a) with | true => (agsF u m)[a.toNat]? | false => none
def agO : Option Ag → D
 | some a => agD a
 | none => .is .nilIface
theorem oneF_ok {u : Un} {m a : Int} {ag : Ag} (h : oneF u m a = some ag) : AgOk ag := by
 unfold oneF at h
 split at h
 ·exact agsF_ok (List.mem_of_getElem? h)
 ·cases h
theorem one_ok (u : Un) (hu : OkU u) (m a : Int) : Pure Tryz.prog 113 [.agg (unC u), iD m, iD a] (.tup [agO (oneF u m a), bD (oneF u m a).isSome]) := by
 have ca := agents_ok u hu m
 have hl := agsF_len u m
 refine Fun.of T [.tmp 6, .tmp 7] Tryz.func113 rfl Tryz.ntmps113 Tryz.results113 rfl (by kernel_rfl) ?_
 by_cases h1 : a < 0
 ·have e1 : decide (a < 0) = true := by simpa using h1
  rw [show oneF u m a = none by simp [oneF, Int.not_le.2 h1]]
  repeat' first | refine vb rfl rfl rfl rfl ?_ | refine vs T rfl fun K hK => ?_; (try simp (disch := omega) only [go_sem, Nat.reduceBEq, Nat.reduceAdd, Nat.reduceLeDiff, e1]); (first | refine hK _ _ ?_; clear hK K | refine Op1.callp rfl rfl (ca) rfl ?_; refine hK _ _ ?_; clear hK K) | refine st rfl ?_ | refine sc rfl ?_ | refine nl ?_ | refine gs rfl rfl ?_ | exact ret2 T (List.nil_sublist _) ⟨rfl, rfl⟩
  all_goals rfl
 have e1 : decide (a < 0) = false := by simpa using h1
 obtain ⟨i, rfl⟩ : ∃ i : Nat, a = (i : Int) := ⟨a.toNat, by omega⟩
 have hO : oneF u m (i : Nat) = (agsF u m)[i]? := by simp [oneF]
 generalize agsF u m = A at *
 by_cases h2 : (i : Int) ≥ (A.length : Int)
 ·have e2 : decide ((i : Int) ≥ (A.length : Int)) = true := by simpa using h2
  rw [hO, List.getElem?_eq_none (show A.length ≤ i by omega)]
  repeat' first | refine vb rfl rfl rfl rfl ?_ | refine vs T rfl fun K hK => ?_; (try simp (disch := omega) only [go_sem, Nat.reduceBEq, Nat.reduceAdd, Nat.reduceLeDiff, e1, e2, agsR_len]); (first | refine hK _ _ ?_; clear hK K | refine Op1.callp rfl rfl (ca) rfl ?_; refine hK _ _ ?_; clear hK K) | refine st rfl ?_ | refine sc rfl ?_ | refine nl ?_ | refine gs rfl rfl ?_ | exact ret2 T (List.nil_sublist _) ⟨rfl, rfl⟩
  all_goals rfl
 have e2 : decide ((i : Int) ≥ (A.length : Int)) = false := by simpa using h2
 obtain ⟨ag, ha⟩ : ∃ x, A[i]? = some x := ⟨_, List.getElem?_eq_getElem (by omega)⟩
 have ra : (agsR A)[i]? = some [agD ag] := by rw [agsR_at, ha]; rfl
 have l1 : i < A.length := by omega
 have o1 := agD_one ag
 rw [hO, ha]
 repeat' first | refine vb rfl rfl rfl rfl ?_ | refine vs T rfl fun K hK => ?_; (try simp (disch := omega) only [go_sem, Nat.reduceBEq, Nat.reduceAdd, Nat.reduceLeDiff, e1, e2, ra, agsR_len]); (first | refine hK _ _ ?_; clear hK K | refine ⟨?_, hK _ _ ?_⟩ <;> clear hK K; focus (try omega) | refine Op1.callp rfl rfl (ca) rfl ?_; refine hK _ _ ?_; clear hK K) | refine st rfl ?_ | refine sc rfl ?_ | refine nl ?_ | refine gs rfl rfl ?_ | exact ret2 T (List.nil_sublist _) ⟨rfl, rfl⟩
 all_goals rfl
def enM (u : Un) (c : Cf) (m r a : Int) : Bool := match oneF u m a with | some ag => canA u c m r ag | none => false
def actM (u : Un) (c : Cf) (m r a : Int) : Cf := match oneF u m a with | some ag => actA u c m r ag | none => c
def nameM (u : Un) (m a : Int) : ByteArray := match oneF u m a with | some ag => nameA ag | none => ⟨#[]⟩
theorem nameM_ok (u : Un) (hu : OkU u) (m a : Int) : Pure Tryz.prog 73 [.agg (unC u), iD m, iD a] (sD (nameM u m a)) := by
 have c1 := one_ok u hu m a
 refine Fun.of T [.tmp 6] Tryz.func73 rfl Tryz.ntmps73 Tryz.results73 rfl (by kernel_rfl) ?_
 cases hO : oneF u m a with
 | none =>
  have c1' : Pure Tryz.prog 113 [.agg (unC u), iD m, iD a] (.tup [.is .nilIface, bD false]) := by rw [hO] at c1; exact c1
  rw [show nameM u m a = ⟨#[]⟩ by simp [nameM, hO]]
  repeat' first
   | (refine vb rfl rfl rfl rfl ?_)
   | (refine vs T rfl fun K hK => ?_; (try simp (disch := omega) only [go_sem, Nat.reduceBEq, Nat.reduceAdd, Nat.reduceMul, Nat.reduceSub, Nat.reduceLeDiff, Int.reduceToNat, Bool.not_true, Bool.not_false]); (first | (refine hK _ _ ?_; clear hK K) | (intro bq hbq; (try simp only [HB] at hbq); refine hK _ _ ?_; clear hK K) | (refine ⟨?_, hK _ _ ?_⟩ <;> clear hK K; focus (try (first | omega | exact ⟨rfl, by decide⟩ | exact rfl))) | (refine ⟨_, ?_, hK _ _ ?_⟩ <;> clear hK K) | (refine Op1.callp rfl rfl (c1') rfl ?_; refine hK _ _ ?_; clear hK K) | skip))
   | (refine st rfl ?_)
   | (refine sc rfl ?_)
   | (refine nl ?_)
   | (refine ov ?_)
   | (exact ret1 T (List.nil_sublist _) rfl)
   | (exact ret1 T (List.nil_sublist _) ⟨rfl, rfl⟩)
   | (refine ret1 T (List.nil_sublist _) ?_; (try simp only [upd, Nat.reduceBEq, cond_true, cond_false, and_true, Bool.not_true, Bool.not_false]))
   | (with_reducible refine gt ?_ ?_; focus (simp (disch := omega) only [go_sem, Nat.reduceBEq, Nat.reduceAdd, Nat.reduceMul, Nat.reduceSub, Nat.reduceLeDiff, Int.reduceToNat, Bool.not_true, Bool.not_false]; done))
   | (with_reducible refine gf ?_ ?_; focus (simp (disch := omega) only [go_sem, Nat.reduceBEq, Nat.reduceAdd, Nat.reduceMul, Nat.reduceSub, Nat.reduceLeDiff, Int.reduceToNat, Bool.not_true, Bool.not_false]; done))
   | (with_reducible refine gsplit_intro (fun hc => ?_) (fun hc => ?_))
 | some ag =>
  have c1' : Pure Tryz.prog 113 [.agg (unC u), iD m, iD a] (.tup [agD ag, bD true]) := by rw [hO] at c1; exact c1
  have cn := name_ok ag (oneF_ok hO)
  rw [show nameM u m a = nameA ag by simp [nameM, hO]]
  repeat' first
   | (refine vb rfl rfl rfl rfl ?_)
   | (refine vs T rfl fun K hK => ?_; (try simp (disch := omega) only [go_sem, Nat.reduceBEq, Nat.reduceAdd, Nat.reduceMul, Nat.reduceSub, Nat.reduceLeDiff, Int.reduceToNat, Bool.not_true, Bool.not_false]); (first | (refine hK _ _ ?_; clear hK K) | (intro bq hbq; (try simp only [HB] at hbq); refine hK _ _ ?_; clear hK K) | (refine ⟨?_, hK _ _ ?_⟩ <;> clear hK K; focus (try (first | omega | exact ⟨rfl, by decide⟩ | exact rfl))) | (refine ⟨_, ?_, hK _ _ ?_⟩ <;> clear hK K) | (refine Op1.callp rfl rfl (c1') rfl ?_; refine hK _ _ ?_; clear hK K) | (refine Op1.inva rfl rfl (cn) rfl ?_; refine hK _ _ ?_; clear hK K) | skip))
   | (refine st rfl ?_)
   | (refine sc rfl ?_)
   | (refine nl ?_)
   | (refine ov ?_)
   | (exact ret1 T (List.nil_sublist _) rfl)
   | (exact ret1 T (List.nil_sublist _) ⟨rfl, rfl⟩)
   | (refine ret1 T (List.nil_sublist _) ?_; (try simp only [upd, Nat.reduceBEq, cond_true, cond_false, and_true, Bool.not_true, Bool.not_false]))
   | (with_reducible refine gt ?_ ?_; focus (simp (disch := omega) only [go_sem, Nat.reduceBEq, Nat.reduceAdd, Nat.reduceMul, Nat.reduceSub, Nat.reduceLeDiff, Int.reduceToNat, Bool.not_true, Bool.not_false]; done))
   | (with_reducible refine gf ?_ ?_; focus (simp (disch := omega) only [go_sem, Nat.reduceBEq, Nat.reduceAdd, Nat.reduceMul, Nat.reduceSub, Nat.reduceLeDiff, Int.reduceToNat, Bool.not_true, Bool.not_false]; done))
   | (with_reducible refine gsplit_intro (fun hc => ?_) (fun hc => ?_))
section
variable {u : Un} {c : Cf} {m r : Int}
theorem copyF_ok (c : Cf) (hc : OkC c) : Pure Tryz.prog 114 [.agg (cfC c)] (.agg (cfC c)) :=
 Fun.fz ((copy_ok c hc).mono fun d H' ⟨q, h1, h2, h3⟩ => by
  rw [h2, h3]
  exact ⟨_, rfl, OC.fzL (X := []) h1 fun y hy => hy⟩)
theorem actM_ok (h : Rt u c m r) (a : Int) : Pure Tryz.prog 64 [.agg (unC u), .agg (cfC c), iD m, iD r, iD a] (.tup [.agg (cfC (actM u c m r a)), bD (enM u c m r a)]) := by
 have c1 := one_ok u h.okU m a
 refine Fun.of T [.cell 10 43, .tmp 11] Tryz.func64 rfl Tryz.ntmps64 Tryz.results64 rfl (by kernel_rfl) ?_
 cases hO : oneF u m a with
 | none =>
  have c1' : Pure Tryz.prog 113 [.agg (unC u), iD m, iD a] (.tup [.is .nilIface, bD false]) := by rw [hO] at c1; exact c1
  have c2 := copyF_ok c h.okC
  rw [show enM u c m r a = false by simp [enM, hO], show actM u c m r a = c by simp [actM, hO]]
  repeat' first | refine vb rfl rfl rfl rfl ?_ | refine vs T rfl fun K hK => ?_; (try simp (disch := omega) only [go_sem, Nat.reduceBEq, Nat.reduceAdd, Nat.reduceLeDiff]); (first | refine hK _ _ ?_; clear hK K | intro bq hbq; (try simp only [HB] at hbq); refine hK _ _ ?_; clear hK K | refine Op1.callp rfl rfl (c1') rfl ?_; refine hK _ _ ?_; clear hK K | refine Op1.callp rfl rfl (c2) rfl ?_; refine hK _ _ ?_; clear hK K) | refine st rfl ?_ | refine sc rfl ?_ | refine nl ?_ | exact retc1 T rfl (by (simp (disch := omega) only [hget_eq]) <;> rfl) rfl rfl rfl (List.nil_sublist _) ⟨rfl, rfl⟩
 | some ag =>
  have c1' : Pure Tryz.prog 113 [.agg (unC u), iD m, iD a] (.tup [agD ag, bD true]) := by rw [hO] at c1; exact c1
  have cn := actI_ok h ag
  rw [show enM u c m r a = canA u c m r ag by simp [enM, hO], show actM u c m r a = actA u c m r ag by simp [actM, hO]]
  repeat' first | refine vb rfl rfl rfl rfl ?_ | refine vs T rfl fun K hK => ?_; (try simp (disch := omega) only [go_sem, Nat.reduceBEq, Nat.reduceAdd, Nat.reduceLeDiff]); (first | refine hK _ _ ?_; clear hK K | intro bq hbq; (try simp only [HB] at hbq); refine hK _ _ ?_; clear hK K | refine Op1.callp rfl rfl (c1') rfl ?_; refine hK _ _ ?_; clear hK K | refine Op1.inva rfl rfl (cn) rfl ?_; refine hK _ _ ?_; clear hK K) | refine st rfl ?_ | refine sc rfl ?_ | refine nl ?_ | exact retc1 T rfl (by (simp (disch := omega) only [hget_eq]) <;> rfl) rfl rfl rfl (List.nil_sublist _) ⟨rfl, rfl⟩
end
end Go.Proofs.YtomcmfbpmkklmaaGreat
