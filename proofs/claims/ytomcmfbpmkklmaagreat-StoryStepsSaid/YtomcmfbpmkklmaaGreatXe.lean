/- Units and configurations; what a thread reads. No condition. -/
import Derived.Test.YtomcmfbpmkklmaaGreatXc
namespace Go.Proofs.YtomcmfbpmkklmaaGreat
set_option maxHeartbeats 16000000
set_option linter.unusedSimpArgs false
set_option linter.unusedVariables false
set_option maxRecDepth 20000
open Go Go.Proofs Go.Vc
attribute [local irreducible] retQ VCg VCw VCx
abbrev Opc := Int × Int × Int
def opR (x : Opc) : List D := [iD x.1, iD x.2.1, iD x.2.2]
def opRs (l : List Opc) : List (List D) := l.map opR
abbrev opsD (l : List Opc) : D := .sl false 3 (opRs l)
structure Ins where
 op : Int
 reg : Int
 loc : Int
 e : List Opc
 f : List Opc
 ne : Bool
 to : Int
def insR (x : Ins) : List D := [iD x.op, iD x.reg, iD x.loc, opsD x.e, opsD x.f, bD x.ne, iD x.to]
def insRs (l : List Ins) : List (List D) := l.map insR
def codeRs (c : List (List Ins)) : List (List D) := c.map fun l => [.sl false 7 (insRs l)]
structure Un where
 md : Int
 init : List Int
 regs : List Int
 code : List (List Ins)
abbrev unC (u : Un) : List D := [iD u.md, ints u.init, ints u.regs, .sl false 1 (codeRs u.code)]
def rowsI (l : List (List Int)) : List (List D) := l.map fun r => [ints r]
def bufsR (l : List (List En)) : List (List D) := l.map fun b => [buf b]
structure Cf where
 pc : List Int
 regs : List (List Int)
 mem : List Int
 bufs : List (List En)
abbrev cfC (c : Cf) : List D := [ints c.pc, .sl false 1 (rowsI c.regs), ints c.mem, .sl false 1 (bufsR c.bufs)]
theorem opRs_len (l : List Opc) : (opRs l).length = l.length := List.length_map ..
theorem opRs_at (l : List Opc) (i : Nat) : (opRs l)[i]? = (l[i]?).map opR := List.getElem?_map ..
theorem insRs_len (l : List Ins) : (insRs l).length = l.length := List.length_map ..
theorem insRs_at (l : List Ins) (i : Nat) : (insRs l)[i]? = (l[i]?).map insR := List.getElem?_map ..
theorem codeRs_len (l : List (List Ins)) : (codeRs l).length = l.length := List.length_map ..
theorem codeRs_at (l : List (List Ins)) (i : Nat) : (codeRs l)[i]? = (l[i]?).map fun l => [.sl false 7 (insRs l)] := List.getElem?_map ..
theorem rowsI_len (l : List (List Int)) : (rowsI l).length = l.length := List.length_map ..
theorem rowsI_at (l : List (List Int)) (i : Nat) : (rowsI l)[i]? = (l[i]?).map fun r => [ints r] := List.getElem?_map ..
theorem bufsR_len (l : List (List En)) : (bufsR l).length = l.length := List.length_map ..
theorem bufsR_at (l : List (List En)) (i : Nat) : (bufsR l)[i]? = (l[i]?).map fun b => [buf b] := List.getElem?_map ..
def shortB (c : Cf) : Prop := ∀ b, b ∈ c.bufs → b.length ≤ 1000
def readF (c : Cf) (t loc : Int) : Int := match decide (0 ≤ t), c.bufs[t.toNat]?, decide (0 ≤ loc), c.mem[loc.toNat]? with
 | true, some b, true, some n => (lastF loc b).getD n
 | _, _, _, _ => 0
theorem reads_ok (c : Cf) (hc : shortB c) (t loc : Int) : Pure Tryz.prog 225 [.agg (cfC c), iD t, iD loc] (iD (readF c t loc)) := by
 refine Fun.of T [.tmp 6] Tryz.func225 rfl Tryz.ntmps225 Tryz.results225 rfl (by kernel_rfl) ?_
 by_cases h1 : t < 0
 ·have e1 : decide (t < 0) = true := by simpa using h1
  have hr : readF c t loc = 0 := by simp [readF, Int.not_le.2 h1]
  rw [hr]
  repeat' first | refine vb rfl rfl rfl rfl ?_ | refine vs T rfl fun K hK => ?_; (try simp (disch := omega) only [go_sem, Nat.reduceBEq, Nat.reduceAdd, e1]); (refine hK _ _ ?_; clear hK K) | refine st rfl ?_ | refine sc rfl ?_ | refine nl ?_ | refine gs rfl rfl ?_ | exact ret1 T (List.nil_sublist _) ⟨rfl, rfl⟩
 have e1 : decide (t < 0) = false := by simpa using h1
 obtain ⟨i, rfl⟩ : ∃ i : Nat, t = (i : Int) := ⟨t.toNat, by omega⟩
 by_cases h2 : (i : Int) ≥ (c.bufs.length : Int)
 ·have e2 : decide ((i : Int) ≥ (c.bufs.length : Int)) = true := by simpa using h2
  have hn : c.bufs[i]? = none := List.getElem?_eq_none (by omega)
  have hr : readF c i loc = 0 := by simp [readF, hn]
  rw [hr]
  repeat' first | refine vb rfl rfl rfl rfl ?_ | refine vs T rfl fun K hK => ?_; (try simp (disch := omega) only [go_sem, Nat.reduceBEq, Nat.reduceAdd, e1, e2, bufsR_len]); (refine hK _ _ ?_; clear hK K) | refine st rfl ?_ | refine sc rfl ?_ | refine nl ?_ | refine gs rfl rfl ?_ | exact ret1 T (List.nil_sublist _) ⟨rfl, rfl⟩
 have e2 : decide ((i : Int) ≥ (c.bufs.length : Int)) = false := by simpa using h2
 by_cases h3 : loc < 0
 ·have e3 : decide (loc < 0) = true := by simpa using h3
  have hr : readF c i loc = 0 := by
   unfold readF
   rw [decide_eq_false (Int.not_le.2 h3)]
   split <;> simp_all
  rw [hr]
  repeat' first | refine vb rfl rfl rfl rfl ?_ | refine vs T rfl fun K hK => ?_; (try simp (disch := omega) only [go_sem, Nat.reduceBEq, Nat.reduceAdd, e1, e2, e3, bufsR_len]); (refine hK _ _ ?_; clear hK K) | refine st rfl ?_ | refine sc rfl ?_ | refine nl ?_ | refine gs rfl rfl ?_ | exact ret1 T (List.nil_sublist _) ⟨rfl, rfl⟩
 have e3 : decide (loc < 0) = false := by simpa using h3
 obtain ⟨j, rfl⟩ : ∃ j : Nat, loc = (j : Int) := ⟨loc.toNat, by omega⟩
 by_cases h4 : (j : Int) ≥ (c.mem.length : Int)
 ·have e4 : decide ((j : Int) ≥ (c.mem.length : Int)) = true := by simpa using h4
  have hn : c.mem[j]? = none := List.getElem?_eq_none (by omega)
  have hr : readF c i j = 0 := by
   unfold readF
   rw [show ((j : Int)).toNat = j from rfl, hn]
   split <;> simp_all
  rw [hr]
  repeat' first | refine vb rfl rfl rfl rfl ?_ | refine vs T rfl fun K hK => ?_; (try simp (disch := omega) only [go_sem, Nat.reduceBEq, Nat.reduceAdd, e1, e2, e3, e4, bufsR_len, iRs_len]); (refine hK _ _ ?_; clear hK K) | refine st rfl ?_ | refine sc rfl ?_ | refine nl ?_ | refine gs rfl rfl ?_ | exact ret1 T (List.nil_sublist _) ⟨rfl, rfl⟩
 have e4 : decide ((j : Int) ≥ (c.mem.length : Int)) = false := by simpa using h4
 obtain ⟨b, hb⟩ : ∃ b, c.bufs[i]? = some b := ⟨_, List.getElem?_eq_getElem (by omega)⟩
 obtain ⟨n, hn⟩ : ∃ n, c.mem[j]? = some n := ⟨_, List.getElem?_eq_getElem (by omega)⟩
 have rb : (bufsR c.bufs)[i]? = some [buf b] := by rw [bufsR_at, hb]; rfl
 have rn : (iRs c.mem)[j]? = some [iD n] := by rw [iRs_at, hn]; rfl
 have hbl := hc b (List.mem_of_getElem? hb)
 have hil : i < c.bufs.length := by omega
 have hjl : j < c.mem.length := by omega
 have hr : readF c i j = (lastF j b).getD n := by simp [readF, hb, hn]
 rw [hr]
 have cl := last_ok b (by omega) (j : Int)
 cases hl : lastF (j : Int) b with
 | none =>
  rw [hl] at cl
  have cl' : Pure Tryz.prog 231 [buf b, iD (j : Int)] (.tup [iD 0, bD false]) := cl
  repeat' first | refine vb rfl rfl rfl rfl ?_ | refine vs T rfl fun K hK => ?_; (try simp (disch := omega) only [go_sem, Nat.reduceBEq, Nat.reduceAdd, e1, e2, e3, e4, rb, rn, bufsR_len, iRs_len]); (first | refine hK _ _ ?_; clear hK K | refine ⟨?_, hK _ _ ?_⟩ <;> clear hK K; focus (try omega) | refine Op1.callp rfl rfl (cl') rfl ?_; refine hK _ _ ?_; clear hK K) | refine st rfl ?_ | refine sc rfl ?_ | refine nl ?_ | refine gs rfl rfl ?_ | exact ret1 T (List.nil_sublist _) ⟨rfl, rfl⟩
 | some v =>
  rw [hl] at cl
  have cl' : Pure Tryz.prog 231 [buf b, iD (j : Int)] (.tup [iD v, bD true]) := cl
  repeat' first | refine vb rfl rfl rfl rfl ?_ | refine vs T rfl fun K hK => ?_; (try simp (disch := omega) only [go_sem, Nat.reduceBEq, Nat.reduceAdd, e1, e2, e3, e4, rb, bufsR_len, iRs_len]); (first | refine hK _ _ ?_; clear hK K | refine ⟨?_, hK _ _ ?_⟩ <;> clear hK K; focus (try omega) | refine Op1.callp rfl rfl (cl') rfl ?_; refine hK _ _ ?_; clear hK K) | refine st rfl ?_ | refine sc rfl ?_ | refine nl ?_ | refine gs rfl rfl ?_ | exact ret1 T (List.nil_sublist _) ⟨rfl, rfl⟩
theorem rreads_ok (c : Cf) (hc : shortB c) (t loc : Int) : Pure Tryz.prog 139 [.agg (cfC c), iD t, iD loc] (iD (readF c t loc)) := by
 refine Fun.of T [.tmp 6] Tryz.func139 rfl Tryz.ntmps139 Tryz.results139 rfl (by kernel_rfl) ?_
 by_cases h1 : t < 0
 ·have e1 : decide (t < 0) = true := by simpa using h1
  have hr : readF c t loc = 0 := by simp [readF, Int.not_le.2 h1]
  rw [hr]
  repeat' first | refine vb rfl rfl rfl rfl ?_ | refine vs T rfl fun K hK => ?_; (try simp (disch := omega) only [go_sem, Nat.reduceBEq, Nat.reduceAdd, e1]); (refine hK _ _ ?_; clear hK K) | refine st rfl ?_ | refine sc rfl ?_ | refine nl ?_ | refine gs rfl rfl ?_ | exact ret1 T (List.nil_sublist _) ⟨rfl, rfl⟩
 have e1 : decide (t < 0) = false := by simpa using h1
 obtain ⟨i, rfl⟩ : ∃ i : Nat, t = (i : Int) := ⟨t.toNat, by omega⟩
 by_cases h2 : (i : Int) ≥ (c.bufs.length : Int)
 ·have e2 : decide ((i : Int) ≥ (c.bufs.length : Int)) = true := by simpa using h2
  have hn : c.bufs[i]? = none := List.getElem?_eq_none (by omega)
  have hr : readF c i loc = 0 := by simp [readF, hn]
  rw [hr]
  repeat' first | refine vb rfl rfl rfl rfl ?_ | refine vs T rfl fun K hK => ?_; (try simp (disch := omega) only [go_sem, Nat.reduceBEq, Nat.reduceAdd, e1, e2, bufsR_len]); (refine hK _ _ ?_; clear hK K) | refine st rfl ?_ | refine sc rfl ?_ | refine nl ?_ | refine gs rfl rfl ?_ | exact ret1 T (List.nil_sublist _) ⟨rfl, rfl⟩
 have e2 : decide ((i : Int) ≥ (c.bufs.length : Int)) = false := by simpa using h2
 by_cases h3 : loc < 0
 ·have e3 : decide (loc < 0) = true := by simpa using h3
  have hr : readF c i loc = 0 := by
   unfold readF
   rw [decide_eq_false (Int.not_le.2 h3)]
   split <;> simp_all
  rw [hr]
  repeat' first | refine vb rfl rfl rfl rfl ?_ | refine vs T rfl fun K hK => ?_; (try simp (disch := omega) only [go_sem, Nat.reduceBEq, Nat.reduceAdd, e1, e2, e3, bufsR_len]); (refine hK _ _ ?_; clear hK K) | refine st rfl ?_ | refine sc rfl ?_ | refine nl ?_ | refine gs rfl rfl ?_ | exact ret1 T (List.nil_sublist _) ⟨rfl, rfl⟩
 have e3 : decide (loc < 0) = false := by simpa using h3
 obtain ⟨j, rfl⟩ : ∃ j : Nat, loc = (j : Int) := ⟨loc.toNat, by omega⟩
 by_cases h4 : (j : Int) ≥ (c.mem.length : Int)
 ·have e4 : decide ((j : Int) ≥ (c.mem.length : Int)) = true := by simpa using h4
  have hn : c.mem[j]? = none := List.getElem?_eq_none (by omega)
  have hr : readF c i j = 0 := by
   unfold readF
   rw [show ((j : Int)).toNat = j from rfl, hn]
   split <;> simp_all
  rw [hr]
  repeat' first | refine vb rfl rfl rfl rfl ?_ | refine vs T rfl fun K hK => ?_; (try simp (disch := omega) only [go_sem, Nat.reduceBEq, Nat.reduceAdd, e1, e2, e3, e4, bufsR_len, iRs_len]); (refine hK _ _ ?_; clear hK K) | refine st rfl ?_ | refine sc rfl ?_ | refine nl ?_ | refine gs rfl rfl ?_ | exact ret1 T (List.nil_sublist _) ⟨rfl, rfl⟩
 have e4 : decide ((j : Int) ≥ (c.mem.length : Int)) = false := by simpa using h4
 obtain ⟨b, hb⟩ : ∃ b, c.bufs[i]? = some b := ⟨_, List.getElem?_eq_getElem (by omega)⟩
 obtain ⟨n, hn⟩ : ∃ n, c.mem[j]? = some n := ⟨_, List.getElem?_eq_getElem (by omega)⟩
 have rb : (bufsR c.bufs)[i]? = some [buf b] := by rw [bufsR_at, hb]; rfl
 have rn : (iRs c.mem)[j]? = some [iD n] := by rw [iRs_at, hn]; rfl
 have hbl := hc b (List.mem_of_getElem? hb)
 have hil : i < c.bufs.length := by omega
 have hjl : j < c.mem.length := by omega
 have hr : readF c i j = (lastF j b).getD n := by simp [readF, hb, hn]
 rw [hr]
 have cl := rlast_ok b (by omega) (j : Int)
 cases hl : lastF (j : Int) b with
 | none =>
  rw [hl] at cl
  have cl' : Pure Tryz.prog 165 [buf b, iD (j : Int)] (.tup [iD 0, bD false]) := cl
  repeat' first | refine vb rfl rfl rfl rfl ?_ | refine vs T rfl fun K hK => ?_; (try simp (disch := omega) only [go_sem, Nat.reduceBEq, Nat.reduceAdd, e1, e2, e3, e4, rb, rn, bufsR_len, iRs_len]); (first | refine hK _ _ ?_; clear hK K | refine ⟨?_, hK _ _ ?_⟩ <;> clear hK K; focus (try omega) | refine Op1.callp rfl rfl (cl') rfl ?_; refine hK _ _ ?_; clear hK K) | refine st rfl ?_ | refine sc rfl ?_ | refine nl ?_ | refine gs rfl rfl ?_ | exact ret1 T (List.nil_sublist _) ⟨rfl, rfl⟩
 | some v =>
  rw [hl] at cl
  have cl' : Pure Tryz.prog 165 [buf b, iD (j : Int)] (.tup [iD v, bD true]) := cl
  repeat' first | refine vb rfl rfl rfl rfl ?_ | refine vs T rfl fun K hK => ?_; (try simp (disch := omega) only [go_sem, Nat.reduceBEq, Nat.reduceAdd, e1, e2, e3, e4, rb, bufsR_len, iRs_len]); (first | refine hK _ _ ?_; clear hK K | refine ⟨?_, hK _ _ ?_⟩ <;> clear hK K; focus (try omega) | refine Op1.callp rfl rfl (cl') rfl ?_; refine hK _ _ ?_; clear hK K) | refine st rfl ?_ | refine sc rfl ?_ | refine nl ?_ | refine gs rfl rfl ?_ | exact ret1 T (List.nil_sublist _) ⟨rfl, rfl⟩
def flushB (c : Cf) (m t loc : Int) : Bool := match decide (0 ≤ t), c.bufs[t.toNat]? with
 | true, some b => (popF m loc b).2.2
 | _, _ => false
theorem flushes_ok (c : Cf) (hc : shortB c) (m t loc : Int) : Pure Tryz.prog 240 [.agg (cfC c), iD m, iD t, iD loc] (bD (flushB c m t loc)) := by
 refine Fun.of T [.tmp 8] Tryz.func240 rfl Tryz.ntmps240 Tryz.results240 rfl (by kernel_rfl) ?_
 by_cases h1 : t < 0
 ·have e1 : decide (t < 0) = true := by simpa using h1
  have hr : flushB c m t loc = false := by simp [flushB, Int.not_le.2 h1]
  rw [hr]
  repeat' first | refine vb rfl rfl rfl rfl ?_ | refine vs T rfl fun K hK => ?_; (try simp (disch := omega) only [go_sem, Nat.reduceBEq, Nat.reduceAdd, e1]); (refine hK _ _ ?_; clear hK K) | refine st rfl ?_ | refine sc rfl ?_ | refine nl ?_ | refine gs rfl rfl ?_ | exact ret1 T (List.nil_sublist _) ⟨rfl, rfl⟩
 have e1 : decide (t < 0) = false := by simpa using h1
 obtain ⟨i, rfl⟩ : ∃ i : Nat, t = (i : Int) := ⟨t.toNat, by omega⟩
 by_cases h2 : (i : Int) ≥ (c.bufs.length : Int)
 ·have e2 : decide ((i : Int) ≥ (c.bufs.length : Int)) = true := by simpa using h2
  have hn : c.bufs[i]? = none := List.getElem?_eq_none (by omega)
  have hr : flushB c m i loc = false := by simp [flushB, hn]
  rw [hr]
  repeat' first | refine vb rfl rfl rfl rfl ?_ | refine vs T rfl fun K hK => ?_; (try simp (disch := omega) only [go_sem, Nat.reduceBEq, Nat.reduceAdd, e1, e2, bufsR_len]); (refine hK _ _ ?_; clear hK K) | refine st rfl ?_ | refine sc rfl ?_ | refine nl ?_ | refine gs rfl rfl ?_ | exact ret1 T (List.nil_sublist _) ⟨rfl, rfl⟩
 have e2 : decide ((i : Int) ≥ (c.bufs.length : Int)) = false := by simpa using h2
 obtain ⟨b, hb⟩ : ∃ b, c.bufs[i]? = some b := ⟨_, List.getElem?_eq_getElem (by omega)⟩
 have rb : (bufsR c.bufs)[i]? = some [buf b] := by rw [bufsR_at, hb]; rfl
 have hbl := hc b (List.mem_of_getElem? hb)
 have hil : i < c.bufs.length := by omega
 have hr : flushB c m i loc = (popF m loc b).2.2 := by simp [flushB, hb]
 rw [hr]
 have cl : Pure Tryz.prog 241 [buf b, iD m, iD loc] (.tup [buf (popF m loc b).1, .agg [iD (popF m loc b).2.1.1, iD (popF m loc b).2.1.2], bD (popF m loc b).2.2]) := pop_ok b (by omega) m loc
 repeat' first | refine vb rfl rfl rfl rfl ?_ | refine vs T rfl fun K hK => ?_; (try simp (disch := omega) only [go_sem, Nat.reduceBEq, Nat.reduceAdd, Nat.reduceLeDiff, e1, e2, rb, bufsR_len]); (first | refine hK _ _ ?_; clear hK K | intro bq hbq; (try simp only [HB] at hbq); refine hK _ _ ?_; clear hK K | refine ⟨?_, hK _ _ ?_⟩ <;> clear hK K; focus (try omega) | refine Op1.callp rfl rfl (cl) rfl ?_; refine hK _ _ ?_; clear hK K) | refine st rfl ?_ | refine sc rfl ?_ | refine nl ?_ | refine gs rfl rfl ?_ | exact ret1 T (List.nil_sublist _) ⟨rfl, rfl⟩
theorem rflushes_ok (c : Cf) (hc : shortB c) (m t loc : Int) : Pure Tryz.prog 126 [.agg (cfC c), iD m, iD t, iD loc] (bD (flushB c m t loc)) := by
 refine Fun.of T [.tmp 8] Tryz.func126 rfl Tryz.ntmps126 Tryz.results126 rfl (by kernel_rfl) ?_
 by_cases h1 : t < 0
 ·have e1 : decide (t < 0) = true := by simpa using h1
  have hr : flushB c m t loc = false := by simp [flushB, Int.not_le.2 h1]
  rw [hr]
  repeat' first | refine vb rfl rfl rfl rfl ?_ | refine vs T rfl fun K hK => ?_; (try simp (disch := omega) only [go_sem, Nat.reduceBEq, Nat.reduceAdd, e1]); (refine hK _ _ ?_; clear hK K) | refine st rfl ?_ | refine sc rfl ?_ | refine nl ?_ | refine gs rfl rfl ?_ | exact ret1 T (List.nil_sublist _) ⟨rfl, rfl⟩
 have e1 : decide (t < 0) = false := by simpa using h1
 obtain ⟨i, rfl⟩ : ∃ i : Nat, t = (i : Int) := ⟨t.toNat, by omega⟩
 by_cases h2 : (i : Int) ≥ (c.bufs.length : Int)
 ·have e2 : decide ((i : Int) ≥ (c.bufs.length : Int)) = true := by simpa using h2
  have hn : c.bufs[i]? = none := List.getElem?_eq_none (by omega)
  have hr : flushB c m i loc = false := by simp [flushB, hn]
  rw [hr]
  repeat' first | refine vb rfl rfl rfl rfl ?_ | refine vs T rfl fun K hK => ?_; (try simp (disch := omega) only [go_sem, Nat.reduceBEq, Nat.reduceAdd, e1, e2, bufsR_len]); (refine hK _ _ ?_; clear hK K) | refine st rfl ?_ | refine sc rfl ?_ | refine nl ?_ | refine gs rfl rfl ?_ | exact ret1 T (List.nil_sublist _) ⟨rfl, rfl⟩
 have e2 : decide ((i : Int) ≥ (c.bufs.length : Int)) = false := by simpa using h2
 obtain ⟨b, hb⟩ : ∃ b, c.bufs[i]? = some b := ⟨_, List.getElem?_eq_getElem (by omega)⟩
 have rb : (bufsR c.bufs)[i]? = some [buf b] := by rw [bufsR_at, hb]; rfl
 have hbl := hc b (List.mem_of_getElem? hb)
 have hil : i < c.bufs.length := by omega
 have hr : flushB c m i loc = (popF m loc b).2.2 := by simp [flushB, hb]
 rw [hr]
 have cl : Pure Tryz.prog 141 [buf b, iD m, iD loc] (.tup [buf (popF m loc b).1, .agg [iD (popF m loc b).2.1.1, iD (popF m loc b).2.1.2], bD (popF m loc b).2.2]) := rpop_ok b (by omega) m loc
 repeat' first | refine vb rfl rfl rfl rfl ?_ | refine vs T rfl fun K hK => ?_; (try simp (disch := omega) only [go_sem, Nat.reduceBEq, Nat.reduceAdd, Nat.reduceLeDiff, e1, e2, rb, bufsR_len]); (first | refine hK _ _ ?_; clear hK K | intro bq hbq; (try simp only [HB] at hbq); refine hK _ _ ?_; clear hK K | refine ⟨?_, hK _ _ ?_⟩ <;> clear hK K; focus (try omega) | refine Op1.callp rfl rfl (cl) rfl ?_; refine hK _ _ ?_; clear hK K) | refine st rfl ?_ | refine sc rfl ?_ | refine nl ?_ | refine gs rfl rfl ?_ | exact ret1 T (List.nil_sublist _) ⟨rfl, rfl⟩
theorem all_of {α : Type} {l : List α} {p : α → Bool} (h : ∀ (i : Nat) (x : α), i < l.length → l[i]? = some x → p x = true) : l.all p = true := by
 rw [List.all_eq_true]
 intro x hx
 obtain ⟨i, hi⟩ := List.getElem?_of_mem hx
 exact h i x (List.getElem?_eq_some_iff.1 hi).1 hi
theorem all_not {α : Type} {l : List α} {p : α → Bool} {i : Nat} {x : α} (h : l[i]? = some x) (hp : p x = false) : l.all p = false := by
 rw [List.all_eq_false]
 exact ⟨x, List.mem_of_getElem? h, by simp [hp]⟩
theorem step_of {α : Type} {l : List α} {p : α → Bool} {k : Nat} {x : α} (hs : ∀ (i : Nat) (y : α), i < k → l[i]? = some y → p y = true) (hx : l[k]? = some x) (hp : p x = true) : ∀ (i : Nat) (y : α), i < k + 1 → l[i]? = some y → p y = true := fun i y hi hy => by
 rcases Nat.lt_or_ge i k with h | h
 ·exact hs i y h hy
 ·obtain rfl : i = k := by omega
  rw [hx] at hy; cases hy; exact hp
end Go.Proofs.YtomcmfbpmkklmaaGreat
