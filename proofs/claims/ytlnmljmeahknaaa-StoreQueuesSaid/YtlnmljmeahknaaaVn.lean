/- A region that draws its order: one walk in the order of the text. No condition. -/
import Derived.Test.YtlnmljmeahknaaaVm
namespace Go.Vc
set_option linter.unusedSimpArgs false
open Go
set_option linter.unusedVariables false

/-- What an operation waits for. -/
def edgesAt (ops : Array Oper) (i : Nat) : List Nat := match ops[i]? with | some o => (o.after.toList.filter fun e => Region.binds .any e).map (·.on) | none => []
/-- .. directly, or through others. -/
def reachE (ops : Array Oper) : Nat → Nat → Nat → Bool
  | 0, _, _ => false
  | n + 1, i, k => (edgesAt ops i).any fun e => e == k || (Nat.blt k e && reachE ops n e k)
def hasEdge (ops : Array Oper) (i k : Nat) : Bool := reachE ops ops.size i k
theorem mem_edges {ops : Array Oper} {i e : Nat} : e ∈ edgesAt ops i ↔ ∃ o ed, ops[i]? = some o ∧ ed ∈ o.after ∧ Region.binds .any ed = true ∧ ed.on = e := by
  unfold edgesAt
  cases h : ops[i]? with
  | none => simp
  | some o => simp [List.mem_map, List.mem_filter]; constructor
              · rintro ⟨ed, ⟨h1, h2⟩, h3⟩; exact ⟨ed, h1, h2, h3⟩
              · rintro ⟨ed, h1, h2, h3⟩; exact ⟨ed, ⟨h1, h2⟩, h3⟩
theorem reach_listed {ops : Array Oper} {S : Nat → Prop} (down : ∀ j e, S j → e ∈ edgesAt ops j → S e) : ∀ n i k, (∀ e, e ∈ edgesAt ops i → S e) → reachE ops n i k = true → S k
  | 0, i, k, _, h => by simp [reachE] at h
  | n + 1, i, k, hi, h => by
    simp only [reachE, List.any_eq_true, Bool.or_eq_true, Bool.and_eq_true, beq_iff_eq] at h
    obtain ⟨e, he, h⟩ := h
    rcases h with rfl | ⟨_, h⟩
    · exact hi e he
    · exact reach_listed down n e k (fun e' he' => down e e' (hi e he) he') h
def dstAt (ops : Array Oper) (i : Nat) : Option Tmp := (ops[i]?).bind (·.dst)
def looks (ops : Array Oper) (i : Nat) : List Tmp := match ops[i]? with | some o => o.looksAt ops | none => []

/-- The first 'f' operations in whatever order, then the others, each of which waits for all ahead of it. -/
def drawOk (ops : Array Oper) (f : Nat) : Bool :=
  Nat.ble f ops.size &&
  ((List.range ops.size).all fun i => match ops[i]? with | some o => o.after.toList.all fun e => !Region.binds .any e || Nat.blt e.on i | none => true) &&
  ((List.range f).all fun i => (looks ops i).all fun t => (List.range ops.size).all fun k => k == i || !(dstAt ops k == some t) || (Nat.blt k i && hasEdge ops i k) || (Nat.blt i k && (Nat.ble f k || hasEdge ops k i))) &&
  ((List.range f).all fun i => (List.range f).all fun k => k == i || (dstAt ops i).isNone || !(dstAt ops k == dstAt ops i)) &&
  ((List.range ops.size).all fun j => Nat.blt j f || (List.range j).all fun k => hasEdge ops j k)

structure DrawOk (ops : Array Oper) (f : Nat) : Prop where
  le : f ≤ ops.size
  back : ∀ i o, ops[i]? = some o → ∀ e ∈ o.after, Region.binds .any e = true → e.on < i
  reads : ∀ i, i < f → ∀ t ∈ looks ops i, ∀ k, k < ops.size → k ≠ i → dstAt ops k = some t → (k < i ∧ hasEdge ops i k = true) ∨ (i < k ∧ (f ≤ k ∨ hasEdge ops k i = true))
  uniq : ∀ i k, i < f → k < f → k ≠ i → dstAt ops i ≠ none → dstAt ops k ≠ dstAt ops i
  tail : ∀ j, j < ops.size → f ≤ j → ∀ k, k < j → hasEdge ops j k = true

theorem drawOk_spec {ops : Array Oper} {f : Nat} (h : drawOk ops f = true) : DrawOk ops f := by
  simp only [drawOk, Bool.and_eq_true, List.all_eq_true, List.mem_range, Bool.or_eq_true, Nat.ble_eq, Nat.blt_eq, beq_iff_eq, Bool.not_eq_true', beq_eq_false_iff_ne, ne_eq] at h
  obtain ⟨⟨⟨⟨h1, h2⟩, h3⟩, h4⟩, h5⟩ := h
  refine ⟨h1, fun i o hi e he hb => ?_, fun i hi t ht k hk hki hd => ?_, fun i k hi hk hki hn => ?_, fun j hj hf k hk => ?_⟩
  · have hlt : i < ops.size := by
      rcases Nat.lt_or_ge i ops.size with h' | h'
      · exact h'
      · simp [Array.getElem?_eq_none h'] at hi
    have := h2 i hlt
    rw [hi] at this
    simp only [List.all_eq_true, Bool.or_eq_true, Bool.not_eq_true', Nat.blt_eq] at this
    rcases this e (Array.mem_toList_iff.2 he) with h' | h'
    · rw [hb] at h'; cases h'
    · exact h'
  · rcases h3 i hi t ht k hk with ((h' | h') | h') | h'
    · exact absurd h' hki
    · exact absurd hd h'
    · exact .inl h'
    · exact .inr ⟨h'.1, h'.2⟩
  · rcases h4 i hi k hk with (h' | h') | h'
    · exact absurd h' hki
    · exact absurd (Option.isNone_iff_eq_none.1 h') hn
    · exact h'
  · rcases h5 j hj with h' | h'
    · omega
    · exact h' k hk

/-- What came of an operation: what is known of its value; it was passed over; or a new variable. -/
inductive FRes where
  | det (d : D)
  | skip
  | new (ty : TypeId) (z : List D)

def FRes.d : FRes → D
  | .det d => d
  | .skip => .is undef
  | .new _ _ => .any

def envG (ops : Array Oper) (i : Nat) (E0 : Nat → D) (res : Nat → FRes) : Nat → Nat → D
  | 0 => E0
  | j + 1 => updO (envG ops i E0 res j) (dstAt ops (i + j)) (res (i + j)).d

def newsOf : FRes → Option Tmp → List (Tmp × TypeId × List D)
  | .new ty z, some t => [(t, ty, z)]
  | _, _ => []
theorem newsOf_det (d : D) (x : Option Tmp) : newsOf (.det d) x = [] := by cases x <;> rfl
theorem newsOf_skip (x : Option Tmp) : newsOf .skip x = [] := by cases x <;> rfl
def newsAt (ops : Array Oper) (res : Nat → FRes) (i : Nat) : List (Tmp × TypeId × List D) := newsOf (res i) (dstAt ops i)
def newsG (ops : Array Oper) (res : Nat → FRes) : Nat → Nat → List (Tmp × TypeId × List D)
  | _, 0 => []
  | i, m + 1 => newsAt ops res i ++ newsG ops res (i + 1) m

def FOk (P : Program) (ops : Array Oper) (E : Nat → D) (H : Heap) (o : Oper) : FRes → Prop
  | .det d => (o.guard = none ∨ ∃ j want g, o.guard = some (j, want) ∧ dstAt ops j = some g ∧ E g = .is (.bool want)) ∧ OpS P o (evD E) H (fun d' H' => d' = d ∧ H' = H)
  | .skip => ∃ j want g, o.guard = some (j, want) ∧ dstAt ops j = some g ∧ (E g = .is (.bool (!want)) ∨ E g = .is undef)
  | .new ty z => o.guard = none ∧ (∃ t, o.dst = some t) ∧ z.all oneD = true ∧ ∀ (w : World) (L : Nat → Prop) (ε : Operand → Value),
      ∃ arr, (execOp ε o).run P w = .ok (.value (.pointer (some ⟨w.heap.size, 0, none⟩))) (w.alloc (.cells arr ty)) ∧ arr.size = z.length ∧ RelL w L z arr.toList

/-- The walk of the first operations, in the order of the text. -/
def VCf {P : Program} (T : Tab P) (ops : Array Oper) (H : Heap) (K : (Nat → D) → List (Tmp × TypeId × List D) → Prop) : Nat → Nat → (Nat → D) → List (Tmp × TypeId × List D) → Prop
  | 0, _, E, news => K E news
  | m + 1, i, E, news => ∃ o r, ops[i]? = some o ∧ FOk P ops E H o r ∧
      VCf T ops H K m (i + 1) (updO E o.dst r.d) (news ++ newsOf r o.dst)

section
variable {P : Program} (T : Tab P) {ops : Array Oper} {H : Heap} {K : (Nat → D) → List (Tmp × TypeId × List D) → Prop} {m i : Nat} {E : Nat → D} {news : List (Tmp × TypeId × List D)} {o : Oper}

theorem VCf.nil (h : K E news) : VCf T ops H K 0 i E news := h

theorem opS_of {d : D} (h : opC T o (evD E) H (fun d' H' => d' = d ∧ H' = H)) : OpS P o (evD E) H (fun d' H' => d' = d ∧ H' = H) :=
  let ⟨_, h1, h2⟩ := opC_sound T h
  h1.mono h2

theorem VCf.step {d : D} (ho : ops[i]? = some o) (hg : o.guard = none) (h1 : opC T o (evD E) H (fun d' H' => d' = d ∧ H' = H)) (h2 : VCf T ops H K m (i + 1) (updO E o.dst d) news) : VCf T ops H K (m + 1) i E news :=
  ⟨o, .det d, ho, ⟨.inl hg, opS_of T h1⟩, by rw [newsOf_det, List.append_nil]; exact h2⟩

theorem VCf.step1 {d : D} {t : Tmp} (ho : ops[i]? = some o) (hg : o.guard = none) (ht : o.dst = some t) (h1 : opC T o (evD E) H (fun d' H' => d' = d ∧ H' = H)) (h2 : VCf T ops H K m (i + 1) (upd E t d) news) :
    VCf T ops H K (m + 1) i E news := VCf.step T ho hg h1 (by rw [ht]; exact h2)

theorem VCf.alloc {t : TypeId} {s : Tmp} (ho : ops[i]? = some o) (hg : o.guard = none) (hop : o.op = .alloc t) (hd : o.dst = some s) (hk : (T.get t).known = true) (hz : ((T.get t).zero.map constD).all oneD = true)
    (h2 : VCf T ops H K m (i + 1) (upd E s .any) (news ++ [(s, t, (T.get t).zero.map constD)])) : VCf T ops H K (m + 1) i E news := by
  refine ⟨o, .new t ((T.get t).zero.map constD), ho, ⟨hg, ⟨s, hd⟩, hz, fun w L ε => ?_⟩, by rw [hd]; exact h2⟩
  obtain ⟨d, inf, z, hu, hinf, hz', _, _, hsz, hzl, hlen, _⟩ := T.facts hk
  refine ⟨z.cells, ?_, by rw [List.length_map, ← hzl, Array.length_toList], by rw [hzl]; exact constL_rel _ _ _⟩
  simp only [execOp, hop, Instr.alloc]
  refine (run_bind (a := .pointer (some ⟨w.heap.size, 0, none⟩)) (w' := w.alloc (.cells z.cells t)) ?_).trans rfl
  refine (run_bind (a := z) (w' := w) (by unfold zeroValue; rw [run_bind (run_info hinf w), hz']; rfl)).trans ?_
  rfl

theorem VCf.gstep {j g : Nat} {want t : Bool} (ho : ops[i]? = some o) (hg : o.guard = some (j, want)) (hj : (ops[j]?).bind (·.dst) = some g) (ht : E g = .is (.bool t))
    (h : gsplit t fun t' => bif sameB t' want then (∃ d, opC T o (evD (upd E g (.is (.bool t')))) H (fun d' H' => d' = d ∧ H' = H) ∧ VCf T ops H K m (i + 1) (updO (upd E g (.is (.bool t'))) o.dst d) news)
      else VCf T ops H K m (i + 1) (updO (upd E g (.is (.bool t'))) o.dst (.is undef)) news) : VCf T ops H K (m + 1) i E news := by
  have h1 := gsplit_elim h
  simp only [upd_self ht] at h1
  have e : ∀ a b : Bool, sameB a b = (a == b) := by decide
  rw [e] at h1
  by_cases hw : t = want
  · subst hw
    rw [beq_self_eq_true, cond_true] at h1
    obtain ⟨d, h2, h3⟩ := h1
    exact ⟨o, .det d, ho, ⟨.inr ⟨j, t, g, hg, hj, ht⟩, opS_of T h2⟩, by rw [newsOf_det, List.append_nil]; exact h3⟩
  · have hb : (t == want) = false := by simpa using hw
    rw [hb, cond_false] at h1
    have : t = !want := by cases t <;> cases want <;> first | rfl | exact absurd rfl hw
    exact ⟨o, .skip, ho, ⟨j, want, g, hg, hj, .inl (this ▸ ht)⟩, by rw [newsOf_skip, List.append_nil]; exact h1⟩
end

/-- The new variables, each in a block of one's own. -/
def allK : List (Tmp × TypeId × List D) → (Nat → D) → Heap → ((Nat → D) → Heap → Prop) → Prop
  | [], E, H, K => K E H
  | (t, ty, z) :: r, E, H, K => ∀ b, b ∉ H.blocks → allK r (upd E t (.is (.pointer (some ⟨b, 0, none⟩)))) ((b, .cells ty z.length z) :: H) K

theorem envG_shift {ops : Array Oper} {res : Nat → FRes} {i : Nat} {E : Nat → D} : ∀ j, envG ops i E res (j + 1) = envG ops (i + 1) (updO E (dstAt ops i) (res i).d) res j
  | 0 => rfl
  | j + 1 => by
    rw [envG, envG_shift j, envG, show i + (j + 1) = i + 1 + j by omega]

theorem envG_congr {ops : Array Oper} {res res' : Nat → FRes} {i : Nat} {E : Nat → D} (h : ∀ k, i ≤ k → res k = res' k) : ∀ j, envG ops i E res j = envG ops i E res' j
  | 0 => rfl
  | j + 1 => by rw [envG, envG, envG_congr h j, h _ (by omega)]

theorem newsG_congr {ops : Array Oper} {res res' : Nat → FRes} : ∀ m i, (∀ k, i ≤ k → res k = res' k) → newsG ops res i m = newsG ops res' i m
  | 0, _, _ => rfl
  | m + 1, i, h => by
    rw [newsG, newsG, newsG_congr m (i + 1) (fun k hk => h k (by omega)), newsAt, newsAt, h i (Nat.le_refl _)]

theorem VCf.extract {P : Program} {T : Tab P} {ops : Array Oper} {H : Heap} {K : (Nat → D) → List (Tmp × TypeId × List D) → Prop} : ∀ (m i : Nat) (E : Nat → D) (news : List (Tmp × TypeId × List D)), VCf T ops H K m i E news →
    ∃ res : Nat → FRes, (∀ j, j < m → ∃ o, ops[i + j]? = some o ∧ FOk P ops (envG ops i E res j) H o (res (i + j))) ∧ K (envG ops i E res m) (news ++ newsG ops res i m)
  | 0, i, E, news, h => ⟨fun _ => .skip, fun j hj => by omega, by rw [newsG, List.append_nil]; exact h⟩
  | m + 1, i, E, news, h => by
    obtain ⟨o, r, ho, hok, h2⟩ := h
    obtain ⟨res', h3, h4⟩ := VCf.extract m (i + 1) _ _ h2
    let res : Nat → FRes := fun k => if k = i then r else res' k
    have hri : res i = r := by simp [res]
    have hr : ∀ k, i + 1 ≤ k → res' k = res k := fun k hk => by simp only [res]; rw [if_neg (by omega)]
    have hd : dstAt ops i = o.dst := by simp [dstAt, ho]
    have hen : ∀ j, envG ops i E res (j + 1) = envG ops (i + 1) (updO E o.dst r.d) res' j := fun j => by
      rw [envG_shift, hri, hd, envG_congr (fun k hk => (hr k hk).symm)]
    refine ⟨res, fun j hj => ?_, ?_⟩
    · cases j with
      | zero => exact ⟨o, ho, by rw [Nat.add_zero, hri]; exact hok⟩
      | succ j =>
        obtain ⟨o', h5, h6⟩ := h3 j (by omega)
        rw [show i + (j + 1) = i + 1 + j by omega]
        refine ⟨o', h5, ?_⟩
        rw [hen, ← hr _ (by omega)]
        exact h6
    · rw [hen, newsG, newsG_congr m (i + 1) (fun k hk => (hr k hk).symm)]
      rw [newsAt, hri, hd, ← List.append_assoc]
      exact h4

theorem envG_none {ops : Array Oper} {res : Nat → FRes} {E : Nat → D} {t : Tmp} : ∀ i, (∀ k, k < i → dstAt ops k ≠ some t) → envG ops 0 E res i t = E t
  | 0, _ => rfl
  | i + 1, h => by
    rw [envG, Nat.zero_add]
    have h1 := h i (by omega)
    cases hd : dstAt ops i with
    | none => simp only [updO]; exact envG_none i fun k hk => h k (by omega)
    | some s =>
      have hne : (s == t) = false := by
        rw [beq_eq_false_iff_ne]
        intro e; exact h1 (by rw [hd, e])
      simp only [updO, upd, hne, cond_false]
      exact envG_none i fun k hk => h k (by omega)

theorem envG_some {ops : Array Oper} {res : Nat → FRes} {E : Nat → D} {t : Tmp} {k : Nat} : ∀ i, k < i → dstAt ops k = some t → (∀ l, l < i → l ≠ k → dstAt ops l ≠ some t) → envG ops 0 E res i t = (res k).d
  | 0, h, _, _ => by omega
  | i + 1, h, hk, hu => by
    rw [envG, Nat.zero_add]
    by_cases e : k = i
    · subst e
      rw [hk]
      simp [updO, upd]
    · have h1 := hu i (by omega) (fun e' => e e'.symm)
      have ih := envG_some (E := E) (res := res) i (by omega) hk fun l hl => hu l (by omega)
      cases hd : dstAt ops i with
      | none => exact ih
      | some s =>
        have hne : (s == t) = false := by
          rw [beq_eq_false_iff_ne]
          intro e'; exact h1 (by rw [hd, e'])
        simp only [updO, upd, hne, cond_false]
        exact ih

end Go.Vc
